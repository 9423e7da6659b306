/-
  Walks, printed by w2.py.
-/
import Derived.Test.YtlnecfdbmoilbaaDoorCg
import Derived.Test.YtlnecfdbmoilbaaDoorProg
namespace Go.Proofs.YtlnecfdbmoilbaaDoor.K
set_option linter.unusedVariables false
set_option linter.unusedSimpArgs false

set_option maxRecDepth 100000 in
set_option maxHeartbeats 1000000 in
theorem nil_check (a : Int) (n : Int) (w : World) :
    Calls Tryd.prog 59 #[pnil, vi a, vi n] w fun e w' => e = .returned (vi 1) ∧ Fr w w' no no := by
 refine enter (args := [pnil, vi a, vi n]) (D := no) (A := []) Tryd.func59 rfl 71 rfl [] (WS.startL trivial) fun ac hS => ?_
 refine hS.regS [0] [0, 1, 2] fun _ => seg [] [] [] trivial fun ac wd hS => ?_
 refine wp_seq ?_
 refine wp_block ?_
 refine hS.regS [0, 0, 0] [0, 1, 2] fun _ => seg [(11, vb true)] [] [] trivial fun ac wd hS => ?_
 refine hS.condT ?_
 refine hS.regS [0] [] fun _ => seg [(6, vi 1)] [] [] trivial fun ac wd hS => ?_
 refine wp_ret ?_
 refine pop_block_ret ?_
 refine pop_then_ret ?_
 refine St.retC 0 hS (vi 1) [] trivial fun hw => ?_
 refine ⟨retd rfl, hw.fr0⟩

set_option maxRecDepth 100000 in
set_option maxHeartbeats 1000000 in
theorem nil_row (f : Int) (n : Int) (w : World) :
    Calls Tryd.prog 57 #[pnil, vi f, vi n] w fun e w' => e = .returned (.tuple #[vi 0, vi 1]) ∧ Fr w w' no no := by
 refine enter (args := [pnil, vi f, vi n]) (D := no) (A := []) Tryd.func57 rfl 23 rfl [] (WS.startL trivial) fun ac hS => ?_
 refine hS.regS [0, 0] [0, 1, 2] fun _ => seg [] [] [] trivial fun ac wd hS => ?_
 refine wp_seq ?_
 refine wp_block ?_
 refine hS.regS [0, 0, 0] [0, 1, 2] fun _ => seg [(8, vb true)] [] [] trivial fun ac wd hS => ?_
 refine hS.condT ?_
 refine hS.regS [0, 0] [] fun _ => seg [(6, vi 0), (7, vi 1)] [] [] trivial fun ac wd hS => ?_
 refine wp_ret ?_
 refine pop_block_ret ?_
 refine pop_then_ret ?_
 refine St.retC 0 hS (.tuple #[vi 0, vi 1]) [] trivial fun hw => ?_
 refine ⟨retd rfl, hw.fr0⟩

set_option maxRecDepth 100000 in
set_option maxHeartbeats 1000000 in
theorem nil_Refuse (n : Int) (w : World) :
    Calls Tryd.prog 34 #[pnil, vi n] w fun e w' => e = .returned (.tuple #[]) ∧ Fr w w' no no := by
 refine enter (args := [pnil, vi n]) (D := no) (A := []) Tryd.func34 rfl 14 rfl [] (WS.startL trivial) fun ac hS => ?_
 refine hS.regS [0, 0] [0, 1] fun _ => seg [(5, vb false)] [] [] trivial fun ac wd hS => ?_
 refine hS.condF ?_
 refine wp_skip ?_
 refine St.fallC 0 hS (.tuple #[]) [] trivial fun hw => ?_
 refine ⟨retd rfl, hw.fr0⟩

set_option maxRecDepth 100000 in
set_option maxHeartbeats 1000000 in
theorem nil_Cap (w : World) :
    Calls Tryd.prog 19 #[pnil] w fun e w' => e = .returned (vi 0) ∧ Fr w w' no no := by
 refine enter (args := [pnil]) (D := no) (A := []) Tryd.func19 rfl 10 rfl [] (WS.startL trivial) fun ac hS => ?_
 refine hS.regS [0] [0] fun _ => seg [] [] [] trivial fun ac wd hS => ?_
 refine wp_seq ?_
 refine hS.regS [0, 0] [0] fun _ => seg [(4, vb true)] [] [] trivial fun ac wd hS => ?_
 refine hS.condT ?_
 refine hS.regS [0] [] fun _ => seg [(2, vi 0)] [] [] trivial fun ac wd hS => ?_
 refine wp_ret ?_
 refine pop_then_ret ?_
 refine St.retC 0 hS (vi 0) [] trivial fun hw => ?_
 refine ⟨retd rfl, hw.fr0⟩

set_option maxRecDepth 100000 in
set_option maxHeartbeats 1000000 in
theorem nil_Committed (w : World) :
    Calls Tryd.prog 20 #[pnil] w fun e w' => e = .returned (vi 0) ∧ Fr w w' no no := by
 refine enter (args := [pnil]) (D := no) (A := []) Tryd.func20 rfl 9 rfl [] (WS.startL trivial) fun ac hS => ?_
 refine hS.regS [0] [0] fun _ => seg [] [] [] trivial fun ac wd hS => ?_
 refine wp_seq ?_
 refine hS.regS [0, 0] [0] fun _ => seg [(4, vb true)] [] [] trivial fun ac wd hS => ?_
 refine hS.condT ?_
 refine hS.regS [0] [] fun _ => seg [(2, vi 0)] [] [] trivial fun ac wd hS => ?_
 refine wp_ret ?_
 refine pop_then_ret ?_
 refine St.retC 0 hS (vi 0) [] trivial fun hw => ?_
 refine ⟨retd rfl, hw.fr0⟩

set_option maxRecDepth 100000 in
set_option maxHeartbeats 1000000 in
theorem nil_Has (i : Int) (w : World) :
    Calls Tryd.prog 33 #[pnil, vi i] w fun e w' => e = .returned (vb false) ∧ Fr w w' no no := by
 refine enter (args := [pnil, vi i]) (D := no) (A := []) Tryd.func33 rfl 15 rfl [] (WS.startL trivial) fun ac hS => ?_
 refine hS.regS [0] [0, 1] fun _ => seg [] [] [] trivial fun ac wd hS => ?_
 refine wp_region_seq ?_
 refine hS.opsC 3 [0, 0, 0] [0, 1] fun _ => seg [(7, vb false)] [] [] trivial fun ac wd hS => ?_
 refine hS.opsC 8 [2, 2, 2, 2, 2, 2, 60, 0] [] fun _ => seg [(4, vb false)] [] [.t false, .t false, .t false, .t false, .t false, .t false, .t false] trivial fun ac wd hS => ?_
 refine list_nil_seq ?_
 refine wp_ret ?_
 refine St.retC 0 hS (vb false) [] trivial fun hw => ?_
 refine ⟨retd rfl, hw.fr0⟩

set_option maxRecDepth 100000 in
set_option maxHeartbeats 1000000 in
theorem nil_Pages (w : World) :
    Calls Tryd.prog 31 #[pnil] w fun e w' => e = .returned (.agg #[vi 0, vnil]) ∧ Fr w w' no no := by
 refine enter (args := [pnil]) (D := no) (A := []) Tryd.func31 rfl 10 rfl [] (WS.startL trivial) fun ac hS => ?_
 refine hS.regS [0] [0] fun ν1 => seg [(2, pt (ν1 0) 0)] [(0, some ((ν1 0), .cells [vi 0, vnil] 58))] [] trivial fun ac wd hS => ?_
 refine wp_seq ?_
 refine hS.regS [0, 0] [0, 2] fun _ => seg [(4, vb true)] [(0, none)] [] trivial fun ac wd hS => ?_
 refine hS.condT ?_
 refine hS.regS [0, 0] [2] fun _ => seg [] [(0, none)] [.e (ν1 0), .e (ν1 0)] trivial fun ac wd hS => ?_
 refine wp_ret ?_
 refine pop_then_ret ?_
 refine St.retC 0 hS (.agg #[vi 0, vnil]) [.e (ν1 0), .e (ν1 0)] trivial fun hw => ?_
 refine ⟨retd rfl, hw.fr0⟩

set_option maxRecDepth 100000 in
set_option maxHeartbeats 1000000 in
theorem nil_Len (w : World) :
    Calls Tryd.prog 35 #[.agg #[vi 0, vnil]] w fun e w' => e = .returned (vi 0) ∧ Fr w w' no no := by
 refine enter (args := [.agg #[vi 0, vnil]]) (D := no) (A := []) Tryd.func35 rfl 5 rfl [] (WS.startL trivial) fun ac hS => ?_
 refine hS.regS [0, 0] [] fun ν1 => seg [(1, pt (ν1 0) 0)] [(0, some ((ν1 0), .cells [vi 0, vnil] 58))] [] trivial fun ac wd hS => ?_
 refine hS.regS [0, 0, 0] [] fun _ => seg [(2, vi 0)] [] [.e (ν1 0)] trivial fun ac wd hS => ?_
 refine wp_ret ?_
 refine St.retC 0 hS (vi 0) [] trivial fun hw => ?_
 refine ⟨retd rfl, hw.fr0⟩

set_option maxRecDepth 100000 in
set_option maxHeartbeats 1000000 in
theorem nil_Commit (f : Int) (n : Int) (w : World) :
    Calls Tryd.prog 15 #[pnil, vi f, vi n] w fun e w' => e = .returned (vi 1) ∧ Fr w w' no no := by
 refine enter (args := [pnil, vi f, vi n]) (D := no) (A := []) Tryd.func15 rfl 84 rfl [] (WS.startL trivial) fun ac hS => ?_
 refine hS.regS [0] [0, 1, 2] fun _ => seg [] [] [] trivial fun ac wd hS => ?_
 refine wp_seq ?_
 refine wp_region_seq ?_
 refine hS.opsC 3 [0, 0, 0] [0, 1, 2] fun _ => seg [(11, pnil), (12, vi f), (13, vi n)] [] [] trivial fun ac wd hS => ?_
 refine hS.call0 57 #[pnil, vi f, vi n] 14 (nil_row f n _  ) fun ac wd hS => ?_
 refine hS.opsC 5 [0, 0, 0, 0, 0] [0, 1, 2] fun _ => seg [(7, vi 0), (8, vi 1)] [] [] trivial fun ac wd hS => ?_
 refine list_nil_seq ?_
 refine wp_block ?_
 refine hS.regS [0, 0, 0] [0, 1, 2, 7, 8] fun _ => seg [(17, vb true)] [] [] trivial fun ac wd hS => ?_
 refine hS.condT ?_
 refine hS.regS [0, 0] [] fun _ => seg [(6, vi 1)] [] [] trivial fun ac wd hS => ?_
 refine wp_ret ?_
 refine pop_block_ret ?_
 refine pop_then_ret ?_
 refine St.retC 0 hS (vi 1) [] trivial fun hw => ?_
 refine ⟨retd rfl, hw.fr0⟩

set_option maxRecDepth 100000 in
set_option maxHeartbeats 1000000 in
theorem nil_Decommit (f : Int) (n : Int) (w : World) :
    Calls Tryd.prog 24 #[pnil, vi f, vi n] w fun e w' => e = .returned (vi 1) ∧ Fr w w' no no := by
 refine enter (args := [pnil, vi f, vi n]) (D := no) (A := []) Tryd.func24 rfl 54 rfl [] (WS.startL trivial) fun ac hS => ?_
 refine hS.regS [0] [0, 1, 2] fun _ => seg [] [] [] trivial fun ac wd hS => ?_
 refine wp_seq ?_
 refine wp_region_seq ?_
 refine hS.opsC 3 [0, 0, 0] [0, 1, 2] fun _ => seg [(10, pnil), (11, vi f), (12, vi n)] [] [] trivial fun ac wd hS => ?_
 refine hS.call0 57 #[pnil, vi f, vi n] 13 (nil_row f n _  ) fun ac wd hS => ?_
 refine hS.opsC 5 [0, 0, 0, 0, 0] [0, 1, 2] fun _ => seg [(7, vi 0), (8, vi 1)] [] [] trivial fun ac wd hS => ?_
 refine list_nil_seq ?_
 refine wp_block ?_
 refine hS.regS [0, 0, 0] [0, 1, 2, 7, 8] fun _ => seg [(16, vb true)] [] [] trivial fun ac wd hS => ?_
 refine hS.condT ?_
 refine hS.regS [0, 0] [] fun _ => seg [(6, vi 1)] [] [] trivial fun ac wd hS => ?_
 refine wp_ret ?_
 refine pop_block_ret ?_
 refine pop_then_ret ?_
 refine St.retC 0 hS (vi 1) [] trivial fun hw => ?_
 refine ⟨retd rfl, hw.fr0⟩

set_option maxRecDepth 100000 in
set_option maxHeartbeats 1000000 in
theorem nil_Bytes (a : Int) (n : Int) (w : World) :
    Calls Tryd.prog 17 #[pnil, vi a, vi n] w fun e w' => e = .returned (.tuple #[.string (ByteArray.empty), vi 1]) ∧ Fr w w' no no := by
 refine enter (args := [pnil, vi a, vi n]) (D := no) (A := []) Tryd.func17 rfl 23 rfl [] (WS.startL trivial) fun ac hS => ?_
 refine hS.regS [0, 0] [0, 1, 2] fun _ => seg [] [] [] trivial fun ac wd hS => ?_
 refine wp_seq ?_
 refine wp_region_seq ?_
 refine hS.opsC 3 [0, 0, 0] [0, 1, 2] fun _ => seg [(10, pnil), (11, vi a), (12, vi n)] [] [] trivial fun ac wd hS => ?_
 refine hS.call0 59 #[pnil, vi a, vi n] 13 (nil_check a n _  ) fun ac wd hS => ?_
 refine hS.opsC 1 [0] [0, 1, 2] fun _ => seg [(8, vi 1)] [] [] trivial fun ac wd hS => ?_
 refine list_nil_seq ?_
 refine hS.regS [0, 0] [0, 1, 2, 8] fun _ => seg [(15, vb true)] [] [] trivial fun ac wd hS => ?_
 refine hS.condT ?_
 refine hS.regS [0, 0, 0] [] fun _ => seg [(6, .string (⟨#[]⟩ : ByteArray)), (7, vi 1)] [] [] trivial fun ac wd hS => ?_
 refine wp_ret ?_
 refine pop_then_ret ?_
 refine St.retC 0 hS (.tuple #[.string (⟨#[]⟩ : ByteArray), vi 1]) [] trivial fun hw => ?_
 refine ⟨retd (tuple2 (vstr ?_) rfl), hw.fr0⟩
 all_goals (first | rfl | assumption | (simp; done) | (simp; omega) | omega | (simp_all; done) | (simp_all; omega))

set_option maxRecDepth 100000 in
set_option maxHeartbeats 1000000 in
theorem nil_Load (a : Int) (k : Int) (w : World) :
    Calls Tryd.prog 21 #[pnil, vi a, vi k] w fun e w' => e = .returned (.tuple #[vu 0, vi 1]) ∧ Fr w w' no no := by
 refine enter (args := [pnil, vi a, vi k]) (D := no) (A := []) Tryd.func21 rfl 44 rfl [] (WS.startL trivial) fun ac hS => ?_
 refine hS.regS [0, 0] [0, 1, 2] fun _ => seg [] [] [] trivial fun ac wd hS => ?_
 refine wp_seq ?_
 refine wp_block ?_
 refine hS.regS [0, 0, 0] [0, 1, 2] fun _ => seg [(12, vb true)] [] [] trivial fun ac wd hS => ?_
 refine hS.condT ?_
 refine hS.regS [0, 0] [] fun _ => seg [(6, vu 0), (7, vi 1)] [] [] trivial fun ac wd hS => ?_
 refine wp_ret ?_
 refine pop_block_ret ?_
 refine pop_then_ret ?_
 refine St.retC 0 hS (.tuple #[vu 0, vi 1]) [] trivial fun hw => ?_
 refine ⟨retd rfl, hw.fr0⟩

set_option maxRecDepth 100000 in
set_option maxHeartbeats 1000000 in
theorem nil_Store (a : Int) (k : Int) (v : Int) (w : World) :
    Calls Tryd.prog 23 #[pnil, vi a, vi k, vu v] w fun e w' => e = .returned (vi 1) ∧ Fr w w' no no := by
 refine enter (args := [pnil, vi a, vi k, vu v]) (D := no) (A := []) Tryd.func23 rfl 35 rfl [] (WS.startL trivial) fun ac hS => ?_
 refine hS.regS [0] [0, 1, 2, 3] fun _ => seg [] [] [] trivial fun ac wd hS => ?_
 refine wp_seq ?_
 refine wp_block ?_
 refine hS.regS [0, 0, 0] [0, 1, 2, 3] fun _ => seg [(11, vb true)] [] [] trivial fun ac wd hS => ?_
 refine hS.condT ?_
 refine hS.regS [0] [] fun _ => seg [(8, vi 1)] [] [] trivial fun ac wd hS => ?_
 refine wp_ret ?_
 refine pop_block_ret ?_
 refine pop_then_ret ?_
 refine St.retC 0 hS (vi 1) [] trivial fun hw => ?_
 refine ⟨retd rfl, hw.fr0⟩

set_option maxRecDepth 100000 in
set_option maxHeartbeats 1000000 in
theorem nil_Put (a : Int) (s : ByteArray) (w : World) :
    Calls Tryd.prog 16 #[pnil, vi a, .string s] w fun e w' => e = .returned (vi 1) ∧ Fr w w' no no := by
 refine enter (args := [pnil, vi a, .string s]) (D := no) (A := []) Tryd.func16 rfl 22 rfl [] (WS.startL trivial) fun ac hS => ?_
 refine hS.regS [0, 0] [0, 1] fun ν1 => seg [(5, pt (ν1 0) 0)] [(0, some ((ν1 0), .cells [.string s] 9))] [] trivial fun ac wd hS => ?_
 refine wp_seq ?_
 refine wp_region_seq ?_
 refine hS.opsC 4 [0, 0, 0, 0] [0, 1, 5] fun _ => seg [(8, pnil), (9, vi a), (11, vi ((ByteArray.size s : Nat) : Int))] [(0, none)] [.e (ν1 0)] trivial fun ac wd hS => ?_
 refine hS.call0 59 #[pnil, vi a, vi ((ByteArray.size s : Nat) : Int)] 12 (nil_check a ((ByteArray.size s : Nat) : Int) _  ) fun ac wd hS => ?_
 refine hS.opsC 1 [0] [0, 1, 5] fun _ => seg [(7, vi 1)] [(0, none)] [] trivial fun ac wd hS => ?_
 refine list_nil_seq ?_
 refine hS.regS [0, 0] [0, 1, 5, 7] fun _ => seg [(14, vb true)] [(0, none)] [] trivial fun ac wd hS => ?_
 refine hS.condT ?_
 refine hS.regS [0, 0] [] fun _ => seg [(6, vi 1)] [] [] trivial fun ac wd hS => ?_
 refine wp_ret ?_
 refine pop_then_ret ?_
 refine St.retC 0 hS (vi 1) [] trivial fun hw => ?_
 refine ⟨retd rfl, hw.fr0⟩

set_option maxRecDepth 100000 in
set_option maxHeartbeats 1000000 in
theorem nil_Fill (a : Int) (n : Int) (c : Int) (w : World) :
    Calls Tryd.prog 36 #[pnil, vi a, vi n, v8 c] w fun e w' => e = .returned (vi 1) ∧ Fr w w' no no := by
 refine enter (args := [pnil, vi a, vi n, v8 c]) (D := no) (A := []) Tryd.func36 rfl 22 rfl [] (WS.startL trivial) fun ac hS => ?_
 refine hS.regS [0, 0] [0, 1, 2] fun ν1 => seg [(7, pt (ν1 0) 0)] [(0, some ((ν1 0), .cells [v8 c] 5))] [] trivial fun ac wd hS => ?_
 refine wp_seq ?_
 refine wp_region_seq ?_
 refine hS.opsC 3 [0, 0, 0] [0, 1, 2, 7] fun _ => seg [(10, pnil), (11, vi a), (12, vi n)] [(0, none)] [] trivial fun ac wd hS => ?_
 refine hS.call0 59 #[pnil, vi a, vi n] 13 (nil_check a n _  ) fun ac wd hS => ?_
 refine hS.opsC 1 [0] [0, 1, 2, 7] fun _ => seg [(9, vi 1)] [(0, none)] [] trivial fun ac wd hS => ?_
 refine list_nil_seq ?_
 refine hS.regS [0, 0] [0, 1, 2, 7, 9] fun _ => seg [(15, vb true)] [(0, none)] [] trivial fun ac wd hS => ?_
 refine hS.condT ?_
 refine hS.regS [0, 0] [] fun _ => seg [(8, vi 1)] [] [] trivial fun ac wd hS => ?_
 refine wp_ret ?_
 refine pop_then_ret ?_
 refine St.retC 0 hS (vi 1) [] trivial fun hw => ?_
 refine ⟨retd rfl, hw.fr0⟩

set_option maxRecDepth 100000 in
set_option maxHeartbeats 1000000 in
theorem nil_Copy (a : Int) (f : Int) (n : Int) (w : World) :
    Calls Tryd.prog 18 #[pnil, vi a, vi f, vi n] w fun e w' => e = .returned (vi 1) ∧ Fr w w' no no := by
 refine enter (args := [pnil, vi a, vi f, vi n]) (D := no) (A := []) Tryd.func18 rfl 25 rfl [] (WS.startL trivial) fun ac hS => ?_
 refine hS.regS [0] [0, 1, 2, 3] fun _ => seg [] [] [] trivial fun ac wd hS => ?_
 refine wp_region_seq ?_
 refine hS.opsC 3 [0, 0, 0] [0, 1] fun _ => seg [(12, pnil), (13, vi f), (14, vi n)] [] [] trivial fun ac wd hS => ?_
 refine hS.call0 17 #[pnil, vi f, vi n] 15 (nil_Bytes f n _  ) fun ac wd hS => ?_
 refine hS.opsC 5 [0, 0, 0, 0, 0] [0, 1] fun _ => seg [(9, .string (ByteArray.empty)), (10, vi 1)] [] [] trivial fun ac wd hS => ?_
 refine list_nil_seq ?_
 refine wp_seq ?_
 refine hS.regS [0, 0] [0, 1, 9, 10] fun _ => seg [(19, vb true)] [] [] trivial fun ac wd hS => ?_
 refine hS.condT ?_
 refine hS.regS [0, 0] [] fun _ => seg [(8, vi 1)] [] [] trivial fun ac wd hS => ?_
 refine wp_ret ?_
 refine pop_then_ret ?_
 refine St.retC 0 hS (vi 1) [] trivial fun hw => ?_
 refine ⟨retd rfl, hw.fr0⟩

set_option maxRecDepth 100000 in
set_option maxHeartbeats 1000000 in
theorem nil_Clone (w : World) :
    Calls Tryd.prog 37 #[pnil] w fun e w' => e = .returned (pnil) ∧ Fr w w' no no := by
 refine enter (args := [pnil]) (D := no) (A := []) Tryd.func37 rfl 39 rfl [] (WS.startL trivial) fun ac hS => ?_
 refine hS.regS [0] [0] fun _ => seg [] [] [] trivial fun ac wd hS => ?_
 refine wp_seq ?_
 refine hS.regS [0, 0] [0] fun _ => seg [(8, vb true)] [] [] trivial fun ac wd hS => ?_
 refine hS.condT ?_
 refine hS.regS [0] [] fun _ => seg [(2, pnil)] [] [] trivial fun ac wd hS => ?_
 refine wp_ret ?_
 refine pop_then_ret ?_
 refine St.retC 0 hS (pnil) [] trivial fun hw => ?_
 refine ⟨retd rfl, hw.fr0⟩

set_option maxRecDepth 100000 in
set_option maxHeartbeats 1000000 in
theorem law03_awake (w : World) (hh0 : HE.holds w 1 (.fn 0 64 dbT)) :
    Calls Tryd.prog 13 #[] w fun e w' => e = .returned (vb true) ∧ Fr w w' no no := by
 refine enter (args := []) (D := no) (A := []) Tryd.func13 rfl 44 rfl [(1, .fn 0 64 dbT)] (WS.startL ⟨⟨rfl, hh0⟩, trivial⟩) fun ac hS => ?_
 refine hS.regS [0] [] fun _ => seg [] [(0, none)] [] trivial fun ac wd hS => ?_
 refine wp_region_seq ?_
 refine hS.callC 14 #[vi 2] (ar_New 2 _  ) ?_
 rintro _ wd ⟨b'1, F2, rfl, hN, hF⟩
 refine ⟨pt b'1 0, rfl, ?_⟩
 replace hS := (hS.to (hS.mem.newA hN hF)).put (d := 8) (v := pt b'1 0) (by decide)
 clear hF
 refine hS.opsC 1 [0] [] fun _ => seg [(1, pt b'1 0)] [(0, none)] [] trivial fun ac wd hS => ?_
 refine list_nil_seq ?_
 refine wp_region_seq ?_
 refine hS.opsC 1 [0] [1] fun _ => seg [(9, pt b'1 0)] [(0, none)] [] trivial fun ac wd hS => ?_
 refine hS.callC 15 #[pt b'1 0, vi 1, vi 1] (ar_Commit b'1 F2 (AM.new 2) 1 1 _ (hS.mem.res 0) ) ?_
 rintro _ wd ⟨F3, rfl, hA, hF⟩
 refine ⟨vi (comE (AM.new 2) 1 1), rfl, ?_⟩
 replace hS := (hS.to (hS.mem.stepA 0 rfl hA hF)).put (d := 10) (v := vi (comE (AM.new 2) 1 1)) (by decide)
 clear hF
 refine hS.opsC 1 [0] [1] fun _ => seg [(2, vi (comE (AM.new 2) 1 1))] [(0, none)] [] trivial fun ac wd hS => ?_
 refine list_nil_seq ?_
 refine wp_region_seq ?_
 refine hS.opsC 1 [0] [1, 2] fun _ => seg [(11, pt b'1 0)] [(0, none)] [] trivial fun ac wd hS => ?_
 refine hS.callC 23 #[pt b'1 0, vi 4096, vi 2, vu 258] (ar_Store b'1 F3 (comM (AM.new 2) 1 1) 4096 2 258 _ (hS.mem.res 0) ) ?_
 rintro _ wd ⟨F4, rfl, hA, hF⟩
 refine ⟨vi (stE (comM (AM.new 2) 1 1) 4096 2), rfl, ?_⟩
 replace hS := (hS.to (hS.mem.stepA 0 rfl hA hF)).put (d := 12) (v := vi (stE (comM (AM.new 2) 1 1) 4096 2)) (by decide)
 clear hF
 refine hS.opsC 1 [0] [1, 2] fun _ => seg [(3, vi (stE (comM (AM.new 2) 1 1) 4096 2))] [(0, none)] [] trivial fun ac wd hS => ?_
 refine list_nil_seq ?_
 refine wp_region_seq ?_
 refine hS.opsC 1 [0] [1, 2, 3] fun _ => seg [(14, pt b'1 0)] [(0, none)] [] trivial fun ac wd hS => ?_
 refine hS.call0 17 #[pt b'1 0, vi 4096, vi 3] 15 (ar_Bytes b'1 F4 (stM (comM (AM.new 2) 1 1) 4096 2 258) 4096 3 _ (hS.mem.res 0) ) fun ac wd hS => ?_
 refine hS.opsC 5 [0, 0, 0, 0, 0] [1, 2, 3] fun _ => seg [(4, .string (bytS (stM (comM (AM.new 2) 1 1) 4096 2 258) 4096 3)), (5, vi (chkE (stM (comM (AM.new 2) 1 1) 4096 2 258) 4096 3))] [(0, none)] [] trivial fun ac wd hS => ?_
 refine list_nil_seq ?_
 refine wp_region_seq ?_
 refine hS.opsC 1 [0] [2, 3, 4, 5] fun _ => seg [(19, pt b'1 0)] [(0, none)] [] trivial fun ac wd hS => ?_
 refine hS.call0 21 #[pt b'1 0, vi 4095, vi 1] 20 (ar_Load b'1 F4 (stM (comM (AM.new 2) 1 1) 4096 2 258) 4095 1 _ (hS.mem.res 0) ) fun ac wd hS => ?_
 refine hS.opsC 5 [0, 0, 0, 0, 0] [2, 3, 4, 5] fun _ => seg [(7, vi (ldE (stM (comM (AM.new 2) 1 1) 4096 2 258) 4095 1))] [(0, none)] [] trivial fun ac wd hS => ?_
 refine list_nil_seq ?_
 refine wp_region_seq ?_
 refine hS.call0 55 #[] 23 (law02_Awake  _ (hS.mem.get 0 1 (.fn 0 64 dbT)) ) fun ac wd hS => ?_
 refine hS.opsC 21 [0, 1, 1, 70, 0, 3, 3, 80, 0, 3, 3, 80, 0, 3, 3, 80, 0, 3, 3, 80, 0] [] fun _ => seg [(0, vb (((((((comE (AM.new 2) 1 1) : Int) == 0) && (((stE (comM (AM.new 2) 1 1) 4096 2) : Int) == 0)) && (((chkE (stM (comM (AM.new 2) 1 1) 4096 2 258) 4096 3) : Int) == 0)) && (ByteArray.toList (bytS (stM (comM (AM.new 2) 1 1) 4096 2 258) 4096 3) == ByteArray.toList (⟨#[2, 1, 0]⟩ : ByteArray))) && (((ldE (stM (comM (AM.new 2) 1 1) 4096 2 258) 4095 1) : Int) == 3)))] [(0, none)] [.t true, .t true, .t true] trivial fun ac wd hS => ?_
 refine list_nil_seq ?_
 refine wp_ret ?_
 refine St.retC 0 hS (vb (((((((comE (AM.new 2) 1 1) : Int) == 0) && (((stE (comM (AM.new 2) 1 1) 4096 2) : Int) == 0)) && (((chkE (stM (comM (AM.new 2) 1 1) 4096 2 258) 4096 3) : Int) == 0)) && (ByteArray.toList (bytS (stM (comM (AM.new 2) 1 1) 4096 2 258) 4096 3) == ByteArray.toList (⟨#[2, 1, 0]⟩ : ByteArray))) && (((ldE (stM (comM (AM.new 2) 1 1) 4096 2 258) 4095 1) : Int) == 3))) [] trivial fun hw => ?_
 refine ⟨retd (vbool ?_), hw.fr0⟩
 all_goals (first | rfl | decide +kernel)

set_option maxRecDepth 100000 in
set_option maxHeartbeats 1000000 in
theorem law03_Awake (w : World) (hh0 : HE.holds w 1 (.fn 0 64 dbT)) :
    Calls Tryd.prog 79 #[] w fun e w' => e = .returned (vb true) ∧ Fr w w' no no := by
 refine enter (args := []) (D := no) (A := []) Tryd.func79 rfl 2 rfl [(1, .fn 0 64 dbT)] (WS.startL ⟨⟨rfl, hh0⟩, trivial⟩) fun ac hS => ?_
 refine hS.regS [0] [] fun _ => seg [] [(0, none)] [] trivial fun ac wd hS => ?_
 refine wp_region_seq ?_
 refine hS.call0 13 #[] 1 (law03_awake  _ (hS.mem.get 0 1 (.fn 0 64 dbT)) ) fun ac wd hS => ?_
 refine hS.opsC 1 [0] [] fun _ => seg [(0, vb true)] [(0, none)] [] trivial fun ac wd hS => ?_
 refine list_nil_seq ?_
 refine wp_ret ?_
 refine St.retC 0 hS (vb true) [] trivial fun hw => ?_
 refine ⟨retd rfl, hw.fr0⟩

set_option maxRecDepth 100000 in
set_option maxHeartbeats 1000000 in
theorem law03_ArenaNil (w : World) (hh0 : HE.holds w 1 (.fn 0 64 dbT)) :
    Calls Tryd.prog 7 #[] w fun e w' => e = .returned (vb true) ∧ Fr w w' no no := by
 refine enter (args := []) (D := no) (A := []) Tryd.func7 rfl 85 rfl [(1, .fn 0 64 dbT)] (WS.startL ⟨⟨rfl, hh0⟩, trivial⟩) fun ac hS => ?_
 refine hS.regS [0] [] fun _ => seg [] [(0, none)] [] trivial fun ac wd hS => ?_
 refine hS.regS [0] [] fun _ => seg [(1, pnil)] [(0, none)] [] trivial fun ac wd hS => ?_
 refine wp_region_seq ?_
 refine hS.opsC 1 [0] [1] fun _ => seg [(6, pnil)] [(0, none)] [] trivial fun ac wd hS => ?_
 refine hS.call0 34 #[pnil, vi 0] 7 (nil_Refuse 0 _  ) fun ac wd hS => ?_
 refine list_nil_seq ?_
 refine wp_region_seq ?_
 refine hS.opsC 1 [0] [1] fun _ => seg [(9, pnil)] [(0, none)] [] trivial fun ac wd hS => ?_
 refine hS.call0 21 #[pnil, vi 0, vi 3] 10 (nil_Load 0 3 _  ) fun ac wd hS => ?_
 refine hS.opsC 5 [0, 0, 0, 0, 0] [1] fun _ => seg [(3, vi 1)] [(0, none)] [] trivial fun ac wd hS => ?_
 refine list_nil_seq ?_
 refine wp_region_seq ?_
 refine hS.opsC 1 [0] [1, 3] fun _ => seg [(14, pnil)] [(0, none)] [] trivial fun ac wd hS => ?_
 refine hS.call0 17 #[pnil, vi 0, vi 0] 15 (nil_Bytes 0 0 _  ) fun ac wd hS => ?_
 refine hS.opsC 5 [0, 0, 0, 0, 0] [1, 3] fun _ => seg [(4, .string (ByteArray.empty)), (5, vi 1)] [(0, none)] [] trivial fun ac wd hS => ?_
 refine list_nil_seq ?_
 refine wp_region_seq ?_
 refine hS.call0 13 #[] 18 (law03_awake  _ (hS.mem.get 0 1 (.fn 0 64 dbT)) ) fun ac wd hS => ?_
 refine hS.opsC 1 [0] [1, 3, 4, 5] fun _ => seg [(19, vb true)] [(0, none)] [] trivial fun ac wd hS => ?_
 refine hS.opsC 1 [1] [1, 3, 4, 5, 19] fun _ => seg [(20, pnil)] [(0, none)] [.t true] trivial fun ac wd hS => ?_
 refine hS.callG true 19 #[pnil] (nil_Cap  _  ) ?_
 rintro _ wd ⟨rfl, hF⟩
 refine ⟨vi 0, rfl, ?_⟩
 replace hS := (hS.to (hS.mem.keep0 hF)).put (d := 21) (v := vi 0) (by decide)
 clear hF
 refine hS.opsC 1 [1] [1, 3, 4, 5, 19, 21] fun _ => seg [(22, pnil)] [(0, none)] [.t true] trivial fun ac wd hS => ?_
 refine hS.callG true 20 #[pnil] (nil_Committed  _  ) ?_
 rintro _ wd ⟨rfl, hF⟩
 refine ⟨vi 0, rfl, ?_⟩
 replace hS := (hS.to (hS.mem.keep0 hF)).put (d := 23) (v := vi 0) (by decide)
 clear hF
 refine hS.opsC 4 [1, 1, 70, 0] [1, 3, 4, 5] fun _ => seg [(27, vb true)] [(0, none)] [.t true, .t true, .t true] trivial fun ac wd hS => ?_
 refine hS.opsC 1 [1] [1, 3, 4, 5, 27] fun _ => seg [(28, pnil)] [(0, none)] [.t true] trivial fun ac wd hS => ?_
 refine hS.callG true 33 #[pnil, vi 0] (nil_Has 0 _  ) ?_
 rintro _ wd ⟨rfl, hF⟩
 refine ⟨vb false, rfl, ?_⟩
 replace hS := (hS.to (hS.mem.keep0 hF)).put (d := 29) (v := vb false) (by decide)
 clear hF
 refine hS.opsC 3 [1, 70, 0] [1, 3, 4, 5] fun _ => seg [(32, vb true)] [(0, none)] [.t true, .t true] trivial fun ac wd hS => ?_
 refine hS.opsC 1 [1] [1, 3, 4, 5, 32] fun _ => seg [(33, pnil)] [(0, none)] [.t true] trivial fun ac wd hS => ?_
 refine hS.callG true 31 #[pnil] (nil_Pages  _  ) ?_
 rintro _ wd ⟨rfl, hF⟩
 refine ⟨.agg #[vi 0, vnil], rfl, ?_⟩
 replace hS := (hS.to (hS.mem.keep0 hF)).put (d := 34) (v := .agg #[vi 0, vnil]) (by decide)
 clear hF
 refine hS.callG true 35 #[.agg #[vi 0, vnil]] (nil_Len  _  ) ?_
 rintro _ wd ⟨rfl, hF⟩
 refine ⟨vi 0, rfl, ?_⟩
 replace hS := (hS.to (hS.mem.keep0 hF)).put (d := 35) (v := vi 0) (by decide)
 clear hF
 refine hS.opsC 3 [1, 70, 0] [1, 3, 4, 5] fun _ => seg [(38, vb true)] [(0, none)] [.t true, .t true] trivial fun ac wd hS => ?_
 refine hS.opsC 1 [1] [1, 3, 4, 5, 38] fun _ => seg [(39, pnil)] [(0, none)] [.t true] trivial fun ac wd hS => ?_
 refine hS.callG true 15 #[pnil, vi 0, vi 0] (nil_Commit 0 0 _  ) ?_
 rintro _ wd ⟨rfl, hF⟩
 refine ⟨vi 1, rfl, ?_⟩
 replace hS := (hS.to (hS.mem.keep0 hF)).put (d := 40) (v := vi 1) (by decide)
 clear hF
 refine hS.opsC 3 [1, 70, 0] [1, 3, 4, 5] fun _ => seg [(43, vb true)] [(0, none)] [.t true, .t true] trivial fun ac wd hS => ?_
 refine hS.opsC 1 [1] [1, 3, 4, 5, 43] fun _ => seg [(44, pnil)] [(0, none)] [.t true] trivial fun ac wd hS => ?_
 refine hS.callG true 24 #[pnil, vi 0, vi 1] (nil_Decommit 0 1 _  ) ?_
 rintro _ wd ⟨rfl, hF⟩
 refine ⟨vi 1, rfl, ?_⟩
 replace hS := (hS.to (hS.mem.keep0 hF)).put (d := 45) (v := vi 1) (by decide)
 clear hF
 refine hS.opsC 15 [1, 70, 0, 1, 1, 70, 0, 1, 1, 70, 0, 3, 3, 80, 0] [1] fun _ => seg [(60, vb ((ByteArray.toList (ByteArray.empty) == ByteArray.toList (⟨#[]⟩ : ByteArray)) && true))] [(0, none)] [.t true, .t true, .t true, .t true, .t true, .t true, .t true, .t true] trivial fun ac wd hS => ?_
 have hg1o : ((ByteArray.toList (ByteArray.empty) == ByteArray.toList (⟨#[]⟩ : ByteArray)) && true) = true := by decide +kernel
 replace hS := hS.fix 60 (vb true) (congrArg Value.bool hg1o)
 refine hS.opsC 1 [1] [1, 60] fun _ => seg [(61, pnil)] [(0, none)] [.t true] trivial fun ac wd hS => ?_
 refine hS.callG true 23 #[pnil, vi 0, vi 3, vu 0] (nil_Store 0 3 0 _  ) ?_
 rintro _ wd ⟨rfl, hF⟩
 refine ⟨vi 1, rfl, ?_⟩
 replace hS := (hS.to (hS.mem.keep0 hF)).put (d := 62) (v := vi 1) (by decide)
 clear hF
 refine hS.opsC 3 [1, 70, 0] [1] fun _ => seg [(65, vb true)] [(0, none)] [.t true, .t true] trivial fun ac wd hS => ?_
 refine hS.opsC 1 [1] [1, 65] fun _ => seg [(66, pnil)] [(0, none)] [.t true] trivial fun ac wd hS => ?_
 refine hS.callG true 16 #[pnil, vi 0, .string (⟨#[]⟩ : ByteArray)] (nil_Put 0 (⟨#[]⟩ : ByteArray) _  ) ?_
 rintro _ wd ⟨rfl, hF⟩
 refine ⟨vi 1, rfl, ?_⟩
 replace hS := (hS.to (hS.mem.keep0 hF)).put (d := 67) (v := vi 1) (by decide)
 clear hF
 refine hS.opsC 3 [1, 70, 0] [1] fun _ => seg [(70, vb true)] [(0, none)] [.t true, .t true] trivial fun ac wd hS => ?_
 refine hS.opsC 1 [1] [1, 70] fun _ => seg [(71, pnil)] [(0, none)] [.t true] trivial fun ac wd hS => ?_
 refine hS.callG true 36 #[pnil, vi 0, vi 0, v8 0] (nil_Fill 0 0 0 _  ) ?_
 rintro _ wd ⟨rfl, hF⟩
 refine ⟨vi 1, rfl, ?_⟩
 replace hS := (hS.to (hS.mem.keep0 hF)).put (d := 72) (v := vi 1) (by decide)
 clear hF
 refine hS.opsC 3 [1, 70, 0] [1] fun _ => seg [(75, vb true)] [(0, none)] [.t true, .t true] trivial fun ac wd hS => ?_
 refine hS.opsC 1 [1] [1, 75] fun _ => seg [(76, pnil)] [(0, none)] [.t true] trivial fun ac wd hS => ?_
 refine hS.callG true 18 #[pnil, vi 0, vi 0, vi 0] (nil_Copy 0 0 0 _  ) ?_
 rintro _ wd ⟨rfl, hF⟩
 refine ⟨vi 1, rfl, ?_⟩
 replace hS := (hS.to (hS.mem.keep0 hF)).put (d := 77) (v := vi 1) (by decide)
 clear hF
 refine hS.opsC 3 [1, 70, 0] [1] fun _ => seg [(80, vb true)] [(0, none)] [.t true, .t true] trivial fun ac wd hS => ?_
 refine hS.opsC 1 [1] [80] fun _ => seg [(81, pnil)] [(0, none)] [.t true] trivial fun ac wd hS => ?_
 refine hS.callG true 37 #[pnil] (nil_Clone  _  ) ?_
 rintro _ wd ⟨rfl, hF⟩
 refine ⟨pnil, rfl, ?_⟩
 replace hS := (hS.to (hS.mem.keep0 hF)).put (d := 82) (v := pnil) (by decide)
 clear hF
 refine hS.opsC 3 [1, 70, 0] [] fun _ => seg [(0, vb true)] [(0, none)] [.t true, .t true] trivial fun ac wd hS => ?_
 refine list_nil_seq ?_
 refine wp_ret ?_
 refine St.retC 0 hS (vb true) [] trivial fun hw => ?_
 refine ⟨retd rfl, hw.fr0⟩

end Go.Proofs.YtlnecfdbmoilbaaDoor.K
