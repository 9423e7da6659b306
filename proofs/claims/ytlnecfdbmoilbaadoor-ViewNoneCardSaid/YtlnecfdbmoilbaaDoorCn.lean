/-
  Walks, printed by w2.py.
-/
import Derived.Test.YtlnecfdbmoilbaaDoorCm
import Derived.Test.YtlnecfdbmoilbaaDoorKx
import Derived.Test.YtlnecfdbmoilbaaDoorProg
namespace Go.Proofs.YtlnecfdbmoilbaaDoor.K
set_option linter.unusedVariables false
set_option linter.unusedSimpArgs false

set_option maxRecDepth 100000 in
set_option maxHeartbeats 1000000 in
theorem vnil_check (a : Int) (n : Int) (w : World) :
    Calls Tryd.prog 82 #[.agg #[pnil, vi 0, vi 0], vi a, vi n] w fun e w' => e = .returned (vi 1) ∧ Fr w w' no no := by
 refine enter (args := [.agg #[pnil, vi 0, vi 0], vi a, vi n]) (D := no) (A := []) Tryd.func82 rfl 32 rfl [] (WS.startL trivial) fun ac hS => ?_
 refine hS.regS [0, 0] [1, 2] fun ν1 => seg [(3, pt (ν1 0) 0)] [(0, some ((ν1 0), .cells [pnil, vi 0, vi 0] 67))] [] trivial fun ac wd hS => ?_
 refine wp_seq ?_
 refine wp_block ?_
 refine hS.regS [0, 0, 0, 0] [1, 2, 3] fun _ => seg [(7, vb true)] [(0, none)] [.e (ν1 0)] trivial fun ac wd hS => ?_
 refine hS.condT ?_
 refine hS.regS [0] [] fun _ => seg [(6, vi 1)] [] [] trivial fun ac wd hS => ?_
 refine wp_ret ?_
 refine pop_block_ret ?_
 refine pop_then_ret ?_
 refine St.retC 0 hS (vi 1) [] trivial fun hw => ?_
 refine ⟨retd rfl, hw.fr0⟩

set_option maxRecDepth 100000 in
set_option maxHeartbeats 1000000 in
theorem vnil_whole (k : Int) (w : World) :
    Calls Tryd.prog 83 #[.agg #[pnil, vi 0, vi 0], vi k] w fun e w' => e = .returned (vi 1) ∧ Fr w w' no no := by
 refine enter (args := [.agg #[pnil, vi 0, vi 0], vi k]) (D := no) (A := []) Tryd.func83 rfl 18 rfl [] (WS.startL trivial) fun ac hS => ?_
 refine hS.regS [0, 0] [1] fun ν1 => seg [(2, pt (ν1 0) 0)] [(0, some ((ν1 0), .cells [pnil, vi 0, vi 0] 67))] [] trivial fun ac wd hS => ?_
 refine wp_seq ?_
 refine wp_block ?_
 refine hS.regS [0, 0, 0, 0] [1] fun _ => seg [(5, vb true)] [] [.e (ν1 0)] trivial fun ac wd hS => ?_
 refine hS.condT ?_
 refine hS.regS [0] [] fun _ => seg [(4, vi 1)] [] [] trivial fun ac wd hS => ?_
 refine wp_ret ?_
 refine pop_block_ret ?_
 refine pop_then_ret ?_
 refine St.retC 0 hS (vi 1) [] trivial fun hw => ?_
 refine ⟨retd rfl, hw.fr0⟩

set_option maxRecDepth 100000 in
set_option maxHeartbeats 1000000 in
theorem vnil_At (w : World) :
    Calls Tryd.prog 49 #[.agg #[pnil, vi 0, vi 0]] w fun e w' => e = .returned (vi 0) ∧ Fr w w' no no := by
 refine enter (args := [.agg #[pnil, vi 0, vi 0]]) (D := no) (A := []) Tryd.func49 rfl 5 rfl [] (WS.startL trivial) fun ac hS => ?_
 refine hS.regS [0, 0] [] fun ν1 => seg [(1, pt (ν1 0) 0)] [(0, some ((ν1 0), .cells [pnil, vi 0, vi 0] 67))] [] trivial fun ac wd hS => ?_
 refine hS.regS [0, 0, 0] [] fun _ => seg [(2, vi 0)] [] [.e (ν1 0)] trivial fun ac wd hS => ?_
 refine wp_ret ?_
 refine St.retC 0 hS (vi 0) [] trivial fun hw => ?_
 refine ⟨retd rfl, hw.fr0⟩

set_option maxRecDepth 100000 in
set_option maxHeartbeats 1000000 in
theorem vnil_Size (w : World) :
    Calls Tryd.prog 50 #[.agg #[pnil, vi 0, vi 0]] w fun e w' => e = .returned (vi 0) ∧ Fr w w' no no := by
 refine enter (args := [.agg #[pnil, vi 0, vi 0]]) (D := no) (A := []) Tryd.func50 rfl 5 rfl [] (WS.startL trivial) fun ac hS => ?_
 refine hS.regS [0, 0] [] fun ν1 => seg [(1, pt (ν1 0) 0)] [(0, some ((ν1 0), .cells [pnil, vi 0, vi 0] 67))] [] trivial fun ac wd hS => ?_
 refine hS.regS [0, 0, 0] [] fun _ => seg [(2, vi 0)] [] [.e (ν1 0)] trivial fun ac wd hS => ?_
 refine wp_ret ?_
 refine St.retC 0 hS (vi 0) [] trivial fun hw => ?_
 refine ⟨retd rfl, hw.fr0⟩

set_option maxRecDepth 100000 in
set_option maxHeartbeats 1000000 in
theorem vnil_Of (a : Int) (n : Int) (w : World) :
    Calls Tryd.prog 39 #[pnil, vi a, vi n] w fun e w' => e = .returned (.tuple #[.agg #[pnil, vi 0, vi 0], vi 1]) ∧ Fr w w' no no := by
 refine enter (args := [pnil, vi a, vi n]) (D := no) (A := []) Tryd.func39 rfl 25 rfl [] (WS.startL trivial) fun ac hS => ?_
 refine hS.regS [0, 0] [0, 1, 2] fun ν1 => seg [(6, pt (ν1 0) 0)] [(0, some ((ν1 0), .cells [pnil, vi 0, vi 0] 67))] [] trivial fun ac wd hS => ?_
 refine wp_seq ?_
 refine wp_region_seq ?_
 refine hS.opsC 3 [0, 0, 0] [0, 1, 2, 6] fun _ => seg [(11, pnil), (12, vi a), (13, vi n)] [(0, none)] [] trivial fun ac wd hS => ?_
 refine hS.call0 17 #[pnil, vi a, vi n] 14 (nil_Bytes a n _  ) fun ac wd hS => ?_
 refine hS.opsC 5 [0, 0, 0, 0, 0] [0, 1, 2, 6] fun _ => seg [(9, vi 1)] [(0, none)] [] trivial fun ac wd hS => ?_
 refine list_nil_seq ?_
 refine hS.regS [0, 0] [0, 1, 2, 6, 9] fun _ => seg [(18, vb true)] [(0, none)] [] trivial fun ac wd hS => ?_
 refine hS.condT ?_
 refine hS.regS [0, 0, 0, 0] [6] fun _ => seg [(7, vi 1)] [(0, none)] [.e (ν1 0), .e (ν1 0), .e (ν1 0)] trivial fun ac wd hS => ?_
 refine wp_ret ?_
 refine pop_then_ret ?_
 refine St.retC 0 hS (.tuple #[.agg #[pnil, vi 0, vi 0], vi 1]) [.e (ν1 0), .e (ν1 0), .e (ν1 0)] trivial fun hw => ?_
 refine ⟨retd rfl, hw.fr0⟩

set_option maxRecDepth 100000 in
set_option maxHeartbeats 1000000 in
theorem vnil_Part (a : Int) (n : Int) (w : World) :
    Calls Tryd.prog 42 #[.agg #[pnil, vi 0, vi 0], vi a, vi n] w fun e w' => e = .returned (.tuple #[.agg #[pnil, vi 0, vi 0], vi 1]) ∧ Fr w w' no no := by
 refine enter (args := [.agg #[pnil, vi 0, vi 0], vi a, vi n]) (D := no) (A := []) Tryd.func42 rfl 27 rfl [] (WS.startL trivial) fun ac hS => ?_
 refine hS.regS [0, 0, 0] [1, 2] fun ν1 => seg [(3, pt (ν1 0) 0), (6, pt (ν1 1) 0)] [(0, some ((ν1 0), .cells [pnil, vi 0, vi 0] 67)), (1, some ((ν1 1), .cells [pnil, vi 0, vi 0] 67))] [] trivial fun ac wd hS => ?_
 refine wp_seq ?_
 refine wp_region_seq ?_
 refine hS.opsC 3 [0, 0, 0] [1, 2, 3, 6] fun _ => seg [(9, .agg #[pnil, vi 0, vi 0]), (10, vi a), (11, vi n)] [(0, none), (1, none)] [.e (ν1 0), .e (ν1 0), .e (ν1 0)] trivial fun ac wd hS => ?_
 refine hS.call0 82 #[.agg #[pnil, vi 0, vi 0], vi a, vi n] 12 (vnil_check a n _  ) fun ac wd hS => ?_
 refine hS.opsC 1 [0] [1, 2, 3, 6] fun _ => seg [(8, vi 1)] [(0, none), (1, none)] [] trivial fun ac wd hS => ?_
 refine list_nil_seq ?_
 refine hS.regS [0, 0] [1, 2, 3, 6, 8] fun _ => seg [(14, vb true)] [(0, none), (1, none)] [] trivial fun ac wd hS => ?_
 refine hS.condT ?_
 refine hS.regS [0, 0, 100, 0] [6] fun _ => seg [(7, vi 1)] [(1, none)] [.e (ν1 1), .e (ν1 1), .e (ν1 1)] trivial fun ac wd hS => ?_
 refine wp_ret ?_
 refine pop_then_ret ?_
 refine St.retC 0 hS (.tuple #[.agg #[pnil, vi 0, vi 0], vi 1]) [.e (ν1 1), .e (ν1 1), .e (ν1 1)] trivial fun hw => ?_
 refine ⟨retd rfl, hw.fr0⟩

set_option maxRecDepth 100000 in
set_option maxHeartbeats 1000000 in
theorem vnil_Load (a : Int) (k : Int) (w : World) :
    Calls Tryd.prog 43 #[.agg #[pnil, vi 0, vi 0], vi a, vi k] w fun e w' => e = .returned (.tuple #[vu 0, vi 1]) ∧ Fr w w' no no := by
 refine enter (args := [.agg #[pnil, vi 0, vi 0], vi a, vi k]) (D := no) (A := []) Tryd.func43 rfl 33 rfl [] (WS.startL trivial) fun ac hS => ?_
 refine hS.regS [0, 0, 0] [1, 2] fun ν1 => seg [(3, pt (ν1 0) 0)] [(0, some ((ν1 0), .cells [pnil, vi 0, vi 0] 67))] [] trivial fun ac wd hS => ?_
 refine wp_seq ?_
 refine wp_region_seq ?_
 refine hS.opsC 2 [0, 0] [1, 2, 3] fun _ => seg [(10, .agg #[pnil, vi 0, vi 0]), (11, vi k)] [(0, none)] [.e (ν1 0), .e (ν1 0), .e (ν1 0)] trivial fun ac wd hS => ?_
 refine hS.call0 83 #[.agg #[pnil, vi 0, vi 0], vi k] 12 (vnil_whole k _  ) fun ac wd hS => ?_
 refine hS.opsC 1 [0] [1, 2, 3] fun _ => seg [(8, vi 1)] [(0, none)] [] trivial fun ac wd hS => ?_
 refine list_nil_seq ?_
 refine hS.regS [0, 0] [1, 2, 3, 8] fun _ => seg [(14, vb true)] [(0, none)] [] trivial fun ac wd hS => ?_
 refine hS.condT ?_
 refine hS.regS [0, 0, 0] [] fun _ => seg [(6, vu 0), (7, vi 1)] [] [] trivial fun ac wd hS => ?_
 refine wp_ret ?_
 refine pop_then_ret ?_
 refine St.retC 0 hS (.tuple #[vu 0, vi 1]) [] trivial fun hw => ?_
 refine ⟨retd rfl, hw.fr0⟩

set_option maxRecDepth 100000 in
set_option maxHeartbeats 1000000 in
theorem vnil_Bytes (a : Int) (n : Int) (w : World) :
    Calls Tryd.prog 44 #[.agg #[pnil, vi 0, vi 0], vi a, vi n] w fun e w' => e = .returned (.tuple #[.string (ByteArray.empty), vi 1]) ∧ Fr w w' no no := by
 refine enter (args := [.agg #[pnil, vi 0, vi 0], vi a, vi n]) (D := no) (A := []) Tryd.func44 rfl 26 rfl [] (WS.startL trivial) fun ac hS => ?_
 refine hS.regS [0, 0, 0] [1, 2] fun ν1 => seg [(3, pt (ν1 0) 0)] [(0, some ((ν1 0), .cells [pnil, vi 0, vi 0] 67))] [] trivial fun ac wd hS => ?_
 refine wp_seq ?_
 refine wp_region_seq ?_
 refine hS.opsC 3 [0, 0, 0] [1, 2, 3] fun _ => seg [(9, .agg #[pnil, vi 0, vi 0]), (10, vi a), (11, vi n)] [(0, none)] [.e (ν1 0), .e (ν1 0), .e (ν1 0)] trivial fun ac wd hS => ?_
 refine hS.call0 82 #[.agg #[pnil, vi 0, vi 0], vi a, vi n] 12 (vnil_check a n _  ) fun ac wd hS => ?_
 refine hS.opsC 1 [0] [1, 2, 3] fun _ => seg [(8, vi 1)] [(0, none)] [] trivial fun ac wd hS => ?_
 refine list_nil_seq ?_
 refine hS.regS [0, 0] [1, 2, 3, 8] fun _ => seg [(14, vb true)] [(0, none)] [] trivial fun ac wd hS => ?_
 refine hS.condT ?_
 refine hS.regS [0, 0, 0] [] fun _ => seg [(6, .string (⟨#[]⟩ : ByteArray)), (7, vi 1)] [] [] trivial fun ac wd hS => ?_
 refine wp_ret ?_
 refine pop_then_ret ?_
 refine St.retC 0 hS (.tuple #[.string (⟨#[]⟩ : ByteArray), vi 1]) [] trivial fun hw => ?_
 refine ⟨retd (tuple2 (vstr ?_) rfl), hw.fr0⟩
 all_goals (first | rfl | assumption | (simp; done) | (simp; omega) | omega | (simp_all; done) | (simp_all; omega))

set_option maxRecDepth 100000 in
set_option maxHeartbeats 1000000 in
theorem vnil_Store (a : Int) (k : Int) (v : Int) (w : World) :
    Calls Tryd.prog 45 #[.agg #[pnil, vi 0, vi 0], vi a, vi k, vu v] w fun e w' => e = .returned (vi 1) ∧ Fr w w' no no := by
 refine enter (args := [.agg #[pnil, vi 0, vi 0], vi a, vi k, vu v]) (D := no) (A := []) Tryd.func45 rfl 33 rfl [] (WS.startL trivial) fun ac hS => ?_
 refine hS.regS [0, 0] [1, 2, 3] fun ν1 => seg [(4, pt (ν1 0) 0)] [(0, some ((ν1 0), .cells [pnil, vi 0, vi 0] 67))] [] trivial fun ac wd hS => ?_
 refine wp_seq ?_
 refine wp_region_seq ?_
 refine hS.opsC 2 [0, 0] [1, 2, 3, 4] fun _ => seg [(11, .agg #[pnil, vi 0, vi 0]), (12, vi k)] [(0, none)] [.e (ν1 0), .e (ν1 0), .e (ν1 0)] trivial fun ac wd hS => ?_
 refine hS.call0 83 #[.agg #[pnil, vi 0, vi 0], vi k] 13 (vnil_whole k _  ) fun ac wd hS => ?_
 refine hS.opsC 1 [0] [1, 2, 3, 4] fun _ => seg [(9, vi 1)] [(0, none)] [] trivial fun ac wd hS => ?_
 refine list_nil_seq ?_
 refine hS.regS [0, 0] [1, 2, 3, 4, 9] fun _ => seg [(15, vb true)] [(0, none)] [] trivial fun ac wd hS => ?_
 refine hS.condT ?_
 refine hS.regS [0, 0] [] fun _ => seg [(8, vi 1)] [] [] trivial fun ac wd hS => ?_
 refine wp_ret ?_
 refine pop_then_ret ?_
 refine St.retC 0 hS (vi 1) [] trivial fun hw => ?_
 refine ⟨retd rfl, hw.fr0⟩

set_option maxRecDepth 100000 in
set_option maxHeartbeats 1000000 in
theorem vnil_Put (a : Int) (s : ByteArray) (w : World) :
    Calls Tryd.prog 46 #[.agg #[pnil, vi 0, vi 0], vi a, .string s] w fun e w' => e = .returned (vi 1) ∧ Fr w w' no no := by
 refine enter (args := [.agg #[pnil, vi 0, vi 0], vi a, .string s]) (D := no) (A := []) Tryd.func46 rfl 24 rfl [] (WS.startL trivial) fun ac hS => ?_
 refine hS.regS [0, 0] [1, 2] fun ν1 => seg [(3, pt (ν1 0) 0)] [(0, some ((ν1 0), .cells [pnil, vi 0, vi 0] 67))] [] trivial fun ac wd hS => ?_
 refine wp_seq ?_
 refine wp_region_seq ?_
 refine hS.opsC 4 [0, 0, 0, 0] [1, 2, 3] fun _ => seg [(8, .agg #[pnil, vi 0, vi 0]), (9, vi a), (11, vi ((ByteArray.size s : Nat) : Int))] [(0, none)] [.e (ν1 0), .e (ν1 0), .e (ν1 0)] trivial fun ac wd hS => ?_
 refine hS.call0 82 #[.agg #[pnil, vi 0, vi 0], vi a, vi ((ByteArray.size s : Nat) : Int)] 12 (vnil_check a ((ByteArray.size s : Nat) : Int) _  ) fun ac wd hS => ?_
 refine hS.opsC 1 [0] [1, 2, 3] fun _ => seg [(7, vi 1)] [(0, none)] [] trivial fun ac wd hS => ?_
 refine list_nil_seq ?_
 refine hS.regS [0, 0] [1, 2, 3, 7] fun _ => seg [(14, vb true)] [(0, none)] [] trivial fun ac wd hS => ?_
 refine hS.condT ?_
 refine hS.regS [0, 0] [] fun _ => seg [(6, vi 1)] [] [] trivial fun ac wd hS => ?_
 refine wp_ret ?_
 refine pop_then_ret ?_
 refine St.retC 0 hS (vi 1) [] trivial fun hw => ?_
 refine ⟨retd rfl, hw.fr0⟩

set_option maxRecDepth 100000 in
set_option maxHeartbeats 1000000 in
theorem vnil_Fill (a : Int) (n : Int) (c : Int) (w : World) :
    Calls Tryd.prog 47 #[.agg #[pnil, vi 0, vi 0], vi a, vi n, v8 c] w fun e w' => e = .returned (vi 1) ∧ Fr w w' no no := by
 refine enter (args := [.agg #[pnil, vi 0, vi 0], vi a, vi n, v8 c]) (D := no) (A := []) Tryd.func47 rfl 26 rfl [] (WS.startL trivial) fun ac hS => ?_
 refine hS.regS [0, 0] [1, 2, 3] fun ν1 => seg [(4, pt (ν1 0) 0)] [(0, some ((ν1 0), .cells [pnil, vi 0, vi 0] 67))] [] trivial fun ac wd hS => ?_
 refine wp_seq ?_
 refine wp_region_seq ?_
 refine hS.opsC 3 [0, 0, 0] [1, 2, 3, 4] fun _ => seg [(10, .agg #[pnil, vi 0, vi 0]), (11, vi a), (12, vi n)] [(0, none)] [.e (ν1 0), .e (ν1 0), .e (ν1 0)] trivial fun ac wd hS => ?_
 refine hS.call0 82 #[.agg #[pnil, vi 0, vi 0], vi a, vi n] 13 (vnil_check a n _  ) fun ac wd hS => ?_
 refine hS.opsC 1 [0] [1, 2, 3, 4] fun _ => seg [(9, vi 1)] [(0, none)] [] trivial fun ac wd hS => ?_
 refine list_nil_seq ?_
 refine hS.regS [0, 0] [1, 2, 3, 4, 9] fun _ => seg [(15, vb true)] [(0, none)] [] trivial fun ac wd hS => ?_
 refine hS.condT ?_
 refine hS.regS [0, 0] [] fun _ => seg [(8, vi 1)] [] [] trivial fun ac wd hS => ?_
 refine wp_ret ?_
 refine pop_then_ret ?_
 refine St.retC 0 hS (vi 1) [] trivial fun hw => ?_
 refine ⟨retd rfl, hw.fr0⟩

set_option maxRecDepth 100000 in
set_option maxHeartbeats 1000000 in
theorem vnil_Copy (t : Int) (f : Int) (n : Int) (w : World) :
    Calls Tryd.prog 48 #[.agg #[pnil, vi 0, vi 0], vi t, vi f, vi n] w fun e w' => e = .returned (vi 1) ∧ Fr w w' no no := by
 refine enter (args := [.agg #[pnil, vi 0, vi 0], vi t, vi f, vi n]) (D := no) (A := []) Tryd.func48 rfl 37 rfl [] (WS.startL trivial) fun ac hS => ?_
 refine hS.regS [0, 0] [1, 2, 3] fun ν1 => seg [(4, pt (ν1 0) 0)] [(0, some ((ν1 0), .cells [pnil, vi 0, vi 0] 67))] [] trivial fun ac wd hS => ?_
 refine wp_seq ?_
 refine wp_region_seq ?_
 refine hS.opsC 3 [0, 0, 0] [1, 2, 3, 4] fun _ => seg [(11, .agg #[pnil, vi 0, vi 0]), (12, vi f), (13, vi n)] [(0, none)] [.e (ν1 0), .e (ν1 0), .e (ν1 0)] trivial fun ac wd hS => ?_
 refine hS.call0 82 #[.agg #[pnil, vi 0, vi 0], vi f, vi n] 14 (vnil_check f n _  ) fun ac wd hS => ?_
 refine hS.opsC 1 [0] [1, 2, 3, 4] fun _ => seg [(9, vi 1)] [(0, none)] [] trivial fun ac wd hS => ?_
 refine list_nil_seq ?_
 refine hS.regS [0, 0] [1, 2, 3, 4, 9] fun _ => seg [(16, vb true)] [(0, none)] [] trivial fun ac wd hS => ?_
 refine hS.condT ?_
 refine hS.regS [0, 0] [] fun _ => seg [(8, vi 1)] [] [] trivial fun ac wd hS => ?_
 refine wp_ret ?_
 refine pop_then_ret ?_
 refine St.retC 0 hS (vi 1) [] trivial fun hw => ?_
 refine ⟨retd rfl, hw.fr0⟩

set_option maxRecDepth 100000 in
set_option maxHeartbeats 1000000 in
theorem Join0 (s : ByteArray) (w : World) :
    Calls Tryd.prog 40 #[vnil, .string s] w fun e w' => e = .returned (.string (ByteArray.empty)) ∧ Fr w w' no no := by
 refine enter (args := [vnil, .string s]) (D := no) (A := []) Tryd.func40 rfl 75 rfl [] (WS.startL trivial) fun ac hS => ?_
 refine hS.regS [0] [0, 1] fun _ => seg [] [] [] trivial fun ac wd hS => ?_
 refine wp_seq ?_
 refine hS.regS [0, 0] [0, 1] fun _ => seg [(12, vi 0)] [] [] trivial fun ac wd hS => ?_
 refine wp_block ?_
 refine hS.regS [0, 0] [0, 1, 12] fun _ => seg [(13, vb true)] [] [] trivial fun ac wd hS => ?_
 refine hS.condT ?_
 refine hS.regS [0] [] fun _ => seg [(4, .string (⟨#[]⟩ : ByteArray))] [] [] trivial fun ac wd hS => ?_
 refine wp_ret ?_
 refine pop_block_ret ?_
 refine pop_then_ret ?_
 refine St.retC 0 hS (.string (⟨#[]⟩ : ByteArray)) [] trivial fun hw => ?_
 refine ⟨retd (vstr ?_), hw.fr0⟩
 all_goals (first | rfl | assumption | (simp; done) | (simp; omega) | omega | (simp_all; done) | (simp_all; omega))

set_option maxRecDepth 100000 in
set_option maxHeartbeats 1000000 in
theorem vnil_Texts (w : World) :
    Calls Tryd.prog 41 #[.agg #[pnil, vi 0, vi 0], vnil] w fun e w' => e = .returned (vi 1) ∧ Fr w w' no no := by
 refine enter (args := [.agg #[pnil, vi 0, vi 0], vnil]) (D := no) (A := []) Tryd.func41 rfl 9 rfl [] (WS.startL trivial) fun ac hS => ?_
 refine hS.regS [0, 0] [1] fun ν1 => seg [(2, pt (ν1 0) 0)] [(0, some ((ν1 0), .cells [pnil, vi 0, vi 0] 67))] [] trivial fun ac wd hS => ?_
 refine St.ordBeginS [(0, 1), (1, 1), (2, 0), (3, 0), (4, 1)] [((ν1 0), .cells [pnil, vi 0, vi 0] 67)] [0] hS fun wd hS => ?_
 have hap := hS.mem.pairs (Hf := [((ν1 0), .cells [pnil, vi 0, vi 0] 67)]) (l := [0])
 refine St.ordF [0, 0] [0, 1] [] (rest := [(2, 0), (3, 0), (4, 1)]) hS hap <| segF [(5, .agg #[pnil, vi 0, vi 0]), (6, vnil)] [.e (ν1 0), .e (ν1 0), .e (ν1 0)] trivial fun ac hS => ?_
 refine hS.ordC 2 40 #[vnil, .string (⟨#[]⟩ : ByteArray)] (Join0 (⟨#[]⟩ : ByteArray) _  ) ?_
 rintro _ wd ⟨rfl, hF⟩
 refine ⟨.string (ByteArray.empty), rfl, ?_⟩
 replace hS := (hS.to (hS.mem.keep0 hF)).put (d := 7) (v := .string (ByteArray.empty)) (by decide)
 clear hF
 refine hS.ordV (l := [0]) ?_
 refine hS.ordC 3 46 #[.agg #[pnil, vi 0, vi 0], vi 0, .string (ByteArray.empty)] (vnil_Put 0 (ByteArray.empty) _  ) ?_
 rintro _ wd ⟨rfl, hF⟩
 refine ⟨vi 1, rfl, ?_⟩
 replace hS := (hS.to (hS.mem.keep0 hF)).put (d := 8) (v := vi 1) (by decide)
 clear hF
 refine hS.ordV (l := [0]) ?_
 refine St.ordF [0] [4] [] (rest := []) hS hap <| segF [(4, vi 1)] [] trivial fun ac hS => ?_
 refine ord_nil ?_
 refine wp_ret ?_
 refine St.retC 0 hS (vi 1) [] trivial fun hw => ?_
 refine ⟨retd rfl, hw.fr0⟩

set_option maxRecDepth 100000 in
set_option maxHeartbeats 1000000 in
theorem vw_check (b : Nat) (a : Int) (n : Int) (o : Int) (z : Int) (w : World) (hz : 0 ≤ z ∧ z ≤ 4294967296) :
    Calls Tryd.prog 82 #[.agg #[pt b 0, vi o, vi z], vi a, vi n] w fun e w' => e = .returned (vi (vchE z a n)) ∧ Fr w w' no no := by
 refine enter (args := [.agg #[pt b 0, vi o, vi z], vi a, vi n]) (D := no) (A := []) Tryd.func82 rfl 32 rfl [] (WS.startL trivial) fun ac hS => ?_
 refine hS.regS [0, 0] [1, 2] fun ν1 => seg [(3, pt (ν1 0) 0)] [(0, some ((ν1 0), .cells [pt b 0, vi o, vi z] 67))] [] trivial fun ac wd hS => ?_
 refine wp_seq ?_
 refine wp_block ?_
 refine hS.regS [0, 0, 0, 0] [1, 2, 3] fun _ => seg [(7, vb false)] [(0, none)] [.e (ν1 0)] trivial fun ac wd hS => ?_
 refine hS.condF ?_
 refine hS.regS [0, 0, 0, 3, 3, 80, 0, 3, 3, 3, 3, 80, 0, 3, 3, 3, 3, 23, 3, 80, 0] [] fun _ => seg [(11, vb ((((decide ((a : Int) < 0)) || (decide ((n : Int) < 0))) || (decide ((z : Int) < n))) || (decide (((z - n) : Int) < a))))] [] [.p ((((((decide ((a : Int) < 0)) || (decide ((n : Int) < 0))) || (decide ((z : Int) < n))) = false) ∧ True) → AllP [fit .i64 (z - n)]), .p ((((((decide ((a : Int) < 0)) || (decide ((n : Int) < 0))) || (decide ((z : Int) < n))) = false) ∧ True) → AllP [((ν1 0) : Nat) = (ν1 0)]), .p (((((decide ((a : Int) < 0)) || (decide ((n : Int) < 0))) = false) ∧ True) → AllP [((ν1 0) : Nat) = (ν1 0)])] ⟨(fun ⟨hc0, _⟩ => by replace hc0 := nrm hc0; exact ⟨fit_i64 (by omega), trivial⟩), (fun ⟨hc0, _⟩ => by replace hc0 := nrm hc0; exact ⟨rfl, trivial⟩), (fun ⟨hc0, _⟩ => by replace hc0 := nrm hc0; exact ⟨rfl, trivial⟩), trivial⟩ fun ac wd hS => ?_
 refine hS.condC ((((decide ((a : Int) < 0)) || (decide ((n : Int) < 0))) || (decide ((z : Int) < n))) || (decide (((z - n) : Int) < a))) (fun hb1o hb1 => ?_) (fun hb1o hb1 => ?_)
 ·
  refine hS.regS [0] [] fun _ => seg [(6, vi 3)] [] [] trivial fun ac wd hS => ?_
  refine wp_ret ?_
  refine pop_block_ret ?_
  refine pop_then_ret ?_
  refine St.retC 0 hS (vi 3) [] trivial fun hw => ?_
  refine ⟨retd (vint ?_), hw.fr0⟩
  all_goals (first | exact vch_no (by omega) | exact vch_yes (by omega))
 ·
  refine wp_skip ?_
  refine pop_block ?_
  refine pop_then ?_
  refine hS.regS [0] [] fun _ => seg [(6, vi 0)] [] [] trivial fun ac wd hS => ?_
  refine wp_ret ?_
  refine St.retC 0 hS (vi 0) [] trivial fun hw => ?_
  refine ⟨retd (vint ?_), hw.fr0⟩
  all_goals (first | exact vch_no (by omega) | exact vch_yes (by omega))

set_option maxRecDepth 100000 in
set_option maxHeartbeats 1000000 in
theorem vw_whole (b : Nat) (k : Int) (o : Int) (z : Int) (w : World) :
    Calls Tryd.prog 83 #[.agg #[pt b 0, vi o, vi z], vi k] w fun e w' => e = .returned (vi (vwhE k)) ∧ Fr w w' no no := by
 refine enter (args := [.agg #[pt b 0, vi o, vi z], vi k]) (D := no) (A := []) Tryd.func83 rfl 18 rfl [] (WS.startL trivial) fun ac hS => ?_
 refine hS.regS [0, 0] [1] fun ν1 => seg [(2, pt (ν1 0) 0)] [(0, some ((ν1 0), .cells [pt b 0, vi o, vi z] 67))] [] trivial fun ac wd hS => ?_
 refine wp_seq ?_
 refine wp_block ?_
 refine hS.regS [0, 0, 0, 0] [1] fun _ => seg [(5, vb false)] [] [.e (ν1 0)] trivial fun ac wd hS => ?_
 refine hS.condF ?_
 refine wp_seq ?_
 refine hS.regS [0, 0, 0] [1] fun _ => seg [(9, vb ((k : Int) == 1))] [] [] trivial fun ac wd hS => ?_
 refine hS.condC ((k : Int) == 1) (fun hb1o hb1 => ?_) (fun hb1o hb1 => ?_)
 ·
  refine wp_skip ?_
  refine pop_then ?_
  refine hS.condC ((k : Int) == 1) (fun hb2o hb2 => ?_) (fun hb2o hb2 => ?_)
  ·
   refine hS.regS [0] [] fun _ => seg [(4, vi 0)] [] [] trivial fun ac wd hS => ?_
   refine wp_ret ?_
   refine pop_block_ret ?_
   refine pop_then_ret ?_
   refine St.retC 0 hS (vi 0) [] trivial fun hw => ?_
   refine ⟨retd (vint ?_), hw.fr0⟩
   all_goals ((unfold vwhE wholeB; simp_all; done))
  ·
   refine wp_skip ?_
   refine pop_block ?_
   refine pop_then ?_
   refine hS.regS [0] [] fun _ => seg [(4, vi 2)] [] [] trivial fun ac wd hS => ?_
   refine wp_ret ?_
   refine St.retC 0 hS (vi 2) [] trivial fun hw => ?_
   refine ⟨retd (vint ?_), hw.fr0⟩
   all_goals ((unfold vwhE wholeB; simp_all; done))
 ·
  refine hS.regS [0, 0, 0] [1] fun _ => seg [(9, vb ((k : Int) == 2))] [] [] trivial fun ac wd hS => ?_
  refine hS.condC ((k : Int) == 2) (fun hb3o hb3 => ?_) (fun hb3o hb3 => ?_)
  ·
   refine wp_skip ?_
   refine pop_then ?_
   refine hS.condC ((k : Int) == 2) (fun hb4o hb4 => ?_) (fun hb4o hb4 => ?_)
   ·
    refine hS.regS [0] [] fun _ => seg [(4, vi 0)] [] [] trivial fun ac wd hS => ?_
    refine wp_ret ?_
    refine pop_block_ret ?_
    refine pop_then_ret ?_
    refine St.retC 0 hS (vi 0) [] trivial fun hw => ?_
    refine ⟨retd (vint ?_), hw.fr0⟩
    all_goals ((unfold vwhE wholeB; simp_all; done))
   ·
    refine wp_skip ?_
    refine pop_block ?_
    refine pop_then ?_
    refine hS.regS [0] [] fun _ => seg [(4, vi 2)] [] [] trivial fun ac wd hS => ?_
    refine wp_ret ?_
    refine St.retC 0 hS (vi 2) [] trivial fun hw => ?_
    refine ⟨retd (vint ?_), hw.fr0⟩
    all_goals ((unfold vwhE wholeB; simp_all; done))
  ·
   refine hS.regS [0, 0, 0] [1] fun _ => seg [(9, vb ((k : Int) == 4))] [] [] trivial fun ac wd hS => ?_
   refine hS.condC ((k : Int) == 4) (fun hb5o hb5 => ?_) (fun hb5o hb5 => ?_)
   ·
    refine wp_skip ?_
    refine pop_then ?_
    refine hS.condC ((k : Int) == 4) (fun hb6o hb6 => ?_) (fun hb6o hb6 => ?_)
    ·
     refine hS.regS [0] [] fun _ => seg [(4, vi 0)] [] [] trivial fun ac wd hS => ?_
     refine wp_ret ?_
     refine pop_block_ret ?_
     refine pop_then_ret ?_
     refine St.retC 0 hS (vi 0) [] trivial fun hw => ?_
     refine ⟨retd (vint ?_), hw.fr0⟩
     all_goals ((unfold vwhE wholeB; simp_all; done))
    ·
     refine wp_skip ?_
     refine pop_block ?_
     refine pop_then ?_
     refine hS.regS [0] [] fun _ => seg [(4, vi 2)] [] [] trivial fun ac wd hS => ?_
     refine wp_ret ?_
     refine St.retC 0 hS (vi 2) [] trivial fun hw => ?_
     refine ⟨retd (vint ?_), hw.fr0⟩
     all_goals ((unfold vwhE wholeB; simp_all; done))
   ·
    refine hS.regC [0, 0, 0] [] fun _ => seg [(9, vb ((k : Int) == 8))] [] [] trivial fun ac wd hS => ?_
    refine pop_then ?_
    refine hS.condC ((k : Int) == 8) (fun hb7o hb7 => ?_) (fun hb7o hb7 => ?_)
    ·
     refine hS.regS [0] [] fun _ => seg [(4, vi 0)] [] [] trivial fun ac wd hS => ?_
     refine wp_ret ?_
     refine pop_block_ret ?_
     refine pop_then_ret ?_
     refine St.retC 0 hS (vi 0) [] trivial fun hw => ?_
     refine ⟨retd (vint ?_), hw.fr0⟩
     all_goals ((unfold vwhE wholeB; simp_all; done))
    ·
     refine wp_skip ?_
     refine pop_block ?_
     refine pop_then ?_
     refine hS.regS [0] [] fun _ => seg [(4, vi 2)] [] [] trivial fun ac wd hS => ?_
     refine wp_ret ?_
     refine St.retC 0 hS (vi 2) [] trivial fun hw => ?_
     refine ⟨retd (vint ?_), hw.fr0⟩
     all_goals ((unfold vwhE wholeB; simp_all; done))

set_option maxRecDepth 100000 in
set_option maxHeartbeats 1000000 in
theorem vw_Of (b : Nat) (F : Nat → Prop) (m : AM) (a : Int) (n : Int) (w : World) (hr : (arR b F m).R w) (ht : thr m a n = true) :
    Calls Tryd.prog 39 #[pt b 0, vi a, vi n] w fun e w' => e = .returned (.tuple #[.agg #[pt b 0, vi a, vi n], vi 0]) ∧ Fr w w' no no := by
 refine enter (args := [pt b 0, vi a, vi n]) (D := no) (A := []) Tryd.func39 rfl 25 rfl [] (WS.startL trivial) fun ac hS => ?_
 refine hS.regS [0, 0] [0, 1, 2] fun ν1 => seg [(6, pt (ν1 0) 0)] [(0, some ((ν1 0), .cells [pnil, vi 0, vi 0] 67))] [] trivial fun ac wd hS => ?_
 refine wp_seq ?_
 refine wp_region_seq ?_
 refine hS.opsC 3 [0, 0, 0] [0, 1, 2, 6] fun _ => seg [(11, pt b 0), (12, vi a), (13, vi n)] [(0, none)] [] trivial fun ac wd hS => ?_
 refine hS.call0 17 #[pt b 0, vi a, vi n] 14 (ar_Bytes b F m a n _ (Res.keep hr hS.mem.fr) ) fun ac wd hS => ?_
 refine hS.opsC 5 [0, 0, 0, 0, 0] [0, 1, 2, 6] fun _ => seg [(9, vi (chkE m a n))] [(0, none)] [] trivial fun ac wd hS => ?_
 refine list_nil_seq ?_
 refine hS.regS [0, 0] [0, 1, 2, 6, 9] fun _ => seg [(18, vb (((chkE m a n) : Int) != 0))] [(0, none)] [] trivial fun ac wd hS => ?_
 refine hS.condK (((chkE m a n) : Int) != 0) false (by rw [chk_thr ht]; rfl) ?_
 show Code.wp _ _ _ _ _
 refine wp_skip ?_
 refine pop_then ?_
 refine hS.regS [0, 0, 0, 0, 0, 0] [6] fun _ => seg [(7, vi 0)] [(0, some ((ν1 0), .cells [pt b 0, vi a, vi n] 67))] [.e (ν1 0), .e (ν1 0), .e (ν1 0)] trivial fun ac wd hS => ?_
 refine wp_ret ?_
 refine St.retC 0 hS (.tuple #[.agg #[pt b 0, vi a, vi n], vi 0]) [.e (ν1 0), .e (ν1 0), .e (ν1 0)] trivial fun hw => ?_
 refine ⟨retd rfl, hw.fr0⟩

set_option maxRecDepth 100000 in
set_option maxHeartbeats 1000000 in
theorem vw_Store (b : Nat) (F : Nat → Prop) (m : AM) (o : Int) (z : Int) (a : Int) (k : Int) (v : Int) (w : World) (hr : (arR b F m).R w) (ho : 0 ≤ o ∧ 0 ≤ z ∧ o + z ≤ 4294967296) :
    Calls Tryd.prog 45 #[.agg #[pt b 0, vi o, vi z], vi a, vi k, vu v] w fun e w' => ∃ (F' : Nat → Prop), e = .returned (vi (vstE m o z a k)) ∧ (arR b F' (vstM m o z a k v)).R w' ∧ Fr w w' F F' := by
 refine enter (args := [.agg #[pt b 0, vi o, vi z], vi a, vi k, vu v]) (D := F) (A := [arR b F m]) Tryd.func45 rfl 33 rfl [] (WS.startA (r := arR b F m) hr trivial trivial) fun ac hS => ?_
 refine hS.regS [0, 0] [1, 2, 3] fun ν1 => seg [(4, pt (ν1 0) 0)] [(0, some ((ν1 0), .cells [pt b 0, vi o, vi z] 67))] [] trivial fun ac wd hS => ?_
 refine wp_seq ?_
 refine wp_region_seq ?_
 refine hS.opsC 2 [0, 0] [1, 2, 3, 4] fun _ => seg [(11, .agg #[pt b 0, vi o, vi z]), (12, vi k)] [(0, none)] [.e (ν1 0), .e (ν1 0), .e (ν1 0)] trivial fun ac wd hS => ?_
 refine hS.call0 83 #[.agg #[pt b 0, vi o, vi z], vi k] 13 (vw_whole b k o z _  ) fun ac wd hS => ?_
 refine hS.opsC 1 [0] [1, 2, 3, 4] fun _ => seg [(9, vi (vwhE k))] [(0, none)] [] trivial fun ac wd hS => ?_
 refine list_nil_seq ?_
 refine hS.regS [0, 0] [1, 2, 3, 4, 9] fun _ => seg [(15, vb (((vwhE k) : Int) != 0))] [(0, none)] [] trivial fun ac wd hS => ?_
 refine hS.condC (((vwhE k) : Int) != 0) (fun hb1o hb1 => ?_) (fun hb1o hb1 => ?_)
 ·
  have hv1 := hb1
  refine hS.regS [0, 0] [] fun _ => seg [(8, vi (vwhE k))] [] [] trivial fun ac wd hS => ?_
  refine wp_ret ?_
  refine pop_then_ret ?_
  refine St.retC 0 hS (vi (vwhE k)) [] trivial fun hw => ?_
  refine ⟨F, retd (vint ?_), (res_eq (r := arR b F m) (by first | rw [← vst_d hv1] | rw [← vst_e hcn] | rw [vst_f hv0 hc0]) (hw.res 0)), hw.frA⟩
  all_goals (first | exact vst_a hv1 | exact vst_b hv0 hcn | exact vst_c hv0 hc0)
 ·
  have hv0 := hb1
  refine wp_skip ?_
  refine pop_then ?_
  refine wp_seq ?_
  refine wp_region_seq ?_
  refine hS.opsC 3 [0, 0, 0] [1, 2, 3, 4] fun _ => seg [(17, .agg #[pt b 0, vi o, vi z]), (18, vi a), (19, vi k)] [(0, none)] [.e (ν1 0), .e (ν1 0), .e (ν1 0)] trivial fun ac wd hS => ?_
  refine hS.call0 82 #[.agg #[pt b 0, vi o, vi z], vi a, vi k] 20 (vw_check b a k o z _  (by first | assumption | omega | (simp_all; done) | (simp_all; omega))) fun ac wd hS => ?_
  refine hS.opsC 1 [0] [1, 2, 3, 4] fun _ => seg [(10, vi (vchE z a k))] [(0, none)] [] trivial fun ac wd hS => ?_
  refine list_nil_seq ?_
  refine hS.regS [0, 0] [1, 2, 3, 4, 10] fun _ => seg [(22, vb (((vchE z a k) : Int) != 0))] [(0, none)] [] trivial fun ac wd hS => ?_
  refine hS.condC (((vchE z a k) : Int) != 0) (fun hb2o hb2 => ?_) (fun hb2o hb2 => ?_)
  ·
   have hcn := hb2
   refine hS.regS [0, 0] [] fun _ => seg [(8, vi (vchE z a k))] [] [] trivial fun ac wd hS => ?_
   refine wp_ret ?_
   refine pop_then_ret ?_
   refine St.retC 0 hS (vi (vchE z a k)) [] trivial fun hw => ?_
   refine ⟨F, retd (vint ?_), (res_eq (r := arR b F m) (by first | rw [← vst_d hv1] | rw [← vst_e hcn] | rw [vst_f hv0 hc0]) (hw.res 0)), hw.frA⟩
   all_goals (first | exact vst_a hv1 | exact vst_b hv0 hcn | exact vst_c hv0 hc0)
  ·
   have hc0 := hb2
   obtain ⟨hc1, hc2, hc3, hc4⟩ := vch_in hc0
   refine wp_skip ?_
   refine pop_then ?_
   refine wp_region_seq ?_
   refine hS.opsC 8 [0, 0, 0, 0, 0, 20, 0, 0] [] fun _ => seg [(25, pt b 0), (29, vi (o + a)), (30, vi k), (31, vu v)] [] [.p (fit .i64 (o + a)), .e (ν1 0), .e (ν1 0)] ⟨fit_i64 (by omega), trivial⟩ fun ac wd hS => ?_
   refine hS.callC 23 #[pt b 0, vi (o + a), vi k, vu v] (ar_Store b F m (o + a) k v _ (hS.mem.res 0) ) ?_
   rintro _ wd ⟨F3, rfl, hA, hF⟩
   refine ⟨vi (stE m (o + a) k), rfl, ?_⟩
   replace hS := (hS.to (hS.mem.stepA 0 rfl hA hF)).put (d := 32) (v := vi (stE m (o + a) k)) (by decide)
   clear hF
   refine hS.opsC 1 [0] [] fun _ => seg [(8, vi (stE m (o + a) k))] [] [] trivial fun ac wd hS => ?_
   refine list_nil_seq ?_
   refine wp_ret ?_
   refine St.retC 0 hS (vi (stE m (o + a) k)) [] trivial fun hw => ?_
   refine ⟨F3, retd (vint ?_), (res_eq (r := arR b F3 (stM m (o + a) k v)) (by first | rw [← vst_d hv1] | rw [← vst_e hcn] | rw [vst_f hv0 hc0]) (hw.res 0)), hw.frA⟩
   all_goals (first | exact vst_a hv1 | exact vst_b hv0 hcn | exact vst_c hv0 hc0)

set_option maxRecDepth 100000 in
set_option maxHeartbeats 1000000 in
theorem vw_Load (b : Nat) (F : Nat → Prop) (m : AM) (o : Int) (z : Int) (a : Int) (k : Int) (w : World) (hr : (arR b F m).R w) (ho : 0 ≤ o ∧ 0 ≤ z ∧ o + z ≤ 4294967296) :
    Calls Tryd.prog 43 #[.agg #[pt b 0, vi o, vi z], vi a, vi k] w fun e w' => e = .returned (.tuple #[vu (vldV m o z a k), vi (vldE m o z a k)]) ∧ Fr w w' no no := by
 refine enter (args := [.agg #[pt b 0, vi o, vi z], vi a, vi k]) (D := no) (A := []) Tryd.func43 rfl 33 rfl [] (WS.startL trivial) fun ac hS => ?_
 refine hS.regS [0, 0, 0] [1, 2] fun ν1 => seg [(3, pt (ν1 0) 0)] [(0, some ((ν1 0), .cells [pt b 0, vi o, vi z] 67))] [] trivial fun ac wd hS => ?_
 refine wp_seq ?_
 refine wp_region_seq ?_
 refine hS.opsC 2 [0, 0] [1, 2, 3] fun _ => seg [(10, .agg #[pt b 0, vi o, vi z]), (11, vi k)] [(0, none)] [.e (ν1 0), .e (ν1 0), .e (ν1 0)] trivial fun ac wd hS => ?_
 refine hS.call0 83 #[.agg #[pt b 0, vi o, vi z], vi k] 12 (vw_whole b k o z _  ) fun ac wd hS => ?_
 refine hS.opsC 1 [0] [1, 2, 3] fun _ => seg [(8, vi (vwhE k))] [(0, none)] [] trivial fun ac wd hS => ?_
 refine list_nil_seq ?_
 refine hS.regS [0, 0] [1, 2, 3, 8] fun _ => seg [(14, vb (((vwhE k) : Int) != 0))] [(0, none)] [] trivial fun ac wd hS => ?_
 refine hS.condC (((vwhE k) : Int) != 0) (fun hb1o hb1 => ?_) (fun hb1o hb1 => ?_)
 ·
  have hv1 := hb1
  refine hS.regS [0, 0, 0] [] fun _ => seg [(6, vu 0), (7, vi (vwhE k))] [] [] trivial fun ac wd hS => ?_
  refine wp_ret ?_
  refine pop_then_ret ?_
  refine St.retC 0 hS (.tuple #[vu 0, vi (vwhE k)]) [] trivial fun hw => ?_
  refine ⟨retd (tuple2 (vint ?_) (vint ?_)), hw.fr0⟩
  all_goals (first | exact vld_a hv1 | exact vld_b hv0 hcn | exact vld_c hv0 hc0 | exact vld_d hv1 | exact vld_e hcn | exact vld_f hv0 hc0)
 ·
  have hv0 := hb1
  refine wp_skip ?_
  refine pop_then ?_
  refine wp_seq ?_
  refine wp_region_seq ?_
  refine hS.opsC 3 [0, 0, 0] [1, 2, 3] fun _ => seg [(16, .agg #[pt b 0, vi o, vi z]), (17, vi a), (18, vi k)] [(0, none)] [.e (ν1 0), .e (ν1 0), .e (ν1 0)] trivial fun ac wd hS => ?_
  refine hS.call0 82 #[.agg #[pt b 0, vi o, vi z], vi a, vi k] 19 (vw_check b a k o z _  (by first | assumption | omega | (simp_all; done) | (simp_all; omega))) fun ac wd hS => ?_
  refine hS.opsC 1 [0] [1, 2, 3] fun _ => seg [(9, vi (vchE z a k))] [(0, none)] [] trivial fun ac wd hS => ?_
  refine list_nil_seq ?_
  refine hS.regS [0, 0] [1, 2, 3, 9] fun _ => seg [(21, vb (((vchE z a k) : Int) != 0))] [(0, none)] [] trivial fun ac wd hS => ?_
  refine hS.condC (((vchE z a k) : Int) != 0) (fun hb2o hb2 => ?_) (fun hb2o hb2 => ?_)
  ·
   have hcn := hb2
   refine hS.regS [0, 0, 0] [] fun _ => seg [(6, vu 0), (7, vi (vchE z a k))] [] [] trivial fun ac wd hS => ?_
   refine wp_ret ?_
   refine pop_then_ret ?_
   refine St.retC 0 hS (.tuple #[vu 0, vi (vchE z a k)]) [] trivial fun hw => ?_
   refine ⟨retd (tuple2 (vint ?_) (vint ?_)), hw.fr0⟩
   all_goals (first | exact vld_a hv1 | exact vld_b hv0 hcn | exact vld_c hv0 hc0 | exact vld_d hv1 | exact vld_e hcn | exact vld_f hv0 hc0)
  ·
   have hc0 := hb2
   obtain ⟨hc1, hc2, hc3, hc4⟩ := vch_in hc0
   refine wp_skip ?_
   refine pop_then ?_
   refine wp_region_seq ?_
   refine hS.opsC 7 [0, 0, 0, 0, 0, 20, 0] [] fun _ => seg [(24, pt b 0), (28, vi (o + a)), (29, vi k)] [] [.p (fit .i64 (o + a)), .e (ν1 0), .e (ν1 0)] ⟨fit_i64 (by omega), trivial⟩ fun ac wd hS => ?_
   refine hS.call0 21 #[pt b 0, vi (o + a), vi k] 30 (ar_Load b F m (o + a) k _ (Res.keep hr hS.mem.fr) ) fun ac wd hS => ?_
   refine hS.opsC 4 [0, 0, 0, 0] [] fun _ => seg [(6, vu (ldV m (o + a) k)), (7, vi (ldE m (o + a) k))] [] [] trivial fun ac wd hS => ?_
   refine list_nil_seq ?_
   refine wp_ret ?_
   refine St.retC 0 hS (.tuple #[vu (ldV m (o + a) k), vi (ldE m (o + a) k)]) [] trivial fun hw => ?_
   refine ⟨retd (tuple2 (vint ?_) (vint ?_)), hw.fr0⟩
   all_goals (first | exact vld_a hv1 | exact vld_b hv0 hcn | exact vld_c hv0 hc0 | exact vld_d hv1 | exact vld_e hcn | exact vld_f hv0 hc0)

set_option maxRecDepth 100000 in
set_option maxHeartbeats 1000000 in
theorem law04_awake (w : World) (hh0 : HE.holds w 1 (.fn 0 64 dbT)) :
    Calls Tryd.prog 38 #[] w fun e w' => e = .returned (vb true) ∧ Fr w w' no no := by
 refine enter (args := []) (D := no) (A := []) Tryd.func38 rfl 61 rfl [(1, .fn 0 64 dbT)] (WS.startL ⟨⟨rfl, hh0⟩, trivial⟩) fun ac hS => ?_
 refine hS.regS [0] [] fun _ => seg [] [(0, none)] [] trivial fun ac wd hS => ?_
 refine wp_region_seq ?_
 refine hS.callC 14 #[vi 1] (ar_New 1 _  ) ?_
 rintro _ wd ⟨b'1, F2, rfl, hN, hF⟩
 refine ⟨pt b'1 0, rfl, ?_⟩
 replace hS := (hS.to (hS.mem.newA hN hF)).put (d := 10) (v := pt b'1 0) (by decide)
 clear hF
 refine hS.opsC 1 [0] [] fun _ => seg [(1, pt b'1 0)] [(0, none)] [] trivial fun ac wd hS => ?_
 refine list_nil_seq ?_
 refine wp_region_seq ?_
 refine hS.opsC 1 [0] [1] fun _ => seg [(11, pt b'1 0)] [(0, none)] [] trivial fun ac wd hS => ?_
 refine hS.callC 15 #[pt b'1 0, vi 0, vi 1] (ar_Commit b'1 F2 (AM.new 1) 0 1 _ (hS.mem.res 0) ) ?_
 rintro _ wd ⟨F3, rfl, hA, hF⟩
 refine ⟨vi (comE (AM.new 1) 0 1), rfl, ?_⟩
 replace hS := (hS.to (hS.mem.stepA 0 rfl hA hF)).put (d := 12) (v := vi (comE (AM.new 1) 0 1)) (by decide)
 clear hF
 refine hS.opsC 1 [0] [1] fun _ => seg [(2, vi (comE (AM.new 1) 0 1))] [(0, none)] [] trivial fun ac wd hS => ?_
 refine list_nil_seq ?_
 refine wp_region_seq ?_
 refine hS.opsC 1 [0] [1, 2] fun _ => seg [(14, pt b'1 0)] [(0, none)] [] trivial fun ac wd hS => ?_
 refine hS.call0 39 #[pt b'1 0, vi 100, vi 8] 15 (vw_Of b'1 F3 (comM (AM.new 1) 0 1) 100 8 _ (hS.mem.res 0) (by decide +kernel)) fun ac wd hS => ?_
 refine hS.opsC 6 [0, 0, 0, 0, 100, 0] [1, 2] fun ν6 => seg [(3, pt (ν6 0) 0), (4, vi 0)] [(0, none), (1, some ((ν6 0), .cells [pt b'1 0, vi 100, vi 8] 67))] [.e (ν6 0), .e (ν6 0), .e (ν6 0)] trivial fun ac wd hS => ?_
 refine list_nil_seq ?_
 refine wp_region_seq ?_
 refine hS.opsC 1 [100] [1, 2, 3, 4] fun _ => seg [(18, .agg #[pt b'1 0, vi 100, vi 8])] [(0, none), (1, none)] [.e (ν6 0), .e (ν6 0), .e (ν6 0)] trivial fun ac wd hS => ?_
 refine hS.callC 45 #[.agg #[pt b'1 0, vi 100, vi 8], vi 0, vi 8, vu 1] (vw_Store b'1 F3 (comM (AM.new 1) 0 1) 100 8 0 8 1 _ (hS.mem.res 0) (by decide)) ?_
 rintro _ wd ⟨F4, rfl, hA, hF⟩
 refine ⟨vi (vstE (comM (AM.new 1) 0 1) 100 8 0 8), rfl, ?_⟩
 replace hS := (hS.to (hS.mem.stepA 0 rfl hA hF)).put (d := 19) (v := vi (vstE (comM (AM.new 1) 0 1) 100 8 0 8)) (by decide)
 clear hF
 refine hS.opsC 1 [0] [1, 2, 3, 4] fun _ => seg [(5, vi (vstE (comM (AM.new 1) 0 1) 100 8 0 8))] [(0, none), (1, none)] [] trivial fun ac wd hS => ?_
 refine list_nil_seq ?_
 refine wp_region_seq ?_
 refine hS.opsC 1 [0] [2, 3, 4, 5] fun _ => seg [(21, pt b'1 0)] [(0, none), (1, none)] [] trivial fun ac wd hS => ?_
 refine hS.call0 21 #[pt b'1 0, vi 100, vi 1] 22 (ar_Load b'1 F4 (vstM (comM (AM.new 1) 0 1) 100 8 0 8 1) 100 1 _ (hS.mem.res 0) ) fun ac wd hS => ?_
 refine hS.opsC 5 [0, 0, 0, 0, 0] [2, 3, 4, 5] fun _ => seg [(6, vu (ldV (vstM (comM (AM.new 1) 0 1) 100 8 0 8 1) 100 1)), (7, vi (ldE (vstM (comM (AM.new 1) 0 1) 100 8 0 8 1) 100 1))] [(0, none), (1, none)] [] trivial fun ac wd hS => ?_
 refine list_nil_seq ?_
 refine wp_region_seq ?_
 refine hS.opsC 1 [100] [2, 3, 4, 5, 6, 7] fun _ => seg [(26, .agg #[pt b'1 0, vi 100, vi 8])] [(0, none), (1, none)] [.e (ν6 0), .e (ν6 0), .e (ν6 0)] trivial fun ac wd hS => ?_
 refine hS.call0 43 #[.agg #[pt b'1 0, vi 100, vi 8], vi 1, vi 8] 27 (vw_Load b'1 F4 (vstM (comM (AM.new 1) 0 1) 100 8 0 8 1) 100 8 1 8 _ (hS.mem.res 0) (by decide)) fun ac wd hS => ?_
 refine hS.opsC 5 [0, 0, 0, 0, 0] [2, 3, 4, 5, 6, 7] fun _ => seg [(9, vi (vldE (vstM (comM (AM.new 1) 0 1) 100 8 0 8 1) 100 8 1 8))] [(0, none), (1, none)] [] trivial fun ac wd hS => ?_
 refine list_nil_seq ?_
 refine wp_region_seq ?_
 refine hS.call0 79 #[] 30 (law03_Awake  _ (hS.mem.get 0 1 (.fn 0 64 dbT)) ) fun ac wd hS => ?_
 refine hS.opsC 25 [0, 1, 1, 70, 0, 3, 3, 80, 0, 3, 3, 80, 0, 3, 3, 80, 0, 3, 3, 80, 0, 3, 3, 80, 0] [3] fun _ => seg [(55, vb ((((((((comE (AM.new 1) 0 1) : Int) == 0) && true) && (((vstE (comM (AM.new 1) 0 1) 100 8 0 8) : Int) == 0)) && (((ldE (vstM (comM (AM.new 1) 0 1) 100 8 0 8 1) 100 1) : Int) == 0)) && (((ldV (vstM (comM (AM.new 1) 0 1) 100 8 0 8 1) 100 1) : Int) == 1)) && (((vldE (vstM (comM (AM.new 1) 0 1) 100 8 0 8 1) 100 8 1 8) : Int) == 3)))] [(0, none), (1, none)] [.t true, .t true, .t true] trivial fun ac wd hS => ?_
 have hg5o : ((((((((comE (AM.new 1) 0 1) : Int) == 0) && true) && (((vstE (comM (AM.new 1) 0 1) 100 8 0 8) : Int) == 0)) && (((ldE (vstM (comM (AM.new 1) 0 1) 100 8 0 8 1) 100 1) : Int) == 0)) && (((ldV (vstM (comM (AM.new 1) 0 1) 100 8 0 8 1) 100 1) : Int) == 1)) && (((vldE (vstM (comM (AM.new 1) 0 1) 100 8 0 8 1) 100 8 1 8) : Int) == 3)) = true := by decide +kernel
 replace hS := hS.fix 55 (vb true) (congrArg Value.bool hg5o)
 refine hS.opsC 2 [1, 101] [55] fun _ => seg [(57, pt b'1 0)] [(0, none)] [.t true, .e (ν6 0), .t true] trivial fun ac wd hS => ?_
 refine hS.callG true 19 #[pt b'1 0] (ar_Cap b'1 F4 (vstM (comM (AM.new 1) 0 1) 100 8 0 8 1) _ (hS.mem.res 0) ) ?_
 rintro _ wd ⟨rfl, hF⟩
 refine ⟨vi (((vstM (comM (AM.new 1) 0 1) 100 8 0 8 1).cap : Nat) : Int), rfl, ?_⟩
 replace hS := (hS.to (hS.mem.keep0 hF)).put (d := 58) (v := vi (((vstM (comM (AM.new 1) 0 1) 100 8 0 8 1).cap : Nat) : Int)) (by decide)
 clear hF
 refine hS.opsC 3 [1, 70, 0] [] fun _ => seg [(0, vb (((((vstM (comM (AM.new 1) 0 1) 100 8 0 8 1).cap : Nat) : Int) : Int) == 1))] [(0, none)] [.t true, .t true] trivial fun ac wd hS => ?_
 refine list_nil_seq ?_
 refine wp_ret ?_
 refine St.retC 0 hS (vb (((((vstM (comM (AM.new 1) 0 1) 100 8 0 8 1).cap : Nat) : Int) : Int) == 1)) [] trivial fun hw => ?_
 refine ⟨retd (vbool ?_), hw.fr0⟩
 all_goals (first | rfl | decide +kernel)

set_option maxRecDepth 100000 in
set_option maxHeartbeats 1000000 in
theorem law04_ViewNone (w : World) (hh0 : HE.holds w 1 (.fn 0 64 dbT)) :
    Calls Tryd.prog 9 #[] w fun e w' => e = .returned (vb true) ∧ Fr w w' no no := by
 refine enter (args := []) (D := no) (A := []) Tryd.func9 rfl 79 rfl [(1, .fn 0 64 dbT)] (WS.startL ⟨⟨rfl, hh0⟩, trivial⟩) fun ac hS => ?_
 refine hS.regS [0] [] fun _ => seg [] [(0, none)] [] trivial fun ac wd hS => ?_
 refine hS.regS [0] [] fun ν2 => seg [(1, pt (ν2 0) 0)] [(0, none), (1, some ((ν2 0), .cells [pnil, vi 0, vi 0] 67))] [] trivial fun ac wd hS => ?_
 refine wp_region_seq ?_
 refine hS.call0 39 #[pnil, vi 0, vi 0] 11 (vnil_Of 0 0 _  ) fun ac wd hS => ?_
 refine hS.opsC 6 [0, 0, 0, 0, 200, 0] [1] fun ν3 => seg [(3, vi 1)] [(0, none), (1, none)] [.e (ν3 0), .e (ν3 0), .e (ν3 0)] trivial fun ac wd hS => ?_
 refine list_nil_seq ?_
 refine wp_region_seq ?_
 refine hS.opsC 1 [100] [1, 3] fun _ => seg [(15, .agg #[pnil, vi 0, vi 0])] [(0, none), (1, none)] [.e (ν2 0), .e (ν2 0), .e (ν2 0)] trivial fun ac wd hS => ?_
 refine hS.call0 42 #[.agg #[pnil, vi 0, vi 0], vi 0, vi 0] 16 (vnil_Part 0 0 _  ) fun ac wd hS => ?_
 refine hS.opsC 6 [0, 0, 0, 0, 200, 0] [1, 3] fun ν5 => seg [(5, vi 1)] [(0, none), (1, none)] [.e (ν5 0), .e (ν5 0), .e (ν5 0)] trivial fun ac wd hS => ?_
 refine list_nil_seq ?_
 refine wp_region_seq ?_
 refine hS.opsC 1 [100] [1, 3, 5] fun _ => seg [(20, .agg #[pnil, vi 0, vi 0])] [(0, none), (1, none)] [.e (ν2 0), .e (ν2 0), .e (ν2 0)] trivial fun ac wd hS => ?_
 refine hS.call0 43 #[.agg #[pnil, vi 0, vi 0], vi 0, vi 3] 21 (vnil_Load 0 3 _  ) fun ac wd hS => ?_
 refine hS.opsC 5 [0, 0, 0, 0, 0] [1, 3, 5] fun _ => seg [(7, vi 1)] [(0, none), (1, none)] [] trivial fun ac wd hS => ?_
 refine list_nil_seq ?_
 refine wp_region_seq ?_
 refine hS.opsC 1 [100] [1, 3, 5, 7] fun _ => seg [(25, .agg #[pnil, vi 0, vi 0])] [(0, none), (1, none)] [.e (ν2 0), .e (ν2 0), .e (ν2 0)] trivial fun ac wd hS => ?_
 refine hS.call0 44 #[.agg #[pnil, vi 0, vi 0], vi 0, vi 0] 26 (vnil_Bytes 0 0 _  ) fun ac wd hS => ?_
 refine hS.opsC 5 [0, 0, 0, 0, 0] [1, 3, 5, 7] fun _ => seg [(9, vi 1)] [(0, none), (1, none)] [] trivial fun ac wd hS => ?_
 refine list_nil_seq ?_
 refine St.ordBeginS [(0, 0), (1, 1), (2, 1), (3, 1), (4, 1), (5, 1), (6, 1), (7, 1), (8, 1), (9, 1), (10, 1), (11, 1), (12, 1), (13, 1), (14, 1), (15, 1), (16, 1), (17, 1), (18, 1), (19, 0), (20, 1), (21, 1), (22, 1), (23, 1), (24, 0), (25, 1), (26, 1), (27, 1), (28, 1), (29, 0), (30, 1), (31, 1), (32, 1), (33, 1), (34, 0), (35, 1), (36, 1), (37, 1), (38, 1), (40, 1), (39, 0), (41, 0), (42, 1), (43, 1), (44, 1), (45, 1), (46, 1), (47, 0), (48, 1), (49, 1), (50, 1)] [(1, .fn 0 64 dbT), ((ν2 0), .cells [pnil, vi 0, vi 0] 67)] [0, 1] hS fun wd hS => ?_
 have hap := hS.mem.pairs (Hf := [(1, .fn 0 64 dbT), ((ν2 0), .cells [pnil, vi 0, vi 0] 67)]) (l := [0, 1])
 refine hS.ordC 0 38 #[] (law04_awake  _ (hS.mem.get 0 1 (.fn 0 64 dbT)) ) ?_
 rintro _ wd ⟨rfl, hF⟩
 refine ⟨vb true, rfl, ?_⟩
 replace hS := (hS.to (hS.mem.keep0 hF)).put (d := 29) (v := vb true) (by decide)
 clear hF
 refine hS.ordV (l := [0, 1]) ?_
 refine St.ordF [0, 1, 1, 70, 0, 1, 1, 70, 0, 1, 1, 70, 0, 1, 1, 70, 0, 101] [1, 2, 3, 4, 5, 6, 7, 8, 9, 10, 11, 12, 13, 14, 15, 16, 17, 18] [1] (rest := [(19, 0), (20, 1), (21, 1), (22, 1), (23, 1), (24, 0), (25, 1), (26, 1), (27, 1), (28, 1), (29, 0), (30, 1), (31, 1), (32, 1), (33, 1), (34, 0), (35, 1), (36, 1), (37, 1), (38, 1), (40, 1), (39, 0), (41, 0), (42, 1), (43, 1), (44, 1), (45, 1), (46, 1), (47, 0), (48, 1), (49, 1), (50, 1)]) hS hap <| segF [(46, vb true), (47, .agg #[pnil, vi 0, vi 0])] [.t true, .e (ν2 0), .e (ν2 0), .e (ν2 0), .t true, .t true, .t true, .t true, .t true, .t true, .t true, .t true, .t true, .t true, .t true, .t true] trivial fun ac hS => ?_
 refine hS.ordCG 19 true 45 #[.agg #[pnil, vi 0, vi 0], vi 0, vi 1, vu 0] (vnil_Store 0 1 0 _  ) ?_
 rintro _ wd ⟨rfl, hF⟩
 refine ⟨vi 1, rfl, ?_⟩
 replace hS := (hS.to (hS.mem.keep0 hF)).put (d := 48) (v := vi 1) (by decide)
 clear hF
 refine hS.ordV (l := [0, 1]) ?_
 refine St.ordF [1, 70, 0, 101] [20, 21, 22, 23] [1] (rest := [(24, 0), (25, 1), (26, 1), (27, 1), (28, 1), (29, 0), (30, 1), (31, 1), (32, 1), (33, 1), (34, 0), (35, 1), (36, 1), (37, 1), (38, 1), (40, 1), (39, 0), (41, 0), (42, 1), (43, 1), (44, 1), (45, 1), (46, 1), (47, 0), (48, 1), (49, 1), (50, 1)]) hS hap <| segF [(51, vb true), (52, .agg #[pnil, vi 0, vi 0])] [.t true, .e (ν2 0), .e (ν2 0), .e (ν2 0), .t true, .t true] trivial fun ac hS => ?_
 refine hS.ordCG 24 true 46 #[.agg #[pnil, vi 0, vi 0], vi 0, .string (⟨#[]⟩ : ByteArray)] (vnil_Put 0 (⟨#[]⟩ : ByteArray) _  ) ?_
 rintro _ wd ⟨rfl, hF⟩
 refine ⟨vi 1, rfl, ?_⟩
 replace hS := (hS.to (hS.mem.keep0 hF)).put (d := 53) (v := vi 1) (by decide)
 clear hF
 refine hS.ordV (l := [0, 1]) ?_
 refine St.ordF [1, 70, 0, 101] [25, 26, 27, 28] [1] (rest := [(29, 0), (30, 1), (31, 1), (32, 1), (33, 1), (34, 0), (35, 1), (36, 1), (37, 1), (38, 1), (40, 1), (39, 0), (41, 0), (42, 1), (43, 1), (44, 1), (45, 1), (46, 1), (47, 0), (48, 1), (49, 1), (50, 1)]) hS hap <| segF [(56, vb true), (57, .agg #[pnil, vi 0, vi 0])] [.t true, .e (ν2 0), .e (ν2 0), .e (ν2 0), .t true, .t true] trivial fun ac hS => ?_
 refine hS.ordCG 29 true 47 #[.agg #[pnil, vi 0, vi 0], vi 0, vi 0, v8 0] (vnil_Fill 0 0 0 _  ) ?_
 rintro _ wd ⟨rfl, hF⟩
 refine ⟨vi 1, rfl, ?_⟩
 replace hS := (hS.to (hS.mem.keep0 hF)).put (d := 58) (v := vi 1) (by decide)
 clear hF
 refine hS.ordV (l := [0, 1]) ?_
 refine St.ordF [1, 70, 0, 101] [30, 31, 32, 33] [1] (rest := [(34, 0), (35, 1), (36, 1), (37, 1), (38, 1), (40, 1), (39, 0), (41, 0), (42, 1), (43, 1), (44, 1), (45, 1), (46, 1), (47, 0), (48, 1), (49, 1), (50, 1)]) hS hap <| segF [(61, vb true), (62, .agg #[pnil, vi 0, vi 0])] [.t true, .e (ν2 0), .e (ν2 0), .e (ν2 0), .t true, .t true] trivial fun ac hS => ?_
 refine hS.ordCG 34 true 48 #[.agg #[pnil, vi 0, vi 0], vi 0, vi 0, vi 0] (vnil_Copy 0 0 0 _  ) ?_
 rintro _ wd ⟨rfl, hF⟩
 refine ⟨vi 1, rfl, ?_⟩
 replace hS := (hS.to (hS.mem.keep0 hF)).put (d := 63) (v := vi 1) (by decide)
 clear hF
 refine hS.ordV (l := [0, 1]) ?_
 refine St.ordF [1, 70, 0, 101, 101] [35, 36, 37, 38, 40] [1] (rest := [(39, 0), (41, 0), (42, 1), (43, 1), (44, 1), (45, 1), (46, 1), (47, 0), (48, 1), (49, 1), (50, 1)]) hS hap <| segF [(66, vb true), (67, .agg #[pnil, vi 0, vi 0]), (69, .agg #[pnil, vi 0, vi 0])] [.t true, .e (ν2 0), .e (ν2 0), .e (ν2 0), .t true, .e (ν2 0), .e (ν2 0), .e (ν2 0), .t true, .t true] trivial fun ac hS => ?_
 refine hS.ordCG 39 true 49 #[.agg #[pnil, vi 0, vi 0]] (vnil_At  _  ) ?_
 rintro _ wd ⟨rfl, hF⟩
 refine ⟨vi 0, rfl, ?_⟩
 replace hS := (hS.to (hS.mem.keep0 hF)).put (d := 68) (v := vi 0) (by decide)
 clear hF
 refine hS.ordV (l := [0, 1]) ?_
 refine hS.ordCG 41 true 50 #[.agg #[pnil, vi 0, vi 0]] (vnil_Size  _  ) ?_
 rintro _ wd ⟨rfl, hF⟩
 refine ⟨vi 0, rfl, ?_⟩
 replace hS := (hS.to (hS.mem.keep0 hF)).put (d := 70) (v := vi 0) (by decide)
 clear hF
 refine hS.ordV (l := [0, 1]) ?_
 refine St.ordF [1, 1, 70, 0, 101] [42, 43, 44, 45, 46] [] (rest := [(47, 0), (48, 1), (49, 1), (50, 1)]) hS hap <| segF [(74, vb true), (75, .agg #[pnil, vi 0, vi 0])] [.t true, .e (ν2 0), .e (ν2 0), .e (ν2 0), .t true, .t true, .t true] trivial fun ac hS => ?_
 refine hS.ordCG 47 true 41 #[.agg #[pnil, vi 0, vi 0], vnil] (vnil_Texts  _  ) ?_
 rintro _ wd ⟨rfl, hF⟩
 refine ⟨vi 1, rfl, ?_⟩
 replace hS := (hS.to (hS.mem.keep0 hF)).put (d := 76) (v := vi 1) (by decide)
 clear hF
 refine hS.ordV (l := [0, 1]) ?_
 refine St.ordF [1, 70, 0] [48, 49, 50] [] (rest := []) hS hap <| segF [(0, vb true)] [.t true, .t true] trivial fun ac hS => ?_
 refine ord_nil ?_
 refine wp_ret ?_
 refine St.retC 0 hS (vb true) [] trivial fun hw => ?_
 refine ⟨retd rfl, hw.fr0⟩

end Go.Proofs.YtlnecfdbmoilbaaDoor.K
