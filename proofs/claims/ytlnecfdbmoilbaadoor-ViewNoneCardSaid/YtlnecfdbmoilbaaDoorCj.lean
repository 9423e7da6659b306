/-
  Walks, printed by w2.py.
-/
import Derived.Test.YtlnecfdbmoilbaaDoorCi
import Derived.Test.YtlnecfdbmoilbaaDoorKv
import Derived.Test.YtlnecfdbmoilbaaDoorProg
namespace Go.Proofs.YtlnecfdbmoilbaaDoor.K
set_option linter.unusedVariables false
set_option linter.unusedSimpArgs false

set_option maxRecDepth 100000 in
set_option maxHeartbeats 1000000 in
theorem law03_ArenaCopies (s : ByteArray) (a : Int) (t : Int) (n : Int) (w : World) (hh0 : HE.holds w 1 (.fn 0 64 dbT)) :
    Calls Tryd.prog 3 #[.string s, vi a, vi t, vi n] w fun e w' => e = .returned (vb true) ∧ Fr w w' no no := by
 have hF := full4
 have hF2 := full4.put 0 s
 refine enter (args := [.string s, vi a, vi t, vi n]) (D := no) (A := []) Tryd.func3 rfl 64 rfl [(1, .fn 0 64 dbT)] (WS.startL ⟨⟨rfl, hh0⟩, trivial⟩) fun ac hS => ?_
 refine hS.regS [0] [0, 1, 2, 3] fun _ => seg [] [(0, none)] [] trivial fun ac wd hS => ?_
 refine wp_seq ?_
 refine wp_region_seq ?_
 refine hS.call0 13 #[] 15 (law03_awake  _ (hS.mem.get 0 1 (.fn 0 64 dbT)) ) fun ac wd hS => ?_
 refine hS.opsC 1 [0] [0, 1, 2, 3] fun _ => seg [(16, vb false)] [(0, none)] [] trivial fun ac wd hS => ?_
 refine list_nil_seq ?_
 refine hS.condF ?_
 refine wp_skip ?_
 refine pop_then ?_
 refine wp_seq ?_
 refine hS.regS [0, 0, 0] [0, 1, 2, 3] fun _ => seg [(19, vb (decide ((9000 : Int) < ((ByteArray.size s : Nat) : Int))))] [(0, none)] [] trivial fun ac wd hS => ?_
 refine hS.condC (decide ((9000 : Int) < ((ByteArray.size s : Nat) : Int))) (fun hb1o hb1 => ?_) (fun hb1o hb1 => ?_)
 ·
  refine hS.regS [0] [] fun _ => seg [(8, vb true)] [(0, none)] [] trivial fun ac wd hS => ?_
  refine wp_ret ?_
  refine pop_then_ret ?_
  refine St.retC 0 hS (vb true) [] trivial fun hw => ?_
  refine ⟨retd rfl, hw.fr0⟩
 ·
  refine wp_skip ?_
  refine pop_then ?_
  refine wp_region_seq ?_
  refine hS.callC 14 #[vi 4] (ar_New 4 _  ) ?_
  rintro _ wd ⟨b'2, F3, rfl, hN, hF⟩
  refine ⟨pt b'2 0, rfl, ?_⟩
  replace hS := (hS.to (hS.mem.newA hN hF)).put (d := 20) (v := pt b'2 0) (by decide)
  clear hF
  refine hS.opsC 1 [0] [0, 1, 2, 3] fun _ => seg [(9, pt b'2 0)] [(0, none)] [] trivial fun ac wd hS => ?_
  refine list_nil_seq ?_
  refine wp_seq ?_
  refine wp_region_seq ?_
  refine hS.opsC 1 [0] [0, 1, 2, 3, 9] fun _ => seg [(21, pt b'2 0)] [(0, none)] [] trivial fun ac wd hS => ?_
  refine hS.callC 15 #[pt b'2 0, vi 0, vi 4] (ar_Commit b'2 F3 (AM.new 4) 0 4 _ (hS.mem.res 0) ) ?_
  rintro _ wd ⟨F4, rfl, hA, hF⟩
  refine ⟨vi (comE (AM.new 4) 0 4), rfl, ?_⟩
  replace hS := (hS.to (hS.mem.stepA 0 rfl hA hF)).put (d := 22) (v := vi (comE (AM.new 4) 0 4)) (by decide)
  clear hF
  refine hS.opsC 2 [0, 0] [0, 1, 2, 3, 9] fun _ => seg [(24, vb (((comE (AM.new 4) 0 4) : Int) != 0))] [(0, none)] [] trivial fun ac wd hS => ?_
  rcases Bool.eq_false_or_eq_true (((comE (AM.new 4) 0 4) : Int) != 0) with hg5o | hg5o
  ·
   have hg5 := nrm hg5o
   replace hS := hS.fix 24 (vb true) (congrArg Value.bool hg5o)
   refine hS.opsC 5 [2, 2, 2, 2, 70] [1, 2, 3, 9] fun _ => seg [(29, vb true)] [(0, none)] [.t true, .t true, .t true, .t true, .t true] trivial fun ac wd hS => ?_
   refine list_nil_seq ?_
   refine hS.condT ?_
   refine hS.regS [0] [] fun _ => seg [(8, vb false)] [(0, none)] [] trivial fun ac wd hS => ?_
   refine wp_ret ?_
   refine pop_then_ret ?_
   refine St.retC 0 hS (vb false) [] trivial fun hw => ?_
   refine ⟨retd (vbool ?_), hw.fr0⟩
   all_goals (first | rfl | exact copies1b hF2 (by assumption) | exact copies2b hF2 (by assumption) | exact absurd hg5o (by decide +kernel))
  ·
   have hg5 := nrm hg5o
   replace hS := hS.fix 24 (vb false) (congrArg Value.bool hg5o)
   refine hS.opsC 2 [1, 1] [1, 2, 3, 9, 24] fun _ => seg [(25, pt b'2 0), (26, .string s)] [(0, none)] [.t false, .t false] trivial fun ac wd hS => ?_
   refine hS.callG false 16 #[pt b'2 0, vi 0, .string s] (ar_Put b'2 F4 (comM (AM.new 4) 0 4) 0 s _ (hS.mem.res 0) ) ?_
   rintro _ wd ⟨F6, rfl, hA, hF⟩
   refine ⟨vi (chkE (comM (AM.new 4) 0 4) 0 (((ByteArray.size s) : Nat) : Int)), rfl, ?_⟩
   replace hS := (hS.to (hS.mem.stepA 0 rfl hA hF)).put (d := 27) (v := vi (chkE (comM (AM.new 4) 0 4) 0 (((ByteArray.size s) : Nat) : Int))) (by decide)
   clear hF
   refine hS.opsC 2 [1, 60] [1, 2, 3, 9] fun _ => seg [(29, vb (((chkE (comM (AM.new 4) 0 4) 0 (((ByteArray.size s) : Nat) : Int)) : Int) != 0))] [(0, none)] [.t false, .t false] trivial fun ac wd hS => ?_
   refine list_nil_seq ?_
   refine hS.condK (((chkE (comM (AM.new 4) 0 4) 0 (((ByteArray.size s) : Nat) : Int)) : Int) != 0) false (by rw [put4 (by omega)]; rfl) ?_
   show Code.wp _ _ _ _ _
   refine wp_skip ?_
   refine pop_then ?_
   refine wp_region_seq ?_
   refine hS.opsC 3 [0, 0, 0] [1, 2, 3, 9] fun _ => seg [(31, pt b'2 0), (32, vi a), (33, vi n)] [(0, none)] [] trivial fun ac wd hS => ?_
   refine hS.call0 17 #[pt b'2 0, vi a, vi n] 34 (ar_Bytes b'2 F6 (putM (comM (AM.new 4) 0 4) 0 s) a n _ (hS.mem.res 0) ) fun ac wd hS => ?_
   refine hS.opsC 5 [0, 0, 0, 0, 0] [1, 2, 3, 9] fun _ => seg [(10, .string (bytS (putM (comM (AM.new 4) 0 4) 0 s) a n)), (11, vi (chkE (putM (comM (AM.new 4) 0 4) 0 s) a n))] [(0, none)] [] trivial fun ac wd hS => ?_
   refine list_nil_seq ?_
   refine wp_region_seq ?_
   refine hS.opsC 4 [0, 0, 0, 0] [2, 3, 9, 10, 11] fun _ => seg [(37, pt b'2 0), (38, vi t), (39, vi a), (40, vi n)] [(0, none)] [] trivial fun ac wd hS => ?_
   refine hS.callC 18 #[pt b'2 0, vi t, vi a, vi n] (ar_Copy b'2 F6 (putM (comM (AM.new 4) 0 4) 0 s) t a n _ (hS.mem.res 0) ) ?_
   rintro _ wd ⟨F7, rfl, hA, hF⟩
   refine ⟨vi (cpyE (putM (comM (AM.new 4) 0 4) 0 s) t a n), rfl, ?_⟩
   replace hS := (hS.to (hS.mem.stepA 0 rfl hA hF)).put (d := 41) (v := vi (cpyE (putM (comM (AM.new 4) 0 4) 0 s) t a n)) (by decide)
   clear hF
   refine hS.opsC 1 [0] [2, 3, 9, 10, 11] fun _ => seg [(12, vi (cpyE (putM (comM (AM.new 4) 0 4) 0 s) t a n))] [(0, none)] [] trivial fun ac wd hS => ?_
   refine list_nil_seq ?_
   refine wp_region_seq ?_
   refine hS.opsC 3 [0, 0, 0] [10, 11, 12] fun _ => seg [(43, pt b'2 0), (44, vi t), (45, vi n)] [(0, none)] [] trivial fun ac wd hS => ?_
   refine hS.call0 17 #[pt b'2 0, vi t, vi n] 46 (ar_Bytes b'2 F7 (cpyM (putM (comM (AM.new 4) 0 4) 0 s) t a n) t n _ (hS.mem.res 0) ) fun ac wd hS => ?_
   refine hS.opsC 5 [0, 0, 0, 0, 0] [10, 11, 12] fun _ => seg [(13, .string (bytS (cpyM (putM (comM (AM.new 4) 0 4) 0 s) t a n) t n)), (14, vi (chkE (cpyM (putM (comM (AM.new 4) 0 4) 0 s) t a n) t n))] [(0, none)] [] trivial fun ac wd hS => ?_
   refine list_nil_seq ?_
   refine wp_seq ?_
   refine hS.regS [0, 0, 0, 3, 3, 80] [10, 12, 13] fun _ => seg [(54, vb ((((chkE (putM (comM (AM.new 4) 0 4) 0 s) a n) : Int) != 0) || (((chkE (cpyM (putM (comM (AM.new 4) 0 4) 0 s) t a n) t n) : Int) != 0)))] [(0, none)] [] trivial fun ac wd hS => ?_
   refine hS.condC ((((chkE (putM (comM (AM.new 4) 0 4) 0 s) a n) : Int) != 0) || (((chkE (cpyM (putM (comM (AM.new 4) 0 4) 0 s) t a n) t n) : Int) != 0)) (fun hb8o hb8 => ?_) (fun hb8o hb8 => ?_)
   ·
    refine hS.regS [0, 0, 0] [] fun _ => seg [(8, vb (((cpyE (putM (comM (AM.new 4) 0 4) 0 s) t a n) : Int) == 3))] [(0, none)] [] trivial fun ac wd hS => ?_
    refine wp_ret ?_
    refine pop_then_ret ?_
    refine St.retC 0 hS (vb (((cpyE (putM (comM (AM.new 4) 0 4) 0 s) t a n) : Int) == 3)) [] trivial fun hw => ?_
    refine ⟨retd (vbool ?_), hw.fr0⟩
    all_goals (first | rfl | exact copies1b hF2 (by assumption) | exact copies2b hF2 (by assumption) | exact absurd hg5o (by decide +kernel))
   ·
    refine wp_skip ?_
    refine pop_then ?_
    refine hS.regS [0, 0, 0, 3, 3, 3, 80, 0] [] fun _ => seg [(8, vb ((((cpyE (putM (comM (AM.new 4) 0 4) 0 s) t a n) : Int) == 0) && (ByteArray.toList (bytS (cpyM (putM (comM (AM.new 4) 0 4) 0 s) t a n) t n) == ByteArray.toList (bytS (putM (comM (AM.new 4) 0 4) 0 s) a n))))] [(0, none)] [] trivial fun ac wd hS => ?_
    refine wp_ret ?_
    refine St.retC 0 hS (vb ((((cpyE (putM (comM (AM.new 4) 0 4) 0 s) t a n) : Int) == 0) && (ByteArray.toList (bytS (cpyM (putM (comM (AM.new 4) 0 4) 0 s) t a n) t n) == ByteArray.toList (bytS (putM (comM (AM.new 4) 0 4) 0 s) a n)))) [] trivial fun hw => ?_
    refine ⟨retd (vbool ?_), hw.fr0⟩
    all_goals (first | rfl | exact copies1b hF2 (by assumption) | exact copies2b hF2 (by assumption) | exact absurd hg5o (by decide +kernel))

end Go.Proofs.YtlnecfdbmoilbaaDoor.K
