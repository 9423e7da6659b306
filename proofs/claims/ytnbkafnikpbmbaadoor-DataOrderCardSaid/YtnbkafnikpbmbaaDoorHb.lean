/-
  Walks, printed by w2.py.
-/
import Derived.Test.YtnbkafnikpbmbaaDoorHa
import Derived.Test.YtnbkafnikpbmbaaDoorProg
namespace Go.Proofs.YtnbkafnikpbmbaaDoor.K
set_option linter.unusedVariables false
set_option linter.unusedSimpArgs false

set_option maxRecDepth 100000 in
set_option maxHeartbeats 1000000 in
theorem vw_Size (b : Nat) (o_ : Int) (z : Int) (w : World) :
    Calls Tryd.prog 62 #[.agg #[pt b 0, vi o_, vi z]] w fun e w' => e = .returned (vi z) ∧ Fr w w' no no := by
 refine enter (args := [.agg #[pt b 0, vi o_, vi z]]) (D := no) (A := []) Tryd.func62 rfl 5 rfl [] (WS.startL trivial) fun ac hS => ?_
 refine hS.regS [0, 0] [] fun ν1 => seg [(1, pt (ν1 0) 0)] [(0, some ((ν1 0), .cells [pt b 0, vi o_, vi z] 72))] [] trivial fun ac wd hS => ?_
 refine hS.regS [0, 0, 0] [] fun _ => seg [(2, vi z)] [] [.e (ν1 0)] trivial fun ac wd hS => ?_
 refine wp_ret ?_
 refine St.retC 0 hS (vi z) [] trivial fun hw => ?_
 refine ⟨retd rfl, hw.fr0⟩

set_option maxRecDepth 100000 in
set_option maxHeartbeats 1000000 in
theorem vw_Put (b : Nat) (F : Nat → Prop) (m : AM) (o_ : Int) (z : Int) (a : Int) (s : ByteArray) (w : World) (hr : (arR b F m).R w) (ho : 0 ≤ o_ ∧ 0 ≤ z ∧ o_ + z ≤ 4294967296) :
    Calls Tryd.prog 147 #[.agg #[pt b 0, vi o_, vi z], vi a, .string s] w fun e w' => ∃ (F' : Nat → Prop), e = .returned (vi (vptE m o_ z a s)) ∧ (arR b F' (vptM m o_ z a s)).R w' ∧ Fr w w' F F' := by
 refine enter (args := [.agg #[pt b 0, vi o_, vi z], vi a, .string s]) (D := F) (A := [arR b F m]) Tryd.func147 rfl 24 rfl [] (WS.startA (r := arR b F m) hr trivial trivial) fun ac hS => ?_
 refine hS.regS [0, 0] [1, 2] fun ν1 => seg [(3, pt (ν1 0) 0)] [(0, some ((ν1 0), .cells [pt b 0, vi o_, vi z] 72))] [] trivial fun ac wd hS => ?_
 refine wp_seq ?_
 refine wp_region_seq ?_
 refine hS.opsC 4 [0, 0, 0, 0] [1, 2, 3] fun _ => seg [(8, .agg #[pt b 0, vi o_, vi z]), (9, vi a), (11, vi ((ByteArray.size s : Nat) : Int))] [(0, none)] [.e (ν1 0), .e (ν1 0), .e (ν1 0)] trivial fun ac wd hS => ?_
 refine hS.call0 188 #[.agg #[pt b 0, vi o_, vi z], vi a, vi ((ByteArray.size s : Nat) : Int)] 12 (vw_check b a ((ByteArray.size s : Nat) : Int) o_ z _  (by first | assumption | omega | (simp_all; done) | (simp_all; omega))) fun ac wd hS => ?_
 refine hS.opsC 1 [0] [1, 2, 3] fun _ => seg [(7, vi (vchE z a ((ByteArray.size s : Nat) : Int)))] [(0, none)] [] trivial fun ac wd hS => ?_
 refine list_nil_seq ?_
 refine hS.regS [0, 0] [1, 2, 3, 7] fun _ => seg [(14, vb (((vchE z a ((ByteArray.size s : Nat) : Int)) : Int) != 0))] [(0, none)] [] trivial fun ac wd hS => ?_
 refine hS.condC (((vchE z a ((ByteArray.size s : Nat) : Int)) : Int) != 0) (fun hb1o hb1 => ?_) (fun hb1o hb1 => ?_)
 ·
  have hP := vpt_1 (m := m) (o := o_) hb1
  refine hS.regS [0, 0] [] fun _ => seg [(6, vi (vchE z a ((ByteArray.size s : Nat) : Int)))] [] [] trivial fun ac wd hS => ?_
  refine wp_ret ?_
  refine pop_then_ret ?_
  refine St.retC 0 hS (vi (vchE z a ((ByteArray.size s : Nat) : Int))) [] trivial fun hw => ?_
  refine ⟨F, retd (vint ?_), (res_eq (r := arR b F m) (by exact congrArg _ hP.2) (hw.res 0)), hw.frA⟩
  all_goals (exact hP.1)
 ·
  have hc0 := hb1
  obtain ⟨hc1, hc2, hc3, hc4⟩ := vch_in hc0
  have hP := vpt_2 (m := m) (o := o_) hc0
  refine wp_skip ?_
  refine pop_then ?_
  refine wp_region_seq ?_
  refine hS.opsC 7 [0, 0, 0, 0, 0, 20, 0] [] fun _ => seg [(17, pt b 0), (21, vi (o_ + a)), (22, .string s)] [] [.p (fit .i64 (o_ + a)), .e (ν1 0), .e (ν1 0)] ⟨fit_i64 (by omega), trivial⟩ fun ac wd hS => ?_
  refine hS.callC 57 #[pt b 0, vi (o_ + a), .string s] (ar_Put b F m (o_ + a) s _ (hS.mem.res 0) ) ?_
  rintro _ wd ⟨F2, rfl, hA, hF⟩
  refine ⟨vi (chkE m (o_ + a) (((ByteArray.size s) : Nat) : Int)), rfl, ?_⟩
  replace hS := (hS.to (hS.mem.stepA 0 rfl hA hF)).put (d := 23) (v := vi (chkE m (o_ + a) (((ByteArray.size s) : Nat) : Int))) (by decide)
  clear hF
  refine hS.opsC 1 [0] [] fun _ => seg [(6, vi (chkE m (o_ + a) (((ByteArray.size s) : Nat) : Int)))] [] [] trivial fun ac wd hS => ?_
  refine list_nil_seq ?_
  refine wp_ret ?_
  refine St.retC 0 hS (vi (chkE m (o_ + a) (((ByteArray.size s) : Nat) : Int))) [] trivial fun hw => ?_
  refine ⟨F2, retd (vint ?_), (res_eq (r := arR b F2 (putM m (o_ + a) s)) (by exact congrArg _ hP.2) (hw.res 0)), hw.frA⟩
  all_goals (exact hP.1)

end Go.Proofs.YtnbkafnikpbmbaaDoor.K
