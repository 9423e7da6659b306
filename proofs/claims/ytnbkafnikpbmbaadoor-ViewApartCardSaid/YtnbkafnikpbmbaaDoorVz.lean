/-
  A document's arena of no pages.
-/
import Derived.Test.YtnbkafnikpbmbaaDoorVx
import Derived.Test.YtnbkafnikpbmbaaDoorM3
import Derived.Test.YtnbkafnikpbmbaaDoorYg
import Derived.Test.YtnbkafnikpbmbaaDoorSx
namespace Go.Proofs.YtnbkafnikpbmbaaDoor.K
set_option linter.unusedSimpArgs false
set_option linter.unusedVariables false

def wi0 (a k : Int) : Bool := decide (a = 0) && decide (k = 0)
theorem wi0_yes {a k : Int} (h : wi0 a k = true) : a = 0 ∧ k = 0 := by unfold wi0 at h; simpa using h
theorem wi0_no {a k : Int} (h : ¬ (a = 0 ∧ k = 0)) : false = wi0 a k := by
  unfold wi0
  by_cases h1 : a = 0
  · rw [decide_eq_false (show ¬ k = 0 from fun q => h ⟨h1, q⟩), Bool.and_false]
  · rw [decide_eq_false h1, Bool.false_and]
theorem thr_a0 (S : Nat → ByteArray) : thr (amS S 0) (0 + 0) 0 = true := by
  have h : (amS S 0).cap = 0 := rfl
  unfold thr inB
  simp [h]
theorem thr_n0 {S : Nat → ByteArray} {a k : Int} (h : thr (amS S 0) a k = true) : a = 0 ∧ k = 0 := by
  have := inB_facts (thr_in h)
  have h2 : (amS S 0).cap = 0 := rfl
  omega
theorem joinS_two (a b : ByteArray) : (joinS [a, b]).size = a.size + b.size := by
  show ((Lib.join [a.data.toList, b.data.toList] []).toArray).size = a.data.size + b.data.size
  rw [List.size_toArray]
  simp [Lib.join, List.intercalate, List.intersperse]
theorem VA.cut2 {m0 m : AM} {o z : Int} (h : VA m0 o z m) (h0 : Go.Proofs.YtnbkafnikpbmbaaDoor.K.thr m0 0 16384 = true) (ho : 0 ≤ o ∧ 0 ≤ z ∧ o + z ≤ 16384) :
    (bytS m 0 16384).size = 16384 ∧ (bytS m0 0 16384).size = 16384 ∧ chkE m 0 16384 = 0 ∧ (bytS m 0 16384).extract (Int.toNat 0) (Int.toNat o) = (bytS m0 0 16384).extract (Int.toNat 0) (Int.toNat o) ∧
    (bytS m 0 16384).extract (Int.toNat (o + z)) (Int.toNat (((bytS m 0 16384).size : Nat) : Int)) = (bytS m0 0 16384).extract (Int.toNat (o + z)) (Int.toNat (((bytS m0 0 16384).size : Nat) : Int)) := by
  have h1 := (h.thr 0 16384).trans h0
  have e1 := bytS_size h1
  have e2 := bytS_size h0
  have e3 := h.cut h0 ho
  refine ⟨by omega, by omega, chk_thr h1, e3.1, ?_⟩
  rw [show Int.toNat (((bytS m 0 16384).size : Nat) : Int) = min 16384 16384 by omega, show Int.toNat (((bytS m0 0 16384).size : Nat) : Int) = min 16384 16384 by omega]
  exact e3.2 16384
end Go.Proofs.YtnbkafnikpbmbaaDoor.K
