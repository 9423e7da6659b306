/-
  A handle that is moved.
-/
import Derived.Test.YtnbkafnikpbmbaaDoorMp
import Derived.Test.YtnbkafnikpbmbaaDoorQa
namespace Go.Proofs.YtnbkafnikpbmbaaDoor.K
set_option linter.unusedSimpArgs false
set_option linter.unusedVariables false

section
variable {t : List Sl}
theorem rAll_at {k : Nat} (h : k < (rAll t).length) : ∃ i, i < t.length ∧ rOn t i = true ∧ gtD (rAll t) k = rHv t i := allH_mem h
theorem rFind_hv (hok : OkT t) {i : Nat} (hi : i < t.length) (ho : rOn t i = true) : rFind t (rHv t i) = (i : Int) := by
  have h256 := hok.1
  refine fIx_only hi ?_ fun j hj hp => ?_
  · unfold rNm; unfold rOn at ho; rw [ho]; unfold rHv; simp
  · unfold rNm at hp
    simp only [Bool.and_eq_true, beq_iff_eq] at hp
    unfold rHv at hp; omega
theorem rGet_hv (hok : OkT t) {i : Nat} (hi : i < t.length) (ho : rOn t i = true) : rGetA t (rHv t i) = (gtD t i).1 ∧ rGetE t (rHv t i) = 0 := by
  unfold rGetA rGetE
  rw [rFind_hv hok hi ho, if_neg (by omega), if_neg (by omega), Int.toNat_natCast]; exact ⟨rfl, rfl⟩
end
end Go.Proofs.YtnbkafnikpbmbaaDoor.K
