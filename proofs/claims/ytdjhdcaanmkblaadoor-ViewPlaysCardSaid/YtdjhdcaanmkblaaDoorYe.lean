/-
  Parts of a view.
-/
import Derived.Test.YtdjhdcaanmkblaaDoorYc
namespace Go.Proofs.YtdjhdcaanmkblaaDoor.K
set_option linter.unusedSimpArgs false
set_option linter.unusedVariables false

def vfiM (m : AM) (o z a n : Int) (c : UInt8) : AM := if vchE z a n = 0 then filM m (o + a) n c else m
theorem vfi_1 {m : AM} {o z a n : Int} {c : UInt8} (h : vchE z a n ≠ 0) : vchE z a n = vbyE m o z a n ∧ m = vfiM m o z a n c := by unfold vfiM; rw [if_neg h]; exact ⟨vby_1 h, rfl⟩
theorem vfi_2 {m : AM} {o z a n : Int} {c : UInt8} (h : vchE z a n = 0) : chkE m (o + a) n = vbyE m o z a n ∧ filM m (o + a) n c = vfiM m o z a n c := by unfold vfiM; rw [if_pos h]; exact ⟨vby_2 h, rfl⟩
section
variable {m : AM} {o z a1 z1 a2 z2 : Int}
end
end Go.Proofs.YtdjhdcaanmkblaaDoor.K
