/-
  Texts in a view.
-/
import Derived.Test.YthgkiieenojcpaaDoorVa
import Derived.Test.YthgkiieenojcpaaDoorM4
import Derived.Test.YthgkiieenojcpaaDoorM3
namespace Go.Proofs.YthgkiieenojcpaaDoor.K
set_option linter.unusedSimpArgs false
set_option linter.unusedVariables false

section
variable {m : AM} {o z a k : Int} {s : ByteArray}
theorem vby_yes {n : Int} (h : 0 ≤ a ∧ 0 ≤ n ∧ a + n ≤ z) (ht : thr m (o + a) n = true) : vbyE m o z a n = 0 ∧ vbyS m o z a n = bs (fun j => m.mem ((o + a).toNat + j)) n.toNat := by
  have hc : vchE z a n = 0 := (vch_yes (by omega)).symm
  unfold vbyE vbyS
  rw [if_pos hc, if_pos hc, chk_thr ht]
  unfold bytS; rw [if_pos ht]; exact ⟨rfl, rfl⟩
end
end Go.Proofs.YthgkiieenojcpaaDoor.K
