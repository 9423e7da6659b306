/-
  An arena as the document's; objects' headers, plainly.
-/
import Derived.Test.YtdjhdcaanmkblaaDoorRa
import Derived.Test.YtdjhdcaanmkblaaDoorM3
namespace Go.Proofs.YtdjhdcaanmkblaaDoor.K
set_option linter.unusedSimpArgs false
set_option linter.unusedVariables false

section
variable {c : Cx} {H : Heap} {A : List Res} {w : World}
theorem WS.arTell {b : Nat} {F : Nat → Prop} {m m' : AM} (h : WS c H A w) (j : Nat) (e : m = m') (hj : A[j]? = some (arR b F m) := by rfl) : WS c H (A.set j (arR b F m')) w := by
  subst e
  have : A.set j (arR b F m) = A := by
    apply List.ext_getElem?
    intro i
    rw [List.getElem?_set]
    split
    · rename_i e; subst e
      split
      · exact hj.symm
      · rename_i q; rw [List.getElem?_eq_none (by omega)] at hj; cases hj
    · rfl
  rw [this]; exact h
end
/-! ## Objects' headers -/
section
variable {m : AM} {a s p : Int}
end
end Go.Proofs.YtdjhdcaanmkblaaDoor.K
