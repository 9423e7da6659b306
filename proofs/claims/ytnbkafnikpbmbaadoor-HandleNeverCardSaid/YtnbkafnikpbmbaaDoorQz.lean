/-
  Handles: the document's table, case by case.
-/
import Derived.Test.YtnbkafnikpbmbaaDoorQa
namespace Go.Proofs.YtnbkafnikpbmbaaDoor.K
set_option linter.unusedSimpArgs false
set_option linter.unusedVariables false
theorem gtD_rep {α : Type} [Inhabited α] {n i : Nat} {x : α} (h : i < n) : gtD (List.replicate n x) i = x := by
  rw [gtD_lt (by simpa using h)]; simp
section
variable {t : List Sl} {h a : Int}
end
theorem hAll_yes {m : AM} {o z : Int} {l : List Int} {x : Int} (h : l = allH (hOn m o z) (hHv m o z) (Int.toNat x)) (h0 : 0 ≤ x) (hp : hOn m o z (Int.toNat x) = true) : l ++ [hVl (hGn m o z x) x] = allH (hOn m o z) (hHv m o z) (Int.toNat (x + 1)) := by
  have := allH_yes h h0 hp
  unfold hHv at this ⊢
  rw [Int.toNat_of_nonneg h0] at this
  exact this
end Go.Proofs.YtnbkafnikpbmbaaDoor.K
