/-
  More rows of structs, told by functions of the place.
-/
import Derived.Test.YtdjhdcaanmkblaaDoorM5
namespace Go.Proofs.YtdjhdcaanmkblaaDoor.K
set_option linter.unusedSimpArgs false
set_option linter.unusedVariables false
section
end

section
def a2V (E : Nat → Bool × Int × Int) (o x : Nat) : Value := if (x - o) % 3 = 0 then vb (E ((x - o) / 3)).1 else if (x - o) % 3 = 1 then vi (E ((x - o) / 3)).2.1 else vi (E ((x - o) / 3)).2.2
theorem a2V_0 (E : Nat → Bool × Int × Int) (o i : Nat) : a2V E o (o + i * 3) = vb (E i).1 := by
  unfold a2V; rw [show o + i * 3 - o = i * 3 by omega, if_pos (by omega), show (i * 3) / 3 = i by omega]
theorem a2V_1 (E : Nat → Bool × Int × Int) (o i : Nat) : a2V E o (o + i * 3 + 1) = vi (E i).2.1 := by
  unfold a2V; rw [show o + i * 3 + 1 - o = i * 3 + 1 by omega, if_neg (by omega), if_pos (by omega), show (i * 3 + 1) / 3 = i by omega]
theorem a2V_2 (E : Nat → Bool × Int × Int) (o i : Nat) : a2V E o (o + i * 3 + 2) = vi (E i).2.2 := by
  unfold a2V; rw [show o + i * 3 + 2 - o = i * 3 + 2 by omega, if_neg (by omega), if_neg (by omega), show (i * 3 + 2) / 3 = i by omega]
theorem a2V_cg {E E' : Nat → Bool × Int × Int} {n : Nat} (o : Nat) (h : ∀ i, i < n → E i = E' i) : ∀ x, x < o + n * 3 → a2V E o x = a2V E' o x ∨ x < o := by
  intro x hx
  by_cases h1 : x < o
  · exact .inr h1
  · left; unfold a2V; rw [h _ (by omega)]
end

end Go.Proofs.YtdjhdcaanmkblaaDoor.K
