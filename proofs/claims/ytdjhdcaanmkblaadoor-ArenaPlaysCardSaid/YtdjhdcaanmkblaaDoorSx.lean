/-
  More rows of structs, told by functions of the place.
-/
import Derived.Test.YtdjhdcaanmkblaaDoorM5
namespace Go.Proofs.YtdjhdcaanmkblaaDoor.K
set_option linter.unusedSimpArgs false
set_option linter.unusedVariables false
section
def a3V (E : Nat → Int × Int × Int × Int × Int × ByteArray) (o x : Nat) : Value := if (x - o) % 6 = 0 then v8 (E ((x - o) / 6)).1 else if (x - o) % 6 = 1 then vi (E ((x - o) / 6)).2.1 else if (x - o) % 6 = 2 then vi (E ((x - o) / 6)).2.2.1 else if (x - o) % 6 = 3 then vi (E ((x - o) / 6)).2.2.2.1 else if (x - o) % 6 = 4 then vu (E ((x - o) / 6)).2.2.2.2.1 else .string (E ((x - o) / 6)).2.2.2.2.2
theorem a3V_0 (E : Nat → Int × Int × Int × Int × Int × ByteArray) (o i : Nat) : a3V E o (o + i * 6) = v8 (E i).1 := by
  unfold a3V; rw [show o + i * 6 - o = i * 6 by omega, if_pos (by omega), show (i * 6) / 6 = i by omega]
theorem a3V_1 (E : Nat → Int × Int × Int × Int × Int × ByteArray) (o i : Nat) : a3V E o (o + i * 6 + 1) = vi (E i).2.1 := by
  unfold a3V; rw [show o + i * 6 + 1 - o = i * 6 + 1 by omega, if_neg (by omega), if_pos (by omega), show (i * 6 + 1) / 6 = i by omega]
theorem a3V_2 (E : Nat → Int × Int × Int × Int × Int × ByteArray) (o i : Nat) : a3V E o (o + i * 6 + 2) = vi (E i).2.2.1 := by
  unfold a3V; rw [show o + i * 6 + 2 - o = i * 6 + 2 by omega, if_neg (by omega), if_neg (by omega), if_pos (by omega), show (i * 6 + 2) / 6 = i by omega]
theorem a3V_3 (E : Nat → Int × Int × Int × Int × Int × ByteArray) (o i : Nat) : a3V E o (o + i * 6 + 3) = vi (E i).2.2.2.1 := by
  unfold a3V; rw [show o + i * 6 + 3 - o = i * 6 + 3 by omega, if_neg (by omega), if_neg (by omega), if_neg (by omega), if_pos (by omega), show (i * 6 + 3) / 6 = i by omega]
theorem a3V_4 (E : Nat → Int × Int × Int × Int × Int × ByteArray) (o i : Nat) : a3V E o (o + i * 6 + 4) = vu (E i).2.2.2.2.1 := by
  unfold a3V; rw [show o + i * 6 + 4 - o = i * 6 + 4 by omega, if_neg (by omega), if_neg (by omega), if_neg (by omega), if_neg (by omega), if_pos (by omega), show (i * 6 + 4) / 6 = i by omega]
theorem a3V_5 (E : Nat → Int × Int × Int × Int × Int × ByteArray) (o i : Nat) : a3V E o (o + i * 6 + 5) = .string (E i).2.2.2.2.2 := by
  unfold a3V; rw [show o + i * 6 + 5 - o = i * 6 + 5 by omega, if_neg (by omega), if_neg (by omega), if_neg (by omega), if_neg (by omega), if_neg (by omega), show (i * 6 + 5) / 6 = i by omega]
theorem a3V_cg {E E' : Nat → Int × Int × Int × Int × Int × ByteArray} {n : Nat} (o : Nat) (h : ∀ i, i < n → E i = E' i) : ∀ x, x < o + n * 6 → a3V E o x = a3V E' o x ∨ x < o := by
  intro x hx
  by_cases h1 : x < o
  · exact .inr h1
  · left; unfold a3V; rw [h _ (by omega)]
end

section
end

end Go.Proofs.YtdjhdcaanmkblaaDoor.K
