/-
  Rows of structs, told by functions of the place.
-/
import Derived.Test.YtnbkafnikpbmbaaDoorSv
import Derived.Test.YtnbkafnikpbmbaaDoorHf
namespace Go.Proofs.YtnbkafnikpbmbaaDoor.K
set_option linter.unusedSimpArgs false
set_option linter.unusedVariables false
section
end

section
end

section
end

section
end

section
end

section
end

section
def u1V (E : Nat → Int) (o x : Nat) : Value := vu (E (x - o))
theorem u1V_0 (E : Nat → Int) (o i : Nat) : u1V E o (o + i * 1) = vu (E i) := by unfold u1V; rw [show o + i * 1 - o = i by omega]
theorem u1V_a (E : Nat → Int) (o i : Nat) (h : o = 0 := by rfl) : u1V E o i = vu (E i) := by subst h; rfl
theorem u1V_one (E : Nat → Int) (o x : Nat) : (u1V E o x).oneCell' = true := by unfold u1V; rfl
theorem u1V_cg {E E' : Nat → Int} {n : Nat} (o : Nat) (h : ∀ i, i < n → E i = E' i) : ∀ x, x < o + n * 1 → u1V E o x = u1V E' o x ∨ x < o := by
  intro x hx
  by_cases h1 : x < o
  · exact .inr h1
  · left; unfold u1V; rw [h _ (by omega)]
theorem u1V_cg0 {E E' : Nat → Int} {n : Nat} (h : ∀ i, i < n → E i = E' i) : ∀ x, x < n * 1 → u1V E 0 x = u1V E' 0 x := fun x hx => (u1V_cg 0 h x (by omega)).resolve_right (by omega)
theorem u1V_app (l : List (Int)) (a0 : Int) : ∀ x, x < (l.length + 1) * 1 → appF (u1V (gtD l) 0) (l.length * 1) [vu a0] x = u1V (gtD (l ++ [a0])) 0 x := by
  intro x hx
  unfold appF
  by_cases h1 : x < l.length * 1
  · rw [if_pos h1]; exact u1V_cg0 (n := l.length) (fun i hi => by rw [gtD_app, if_pos hi]) x h1
  · rw [if_neg h1]
    have := u1V_0 (gtD (l ++ [a0])) 0 l.length; rw [Nat.zero_add] at this; rw [show x = l.length * 1 by omega, this, gtD_app, if_neg (by omega)]; rw [show l.length * 1 - l.length * 1 = 0 by omega, Nat.sub_self]; rfl
end

section
end

section
def aHV (E : Nat → Int × Int × Int × Int × Bool) (o x : Nat) : Value := if (x - o) % 5 = 0 then v8 (E ((x - o) / 5)).1 else if (x - o) % 5 = 1 then vi (E ((x - o) / 5)).2.1 else if (x - o) % 5 = 2 then vi (E ((x - o) / 5)).2.2.1 else if (x - o) % 5 = 3 then vu (E ((x - o) / 5)).2.2.2.1 else vb (E ((x - o) / 5)).2.2.2.2
theorem aHV_0 (E : Nat → Int × Int × Int × Int × Bool) (o i : Nat) : aHV E o (o + i * 5) = v8 (E i).1 := by
  unfold aHV; rw [show o + i * 5 - o = i * 5 by omega, if_pos (by omega), show (i * 5) / 5 = i by omega]
theorem aHV_1 (E : Nat → Int × Int × Int × Int × Bool) (o i : Nat) : aHV E o (o + i * 5 + 1) = vi (E i).2.1 := by
  unfold aHV; rw [show o + i * 5 + 1 - o = i * 5 + 1 by omega, if_neg (by omega), if_pos (by omega), show (i * 5 + 1) / 5 = i by omega]
theorem aHV_2 (E : Nat → Int × Int × Int × Int × Bool) (o i : Nat) : aHV E o (o + i * 5 + 2) = vi (E i).2.2.1 := by
  unfold aHV; rw [show o + i * 5 + 2 - o = i * 5 + 2 by omega, if_neg (by omega), if_neg (by omega), if_pos (by omega), show (i * 5 + 2) / 5 = i by omega]
theorem aHV_3 (E : Nat → Int × Int × Int × Int × Bool) (o i : Nat) : aHV E o (o + i * 5 + 3) = vu (E i).2.2.2.1 := by
  unfold aHV; rw [show o + i * 5 + 3 - o = i * 5 + 3 by omega, if_neg (by omega), if_neg (by omega), if_neg (by omega), if_pos (by omega), show (i * 5 + 3) / 5 = i by omega]
theorem aHV_4 (E : Nat → Int × Int × Int × Int × Bool) (o i : Nat) : aHV E o (o + i * 5 + 4) = vb (E i).2.2.2.2 := by
  unfold aHV; rw [show o + i * 5 + 4 - o = i * 5 + 4 by omega, if_neg (by omega), if_neg (by omega), if_neg (by omega), if_neg (by omega), show (i * 5 + 4) / 5 = i by omega]
theorem aHV_cg {E E' : Nat → Int × Int × Int × Int × Bool} {n : Nat} (o : Nat) (h : ∀ i, i < n → E i = E' i) : ∀ x, x < o + n * 5 → aHV E o x = aHV E' o x ∨ x < o := by
  intro x hx
  by_cases h1 : x < o
  · exact .inr h1
  · left; unfold aHV; rw [h _ (by omega)]
end

section
end

section
end

section
end

section
end

section
end

section
end

section
end

end Go.Proofs.YtnbkafnikpbmbaaDoor.K
