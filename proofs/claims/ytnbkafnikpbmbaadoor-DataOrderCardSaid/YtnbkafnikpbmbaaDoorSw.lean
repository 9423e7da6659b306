/-
  Rows of structs, told by functions of the place.
-/
import Derived.Test.YtnbkafnikpbmbaaDoorSv
import Derived.Test.YtnbkafnikpbmbaaDoorHf
namespace Go.Proofs.YtnbkafnikpbmbaaDoor.K
set_option linter.unusedSimpArgs false
set_option linter.unusedVariables false
def updF {α : Type} (E : Nat → α) (i : Nat) (x : α) (k : Nat) : α := if k = i then x else E k

section
end

section
end

section
end

section
end

section
def itV (E : Nat → ByteArray × Int) (o x : Nat) : Value := if (x - o) % 2 = 0 then .string (E ((x - o) / 2)).1 else vu (E ((x - o) / 2)).2
theorem itV_0 (E : Nat → ByteArray × Int) (o i : Nat) : itV E o (o + i * 2) = .string (E i).1 := by
  unfold itV; rw [show o + i * 2 - o = i * 2 by omega, if_pos (by omega), show (i * 2) / 2 = i by omega]
theorem itV_1 (E : Nat → ByteArray × Int) (o i : Nat) : itV E o (o + i * 2 + 1) = vu (E i).2 := by
  unfold itV; rw [show o + i * 2 + 1 - o = i * 2 + 1 by omega, if_neg (by omega), show (i * 2 + 1) / 2 = i by omega]
theorem itV_one (E : Nat → ByteArray × Int) (o x : Nat) : (itV E o x).oneCell' = true := by unfold itV; repeat (first | rfl | split)
theorem itV_cg {E E' : Nat → ByteArray × Int} {n : Nat} (o : Nat) (h : ∀ i, i < n → E i = E' i) : ∀ x, x < o + n * 2 → itV E o x = itV E' o x ∨ x < o := by
  intro x hx
  by_cases h1 : x < o
  · exact .inr h1
  · left; unfold itV; rw [h _ (by omega)]
theorem itV_cg0 {E E' : Nat → ByteArray × Int} {n : Nat} (h : ∀ i, i < n → E i = E' i) : ∀ x, x < n * 2 → itV E 0 x = itV E' 0 x := fun x hx => (itV_cg 0 h x (by omega)).resolve_right (by omega)
theorem itV_put (E : Nat → ByteArray × Int) (i : Nat) (a0 : ByteArray) (a1 : Int) (x : Nat) : itV (updF E i (a0, a1)) 0 x = (fun x => if x = 0 + i * 2 + 1 then vu a1 else (fun x => if x = 0 + i * 2 then .string a0 else itV E 0 x) x) x := by
  show _ = if x = 0 + i * 2 + 1 then vu a1 else (fun x => if x = 0 + i * 2 then .string a0 else itV E 0 x) x
  dsimp only
  unfold itV updF
  simp only [Nat.sub_zero]
  by_cases h : x / 2 = i
  · rw [if_pos h]
    by_cases h0 : x % 2 = 0
    · rw [if_pos h0, if_neg (show ¬ x = 0 + i * 2 + 1 by omega), if_pos (show x = 0 + i * 2 by omega)]
    rw [if_neg h0, if_pos (show x = 0 + i * 2 + 1 by omega)]
  · rw [if_neg h, if_neg (show ¬ x = 0 + i * 2 + 1 by omega), if_neg (show ¬ x = 0 + i * 2 by omega)]
theorem itV_app (l : List (ByteArray × Int)) (a0 : ByteArray) (a1 : Int) : ∀ x, x < (l.length + 1) * 2 → appF (itV (gtD l) 0) (l.length * 2) [.string a0, vu a1] x = itV (gtD (l ++ [(a0, a1)])) 0 x := by
  intro x hx
  unfold appF
  by_cases h1 : x < l.length * 2
  · rw [if_pos h1]; exact itV_cg0 (n := l.length) (fun i hi => by rw [gtD_app, if_pos hi]) x h1
  · rw [if_neg h1]
    rcases (by omega : x = l.length * 2 ∨ x = l.length * 2 + 1) with rfl | rfl
    · have := itV_0 (gtD (l ++ [(a0, a1)])) 0 l.length; rw [Nat.zero_add] at this; rw [this, gtD_app, if_neg (by omega), show l.length * 2 - l.length * 2 = 0 by omega, Nat.sub_self]; rfl
    · have := itV_1 (gtD (l ++ [(a0, a1)])) 0 l.length; rw [Nat.zero_add] at this; rw [this, gtD_app, if_neg (by omega), show l.length * 2 + 1 - l.length * 2 = 1 by omega, Nat.sub_self]; rfl
end

section
end

section
end

section
def s1V (E : Nat → ByteArray) (o x : Nat) : Value := .string (E (x - o))
theorem s1V_0 (E : Nat → ByteArray) (o i : Nat) : s1V E o (o + i * 1) = .string (E i) := by unfold s1V; rw [show o + i * 1 - o = i by omega]
theorem s1V_one (E : Nat → ByteArray) (o x : Nat) : (s1V E o x).oneCell' = true := by unfold s1V; rfl
theorem s1V_cg {E E' : Nat → ByteArray} {n : Nat} (o : Nat) (h : ∀ i, i < n → E i = E' i) : ∀ x, x < o + n * 1 → s1V E o x = s1V E' o x ∨ x < o := by
  intro x hx
  by_cases h1 : x < o
  · exact .inr h1
  · left; unfold s1V; rw [h _ (by omega)]
theorem s1V_cg0 {E E' : Nat → ByteArray} {n : Nat} (h : ∀ i, i < n → E i = E' i) : ∀ x, x < n * 1 → s1V E 0 x = s1V E' 0 x := fun x hx => (s1V_cg 0 h x (by omega)).resolve_right (by omega)
theorem s1V_app (l : List (ByteArray)) (a0 : ByteArray) : ∀ x, x < (l.length + 1) * 1 → appF (s1V (gtD l) 0) (l.length * 1) [.string a0] x = s1V (gtD (l ++ [a0])) 0 x := by
  intro x hx
  unfold appF
  by_cases h1 : x < l.length * 1
  · rw [if_pos h1]; exact s1V_cg0 (n := l.length) (fun i hi => by rw [gtD_app, if_pos hi]) x h1
  · rw [if_neg h1]
    have := s1V_0 (gtD (l ++ [a0])) 0 l.length; rw [Nat.zero_add] at this; rw [show x = l.length * 1 by omega, this, gtD_app, if_neg (by omega)]; rw [show l.length * 1 - l.length * 1 = 0 by omega, Nat.sub_self]; rfl
end

section
end

section
end

section
end

section
end

section
end

section
end

section
end

section
end

end Go.Proofs.YtnbkafnikpbmbaaDoor.K
