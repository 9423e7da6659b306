/-
  Rows of lists, told by functions of the place.
-/
import Derived.Test.YtnbkafnikpbmbaaDoorM5
namespace Go.Proofs.YtnbkafnikpbmbaaDoor.K
set_option linter.unusedSimpArgs false
set_option linter.unusedVariables false
/-- A list in a list: where it lies, its capacity, what it holds. -/
abbrev HdI := Option Addr × Nat × List Int
abbrev slH (h : HdI) : Value := .slice h.1 h.2.2.length h.2.1

section
def hdV (E : Nat → HdI) (o x : Nat) : Value := slH (E (x - o))
theorem hdV_0 (E : Nat → HdI) (o i : Nat) : hdV E o (o + i * 1) = slH (E i) := by unfold hdV; rw [show o + i * 1 - o = i by omega]
theorem hdV_cg {E E' : Nat → HdI} {n : Nat} (o : Nat) (h : ∀ i, i < n → E i = E' i) : ∀ x, x < o + n * 1 → hdV E o x = hdV E' o x ∨ x < o := by
  intro x hx
  by_cases h1 : x < o
  · exact .inr h1
  · left; unfold hdV; rw [h _ (by omega)]
theorem hdV_cg0 {E E' : Nat → HdI} {n : Nat} (h : ∀ i, i < n → E i = E' i) : ∀ x, x < n * 1 → hdV E 0 x = hdV E' 0 x := fun x hx => (hdV_cg 0 h x (by omega)).resolve_right (by omega)
theorem hdV_zero (j : Nat) : hdV (fun _ => (((none, 0, []) : HdI))) 0 j = ([vnil] : List Value).getD (j % 1) undef := by
  unfold hdV; rw [Nat.sub_zero]; rw [Nat.mod_one]; rfl
theorem hdV_app (l : List (HdI)) (a0 : HdI) : ∀ x, x < (l.length + 1) * 1 → appF (hdV (gtD l) 0) (l.length * 1) [slH a0] x = hdV (gtD (l ++ [a0])) 0 x := by
  intro x hx
  unfold appF
  by_cases h1 : x < l.length * 1
  · rw [if_pos h1]; exact hdV_cg0 (n := l.length) (fun i hi => by rw [gtD_app, if_pos hi]) x h1
  · rw [if_neg h1]
    have := hdV_0 (gtD (l ++ [a0])) 0 l.length; rw [Nat.zero_add] at this; rw [show x = l.length * 1 by omega, this, gtD_app, if_neg (by omega)]; rw [show l.length * 1 - l.length * 1 = 0 by omega, Nat.sub_self]; rfl
end

end Go.Proofs.YtnbkafnikpbmbaaDoor.K
