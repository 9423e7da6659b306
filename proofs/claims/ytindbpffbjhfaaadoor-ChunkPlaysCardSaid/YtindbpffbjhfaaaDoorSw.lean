/-
  Rows of structs, told by functions of the place.
-/
import Derived.Test.YtindbpffbjhfaaaDoorSv
import Derived.Test.YtindbpffbjhfaaaDoorHf
namespace Go.Proofs.YtindbpffbjhfaaaDoor.K
set_option linter.unusedSimpArgs false
set_option linter.unusedVariables false
section
end

section
end

section
def chV (E : Nat → Int × Int × Int × Int) (o x : Nat) : Value := if (x - o) % 4 = 0 then vi (E ((x - o) / 4)).1 else if (x - o) % 4 = 1 then vi (E ((x - o) / 4)).2.1 else if (x - o) % 4 = 2 then vu (E ((x - o) / 4)).2.2.1 else vi (E ((x - o) / 4)).2.2.2
theorem chV_0 (E : Nat → Int × Int × Int × Int) (o i : Nat) : chV E o (o + i * 4) = vi (E i).1 := by
  unfold chV; rw [show o + i * 4 - o = i * 4 by omega, if_pos (by omega), show (i * 4) / 4 = i by omega]
theorem chV_1 (E : Nat → Int × Int × Int × Int) (o i : Nat) : chV E o (o + i * 4 + 1) = vi (E i).2.1 := by
  unfold chV; rw [show o + i * 4 + 1 - o = i * 4 + 1 by omega, if_neg (by omega), if_pos (by omega), show (i * 4 + 1) / 4 = i by omega]
theorem chV_2 (E : Nat → Int × Int × Int × Int) (o i : Nat) : chV E o (o + i * 4 + 2) = vu (E i).2.2.1 := by
  unfold chV; rw [show o + i * 4 + 2 - o = i * 4 + 2 by omega, if_neg (by omega), if_neg (by omega), if_pos (by omega), show (i * 4 + 2) / 4 = i by omega]
theorem chV_3 (E : Nat → Int × Int × Int × Int) (o i : Nat) : chV E o (o + i * 4 + 3) = vi (E i).2.2.2 := by
  unfold chV; rw [show o + i * 4 + 3 - o = i * 4 + 3 by omega, if_neg (by omega), if_neg (by omega), if_neg (by omega), show (i * 4 + 3) / 4 = i by omega]
theorem chV_cg {E E' : Nat → Int × Int × Int × Int} {n : Nat} (o : Nat) (h : ∀ i, i < n → E i = E' i) : ∀ x, x < o + n * 4 → chV E o x = chV E' o x ∨ x < o := by
  intro x hx
  by_cases h1 : x < o
  · exact .inr h1
  · left; unfold chV; rw [h _ (by omega)]
theorem chV_cg0 {E E' : Nat → Int × Int × Int × Int} {n : Nat} (h : ∀ i, i < n → E i = E' i) : ∀ x, x < n * 4 → chV E 0 x = chV E' 0 x := fun x hx => (chV_cg 0 h x (by omega)).resolve_right (by omega)
theorem chV_app (l : List (Int × Int × Int × Int)) (a0 : Int) (a1 : Int) (a2 : Int) (a3 : Int) : ∀ x, x < (l.length + 1) * 4 → appF (chV (gtD l) 0) (l.length * 4) [vi a0, vi a1, vu a2, vi a3] x = chV (gtD (l ++ [(a0, a1, a2, a3)])) 0 x := by
  intro x hx
  unfold appF
  by_cases h1 : x < l.length * 4
  · rw [if_pos h1]; exact chV_cg0 (n := l.length) (fun i hi => by rw [gtD_app, if_pos hi]) x h1
  · rw [if_neg h1]
    rcases (by omega : x = l.length * 4 ∨ x = l.length * 4 + 1 ∨ x = l.length * 4 + 2 ∨ x = l.length * 4 + 3) with rfl | rfl | rfl | rfl
    · have := chV_0 (gtD (l ++ [(a0, a1, a2, a3)])) 0 l.length; rw [Nat.zero_add] at this; rw [this, gtD_app, if_neg (by omega), show l.length * 4 - l.length * 4 = 0 by omega, Nat.sub_self]; rfl
    · have := chV_1 (gtD (l ++ [(a0, a1, a2, a3)])) 0 l.length; rw [Nat.zero_add] at this; rw [this, gtD_app, if_neg (by omega), show l.length * 4 + 1 - l.length * 4 = 1 by omega, Nat.sub_self]; rfl
    · have := chV_2 (gtD (l ++ [(a0, a1, a2, a3)])) 0 l.length; rw [Nat.zero_add] at this; rw [this, gtD_app, if_neg (by omega), show l.length * 4 + 2 - l.length * 4 = 2 by omega, Nat.sub_self]; rfl
    · have := chV_3 (gtD (l ++ [(a0, a1, a2, a3)])) 0 l.length; rw [Nat.zero_add] at this; rw [this, gtD_app, if_neg (by omega), show l.length * 4 + 3 - l.length * 4 = 3 by omega, Nat.sub_self]; rfl
end

section
end

section
end

section
def i1V (E : Nat → Int) (o x : Nat) : Value := vi (E (x - o))
theorem i1V_a (E : Nat → Int) (o i : Nat) (h : o = 0 := by rfl) : i1V E o i = vi (E i) := by subst h; rfl
end

section
end

section
end

section
end

section
end

section
end

section
end

section
def a10V (E : Nat → Int × Int × Int × Int × Int) (o x : Nat) : Value := if (x - o) % 5 = 0 then v8 (E ((x - o) / 5)).1 else if (x - o) % 5 = 1 then vi (E ((x - o) / 5)).2.1 else if (x - o) % 5 = 2 then vi (E ((x - o) / 5)).2.2.1 else if (x - o) % 5 = 3 then vu (E ((x - o) / 5)).2.2.2.1 else vi (E ((x - o) / 5)).2.2.2.2
theorem a10V_0 (E : Nat → Int × Int × Int × Int × Int) (o i : Nat) : a10V E o (o + i * 5) = v8 (E i).1 := by
  unfold a10V; rw [show o + i * 5 - o = i * 5 by omega, if_pos (by omega), show (i * 5) / 5 = i by omega]
theorem a10V_1 (E : Nat → Int × Int × Int × Int × Int) (o i : Nat) : a10V E o (o + i * 5 + 1) = vi (E i).2.1 := by
  unfold a10V; rw [show o + i * 5 + 1 - o = i * 5 + 1 by omega, if_neg (by omega), if_pos (by omega), show (i * 5 + 1) / 5 = i by omega]
theorem a10V_2 (E : Nat → Int × Int × Int × Int × Int) (o i : Nat) : a10V E o (o + i * 5 + 2) = vi (E i).2.2.1 := by
  unfold a10V; rw [show o + i * 5 + 2 - o = i * 5 + 2 by omega, if_neg (by omega), if_neg (by omega), if_pos (by omega), show (i * 5 + 2) / 5 = i by omega]
theorem a10V_3 (E : Nat → Int × Int × Int × Int × Int) (o i : Nat) : a10V E o (o + i * 5 + 3) = vu (E i).2.2.2.1 := by
  unfold a10V; rw [show o + i * 5 + 3 - o = i * 5 + 3 by omega, if_neg (by omega), if_neg (by omega), if_neg (by omega), if_pos (by omega), show (i * 5 + 3) / 5 = i by omega]
theorem a10V_4 (E : Nat → Int × Int × Int × Int × Int) (o i : Nat) : a10V E o (o + i * 5 + 4) = vi (E i).2.2.2.2 := by
  unfold a10V; rw [show o + i * 5 + 4 - o = i * 5 + 4 by omega, if_neg (by omega), if_neg (by omega), if_neg (by omega), if_neg (by omega), show (i * 5 + 4) / 5 = i by omega]
theorem a10V_cg {E E' : Nat → Int × Int × Int × Int × Int} {n : Nat} (o : Nat) (h : ∀ i, i < n → E i = E' i) : ∀ x, x < o + n * 5 → a10V E o x = a10V E' o x ∨ x < o := by
  intro x hx
  by_cases h1 : x < o
  · exact .inr h1
  · left; unfold a10V; rw [h _ (by omega)]
end

section
end

section
end

section
end

end Go.Proofs.YtindbpffbjhfaaaDoor.K
