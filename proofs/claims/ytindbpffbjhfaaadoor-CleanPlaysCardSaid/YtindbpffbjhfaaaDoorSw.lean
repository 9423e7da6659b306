/-
  Rows of structs, told by functions of the place.
-/
import Derived.Test.YtindbpffbjhfaaaDoorSv
import Derived.Test.YtindbpffbjhfaaaDoorHf
namespace Go.Proofs.YtindbpffbjhfaaaDoor.K
set_option linter.unusedSimpArgs false
set_option linter.unusedVariables false
section
end

section
end

section
end

section
theorem entV_one (E : Nat → Int × Int × Int × Int) (o x : Nat) : (entV E o x).oneCell' = true := by unfold entV; repeat (first | rfl | split)
theorem entV_sh (E : Nat → Int × Int × Int × Int) (o x : Nat) : entV E o (o + x) = entV E 0 x := by unfold entV; rw [Nat.add_sub_cancel_left, Nat.sub_zero]
theorem entV_cg {E E' : Nat → Int × Int × Int × Int} {n : Nat} (o : Nat) (h : ∀ i, i < n → E i = E' i) : ∀ x, x < o + n * 4 → entV E o x = entV E' o x ∨ x < o := by
  intro x hx
  by_cases h1 : x < o
  · exact .inr h1
  · left; unfold entV; rw [h _ (by omega)]
theorem entV_cg0 {E E' : Nat → Int × Int × Int × Int} {n : Nat} (h : ∀ i, i < n → E i = E' i) : ∀ x, x < n * 4 → entV E 0 x = entV E' 0 x := fun x hx => (entV_cg 0 h x (by omega)).resolve_right (by omega)
theorem entV_app (l : List (Int × Int × Int × Int)) (a0 : Int) (a1 : Int) (a2 : Int) (a3 : Int) : ∀ x, x < (l.length + 1) * 4 → appF (entV (gtD l) 0) (l.length * 4) [vu a0, v8 a1, v8 a2, vu a3] x = entV (gtD (l ++ [(a0, a1, a2, a3)])) 0 x := by
  intro x hx
  unfold appF
  by_cases h1 : x < l.length * 4
  · rw [if_pos h1]; exact entV_cg0 (n := l.length) (fun i hi => by rw [gtD_app, if_pos hi]) x h1
  · rw [if_neg h1]
    rcases (by omega : x = l.length * 4 ∨ x = l.length * 4 + 1 ∨ x = l.length * 4 + 2 ∨ x = l.length * 4 + 3) with rfl | rfl | rfl | rfl
    · have := entV_0 (gtD (l ++ [(a0, a1, a2, a3)])) 0 l.length; rw [Nat.zero_add] at this; rw [this, gtD_app, if_neg (by omega), show l.length * 4 - l.length * 4 = 0 by omega, Nat.sub_self]; rfl
    · have := entV_1 (gtD (l ++ [(a0, a1, a2, a3)])) 0 l.length; rw [Nat.zero_add] at this; rw [this, gtD_app, if_neg (by omega), show l.length * 4 + 1 - l.length * 4 = 1 by omega, Nat.sub_self]; rfl
    · have := entV_2 (gtD (l ++ [(a0, a1, a2, a3)])) 0 l.length; rw [Nat.zero_add] at this; rw [this, gtD_app, if_neg (by omega), show l.length * 4 + 2 - l.length * 4 = 2 by omega, Nat.sub_self]; rfl
    · have := entV_3 (gtD (l ++ [(a0, a1, a2, a3)])) 0 l.length; rw [Nat.zero_add] at this; rw [this, gtD_app, if_neg (by omega), show l.length * 4 + 3 - l.length * 4 = 3 by omega, Nat.sub_self]; rfl
theorem entV_cat (l k : List (Int × Int × Int × Int)) (o : Nat) : ∀ x, x < (l.length + k.length) * 4 → catF (entV (gtD l) 0) (l.length * 4) (fun j => entV (gtD k) o (o + j)) x = entV (gtD (l ++ k)) 0 x := by
  intro x hx
  unfold catF
  by_cases h1 : x < l.length * 4
  · rw [if_pos h1]; exact entV_cg0 (n := l.length) (fun i hi => by rw [gtD_app, if_pos hi]) x h1
  · rw [if_neg h1]; show entV (gtD k) o (o + (x - l.length * 4)) = _; rw [entV_sh]
    obtain ⟨y, rfl⟩ : ∃ y, x = l.length * 4 + y := ⟨x - l.length * 4, by omega⟩
    rw [Nat.add_sub_cancel_left]
    unfold entV
    simp only [Nat.sub_zero, show (l.length * 4 + y) % 4 = y % 4 by omega, show (l.length * 4 + y) / 4 = l.length + y / 4 by omega]
    have e : gtD (l ++ k) (l.length + y / 4) = gtD k (y / 4) := by rw [gtD_app, if_neg (by omega), Nat.add_sub_cancel_left]
    rw [e]
end

section
end

section
end

section
end

section
end

section
end

section
end

section
end

section
end

section
end

section
end

section
def a21V (E : Nat → Int × Int × Int × Int × Int) (o x : Nat) : Value := if (x - o) % 5 = 0 then v8 (E ((x - o) / 5)).1 else if (x - o) % 5 = 1 then vu (E ((x - o) / 5)).2.1 else if (x - o) % 5 = 2 then v8 (E ((x - o) / 5)).2.2.1 else if (x - o) % 5 = 3 then v8 (E ((x - o) / 5)).2.2.2.1 else vu (E ((x - o) / 5)).2.2.2.2
theorem a21V_0 (E : Nat → Int × Int × Int × Int × Int) (o i : Nat) : a21V E o (o + i * 5) = v8 (E i).1 := by
  unfold a21V; rw [show o + i * 5 - o = i * 5 by omega, if_pos (by omega), show (i * 5) / 5 = i by omega]
theorem a21V_1 (E : Nat → Int × Int × Int × Int × Int) (o i : Nat) : a21V E o (o + i * 5 + 1) = vu (E i).2.1 := by
  unfold a21V; rw [show o + i * 5 + 1 - o = i * 5 + 1 by omega, if_neg (by omega), if_pos (by omega), show (i * 5 + 1) / 5 = i by omega]
theorem a21V_2 (E : Nat → Int × Int × Int × Int × Int) (o i : Nat) : a21V E o (o + i * 5 + 2) = v8 (E i).2.2.1 := by
  unfold a21V; rw [show o + i * 5 + 2 - o = i * 5 + 2 by omega, if_neg (by omega), if_neg (by omega), if_pos (by omega), show (i * 5 + 2) / 5 = i by omega]
theorem a21V_3 (E : Nat → Int × Int × Int × Int × Int) (o i : Nat) : a21V E o (o + i * 5 + 3) = v8 (E i).2.2.2.1 := by
  unfold a21V; rw [show o + i * 5 + 3 - o = i * 5 + 3 by omega, if_neg (by omega), if_neg (by omega), if_neg (by omega), if_pos (by omega), show (i * 5 + 3) / 5 = i by omega]
theorem a21V_4 (E : Nat → Int × Int × Int × Int × Int) (o i : Nat) : a21V E o (o + i * 5 + 4) = vu (E i).2.2.2.2 := by
  unfold a21V; rw [show o + i * 5 + 4 - o = i * 5 + 4 by omega, if_neg (by omega), if_neg (by omega), if_neg (by omega), if_neg (by omega), show (i * 5 + 4) / 5 = i by omega]
theorem a21V_cg {E E' : Nat → Int × Int × Int × Int × Int} {n : Nat} (o : Nat) (h : ∀ i, i < n → E i = E' i) : ∀ x, x < o + n * 5 → a21V E o x = a21V E' o x ∨ x < o := by
  intro x hx
  by_cases h1 : x < o
  · exact .inr h1
  · left; unfold a21V; rw [h _ (by omega)]
end

end Go.Proofs.YtindbpffbjhfaaaDoor.K
