/-
  Rows of structs, told by functions of the place.
-/
import Derived.Test.YtindbpffbjhfaaaDoorSv
import Derived.Test.YtindbpffbjhfaaaDoorHf
namespace Go.Proofs.YtindbpffbjhfaaaDoor.K
set_option linter.unusedSimpArgs false
set_option linter.unusedVariables false
def updF {α : Type} (E : Nat → α) (i : Nat) (x : α) (k : Nat) : α := if k = i then x else E k

section
end

section
def tgV (E : Nat → Int × Int) (o x : Nat) : Value := if (x - o) % 2 = 0 then v8 (E ((x - o) / 2)).1 else v8 (E ((x - o) / 2)).2
theorem tgV_0 (E : Nat → Int × Int) (o i : Nat) : tgV E o (o + i * 2) = v8 (E i).1 := by
  unfold tgV; rw [show o + i * 2 - o = i * 2 by omega, if_pos (by omega), show (i * 2) / 2 = i by omega]
theorem tgV_1 (E : Nat → Int × Int) (o i : Nat) : tgV E o (o + i * 2 + 1) = v8 (E i).2 := by
  unfold tgV; rw [show o + i * 2 + 1 - o = i * 2 + 1 by omega, if_neg (by omega), show (i * 2 + 1) / 2 = i by omega]
theorem tgV_one (E : Nat → Int × Int) (o x : Nat) : (tgV E o x).oneCell' = true := by unfold tgV; repeat (first | rfl | split)
theorem tgV_sh (E : Nat → Int × Int) (o x : Nat) : tgV E o (o + x) = tgV E 0 x := by unfold tgV; rw [Nat.add_sub_cancel_left, Nat.sub_zero]
theorem tgV_cg {E E' : Nat → Int × Int} {n : Nat} (o : Nat) (h : ∀ i, i < n → E i = E' i) : ∀ x, x < o + n * 2 → tgV E o x = tgV E' o x ∨ x < o := by
  intro x hx
  by_cases h1 : x < o
  · exact .inr h1
  · left; unfold tgV; rw [h _ (by omega)]
theorem tgV_cg0 {E E' : Nat → Int × Int} {n : Nat} (h : ∀ i, i < n → E i = E' i) : ∀ x, x < n * 2 → tgV E 0 x = tgV E' 0 x := fun x hx => (tgV_cg 0 h x (by omega)).resolve_right (by omega)
theorem tgV_zero (j : Nat) : tgV (fun _ => (0, 0)) 0 j = ([v8 0, v8 0] : List Value).getD (j % 2) undef := by
  unfold tgV; rw [Nat.sub_zero]
  by_cases h0 : j % 2 = 0
  · rw [if_pos h0, h0]; rfl
  rw [if_neg h0, show j % 2 = 1 by omega]; rfl
theorem tgV_copy (E E0 : Nat → Int × Int) (o k : Nat) : ∀ x, x < k * 2 → segV (tgV E0 0) 0 (k * 2) (fun j => tgV E o (o + j)) x = tgV E 0 x := by
  intro x hx; unfold segV; rw [if_pos ⟨by omega, by omega⟩, Nat.sub_zero]; exact tgV_sh E o x
theorem tgV_put (E : Nat → Int × Int) (i : Nat) (a0 : Int) (a1 : Int) (x : Nat) : tgV (updF E i (a0, a1)) 0 x = (fun x => if x = 0 + i * 2 + 1 then v8 a1 else (fun x => if x = 0 + i * 2 then v8 a0 else tgV E 0 x) x) x := by
  show _ = if x = 0 + i * 2 + 1 then v8 a1 else (fun x => if x = 0 + i * 2 then v8 a0 else tgV E 0 x) x
  dsimp only
  unfold tgV updF
  simp only [Nat.sub_zero]
  by_cases h : x / 2 = i
  · rw [if_pos h]
    by_cases h0 : x % 2 = 0
    · rw [if_pos h0, if_neg (show ¬ x = 0 + i * 2 + 1 by omega), if_pos (show x = 0 + i * 2 by omega)]
    rw [if_neg h0, if_pos (show x = 0 + i * 2 + 1 by omega)]
  · rw [if_neg h, if_neg (show ¬ x = 0 + i * 2 + 1 by omega), if_neg (show ¬ x = 0 + i * 2 by omega)]
end

section
end

section
end

section
end

section
end

section
end

section
end

section
end

section
def aTV (E : Nat → Int × Int × Int) (o x : Nat) : Value := if (x - o) % 3 = 0 then vi (E ((x - o) / 3)).1 else if (x - o) % 3 = 1 then vi (E ((x - o) / 3)).2.1 else v8 (E ((x - o) / 3)).2.2
theorem aTV_0 (E : Nat → Int × Int × Int) (o i : Nat) : aTV E o (o + i * 3) = vi (E i).1 := by
  unfold aTV; rw [show o + i * 3 - o = i * 3 by omega, if_pos (by omega), show (i * 3) / 3 = i by omega]
theorem aTV_1 (E : Nat → Int × Int × Int) (o i : Nat) : aTV E o (o + i * 3 + 1) = vi (E i).2.1 := by
  unfold aTV; rw [show o + i * 3 + 1 - o = i * 3 + 1 by omega, if_neg (by omega), if_pos (by omega), show (i * 3 + 1) / 3 = i by omega]
theorem aTV_2 (E : Nat → Int × Int × Int) (o i : Nat) : aTV E o (o + i * 3 + 2) = v8 (E i).2.2 := by
  unfold aTV; rw [show o + i * 3 + 2 - o = i * 3 + 2 by omega, if_neg (by omega), if_neg (by omega), show (i * 3 + 2) / 3 = i by omega]
theorem aTV_cg {E E' : Nat → Int × Int × Int} {n : Nat} (o : Nat) (h : ∀ i, i < n → E i = E' i) : ∀ x, x < o + n * 3 → aTV E o x = aTV E' o x ∨ x < o := by
  intro x hx
  by_cases h1 : x < o
  · exact .inr h1
  · left; unfold aTV; rw [h _ (by omega)]
end

section
end

section
end

section
end

section
end

section
end

section
end

end Go.Proofs.YtindbpffbjhfaaaDoor.K
