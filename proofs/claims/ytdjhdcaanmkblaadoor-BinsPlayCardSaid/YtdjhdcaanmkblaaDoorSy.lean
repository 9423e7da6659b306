/-
  Rows of lists, told by functions of the place.
-/
import Derived.Test.YtdjhdcaanmkblaaDoorM5
namespace Go.Proofs.YtdjhdcaanmkblaaDoor.K
set_option linter.unusedSimpArgs false
set_option linter.unusedVariables false
/-- A list in a list: where it lies, its capacity, what it holds. -/
abbrev HdI := Option Addr × Nat × List Int
abbrev slH (h : HdI) : Value := .slice h.1 h.2.2.length h.2.1

section
def hdV (E : Nat → HdI) (o x : Nat) : Value := slH (E (x - o))
theorem hdV_0 (E : Nat → HdI) (o i : Nat) : hdV E o (o + i * 1) = slH (E i) := by unfold hdV; rw [show o + i * 1 - o = i by omega]
theorem hdV_a (E : Nat → HdI) (o i : Nat) (h : o = 0 := by rfl) : hdV E o i = slH (E i) := by subst h; rfl
theorem hdV_put (E : Nat → HdI) (i : Nat) (a0 : HdI) (x : Nat) : hdV (updF E i a0) 0 x = (fun x => if x = i then slH a0 else hdV E 0 x) x := by
  show _ = if x = i then slH a0 else hdV E 0 x
  unfold hdV updF
  simp only [Nat.sub_zero]
  by_cases h : x = i
  · rw [if_pos h, if_pos h]
  · rw [if_neg h, if_neg h]
end

end Go.Proofs.YtdjhdcaanmkblaaDoor.K
