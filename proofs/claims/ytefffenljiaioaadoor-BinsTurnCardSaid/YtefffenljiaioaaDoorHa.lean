/-
  Tags and handles, plainly.
-/
import Derived.Test.YtefffenljiaioaaDoorGc
namespace Go.Proofs.YtefffenljiaioaaDoor.K
set_option linter.unusedSimpArgs false
set_option linter.unusedVariables false

theorem page_thr1 {a n : Int} (h : 0 ≤ a ∧ 0 ≤ n ∧ a + n ≤ 4096) : thr (comM (AM.new 1) 0 1) a n = true := by
  refine thr_sub (a := 0) (n := 4096) (by decide +kernel) ?_ ?_ ?_ <;> omega
/-- The first number that is so. -/
def fstN (p : Nat → Bool) (n : Nat) : Option Nat := (List.range n).find? p
def NoUp (p : Nat → Bool) (x : Int) : Prop := ∀ k : Nat, (k : Int) < x → p k = false
theorem noUp_zero (p : Nat → Bool) : NoUp p 0 := fun k h => absurd h (by omega)
theorem noUp_step {p : Nat → Bool} {x : Int} (h : NoUp p x) (h0 : 0 ≤ x) (hf : p x.toNat = false) : NoUp p (x + 1) := fun k hk => by
  rcases Int.lt_or_le (k : Int) x with h1 | h1
  · exact h k h1
  · rw [show k = x.toNat by omega]; exact hf
theorem fstN_at {p : Nat → Bool} {n : Nat} {x : Int} (h : NoUp p x) (h0 : 0 ≤ x) (h1 : x < (n : Int)) (hf : p x.toNat = true) : fstN p n = some x.toNat := by
  unfold fstN
  rw [List.find?_range_eq_some]
  exact ⟨hf, List.mem_range.2 (by omega), fun k hk => by rw [h k (by omega)]; rfl⟩
theorem fstN_none {p : Nat → Bool} {n : Nat} {x : Int} (h : NoUp p x) (hx : (n : Int) ≤ x) : fstN p n = none := by
  unfold fstN
  rw [List.find?_range_eq_none]
  intro k hk
  rw [h k (by omega)]; rfl

end Go.Proofs.YtefffenljiaioaaDoor.K
