/-
  Tags and handles, plainly.
-/
import Derived.Test.YtindbpffbjhfaaaDoorGc
namespace Go.Proofs.YtindbpffbjhfaaaDoor.K
set_option linter.unusedSimpArgs false
set_option linter.unusedVariables false

/-- The first number that is so. -/
def fstN (p : Nat → Bool) (n : Nat) : Option Nat := (List.range n).find? p
def NoUp (p : Nat → Bool) (x : Int) : Prop := ∀ k : Nat, (k : Int) < x → p k = false
theorem fstN_at {p : Nat → Bool} {n : Nat} {x : Int} (h : NoUp p x) (h0 : 0 ≤ x) (h1 : x < (n : Int)) (hf : p x.toNat = true) : fstN p n = some x.toNat := by
  unfold fstN
  rw [List.find?_range_eq_some]
  exact ⟨hf, List.mem_range.2 (by omega), fun k hk => by rw [h k (by omega)]; rfl⟩
theorem fstN_none {p : Nat → Bool} {n : Nat} {x : Int} (h : NoUp p x) (hx : (n : Int) ≤ x) : fstN p n = none := by
  unfold fstN
  rw [List.find?_range_eq_none]
  intro k hk
  rw [h k (by omega)]; rfl

end Go.Proofs.YtindbpffbjhfaaaDoor.K
