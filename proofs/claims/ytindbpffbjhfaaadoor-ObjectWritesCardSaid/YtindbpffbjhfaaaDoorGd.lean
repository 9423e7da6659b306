/-
  Objects in chunks, plainly.
-/
import Derived.Test.YtindbpffbjhfaaaDoorGc
namespace Go.Proofs.YtindbpffbjhfaaaDoor.K
set_option linter.unusedSimpArgs false
set_option linter.unusedVariables false

def alB (a : Int) : Bool := decide (a ≤ 64) && z_whole a
/-- Rounded up. -/
def alUp (x a : Int) : Int := (x + a - 1) / a * a
theorem alB_in {a : Int} (h : alB a = true) : 1 ≤ a ∧ a ≤ 64 ∧ z_whole a = true := by
  unfold alB at h; simp at h
  have := z_whole_iff.1 h.2
  exact ⟨by omega, h.1, h.2⟩
theorem alUp_eq {x a : Int} (h : alB a = true) (h0 : 0 ≤ x ∧ x ≤ 1099511627776) : iandNot .i64 (x + a - 1) (a - 1) = alUp x a := by
  obtain ⟨h1, h2, h3⟩ := alB_in h
  obtain ⟨j, hj, rfl⟩ := z_whole_pow h3
  exact z_iandNot_pow (by omega) (by omega) (by omega)
theorem alUp_facts {x a : Int} (h1 : 1 ≤ a) : x ≤ alUp x a ∧ alUp x a < x + a ∧ alUp x a % a = 0 := by
  have e := Int.emod_add_mul_ediv (x + a - 1) a
  have l := Int.emod_lt_of_pos (x + a - 1) (show 0 < a by omega)
  have l0 := Int.emod_nonneg (x + a - 1) (show a ≠ 0 by omega)
  have c : (x + a - 1) / a * a = a * ((x + a - 1) / a) := Int.mul_comm _ _
  unfold alUp
  refine ⟨by omega, by omega, ?_⟩
  rw [c]; exact Int.mul_emod_right _ _
/-- Where an object fits in a chunk. -/
def fitB (at_ ord f n a : Int) : Bool := ((alB a && decide (at_ + 32 ≤ f)) && decide (f ≤ at_ + spanV ord)) && cHas at_ ord (alUp (f + 16) a) n
def fitV (at_ ord f n a : Int) : Int := if fitB at_ ord f n a then alUp (f + 16) a else 0
theorem fit_no {at_ ord f n a : Int} (h : fitB at_ ord f n a = false) : 0 = fitV at_ ord f n a ∧ false = fitB at_ ord f n a := by unfold fitV; rw [h]; exact ⟨rfl, rfl⟩
theorem fit_yes {at_ ord f n a : Int} (h : fitB at_ ord f n a = true) : alUp (f + 16) a = fitV at_ ord f n a ∧ true = fitB at_ ord f n a := by unfold fitV; rw [h]; exact ⟨rfl, rfl⟩
theorem fitB_1 {at_ ord f n a : Int} (h : ¬ (alB a = true ∧ at_ + 32 ≤ f ∧ f ≤ at_ + spanV ord)) : fitB at_ ord f n a = false := by
  unfold fitB
  cases h1 : alB a <;> simp_all
  intro h2 h3; omega
theorem fitB_2 {at_ ord f n a : Int} (h : alB a = true ∧ at_ + 32 ≤ f ∧ f ≤ at_ + spanV ord) : fitB at_ ord f n a = cHas at_ ord (alUp (f + 16) a) n := by
  unfold fitB; obtain ⟨h1, h2, h3⟩ := h; simp [h1, h2, h3]
/-- The least order. -/
def needP (f n a : Int) (k : Nat) : Bool := fitB 0 (k : Int) (imax f 32) n a
def needO (f n a : Int) : Option Nat := (List.range 11).find? (needP f n a)
def needV (f n a : Int) : Int := match needO f n a with | some k => (k : Int) | none => 0
def needB (f n a : Int) : Bool := (needO f n a).isSome
def NeedUp (f n a x : Int) : Prop := ∀ k : Nat, (k : Int) < x → needP f n a k = false
theorem needUp_zero (f n a : Int) : NeedUp f n a 0 := fun k h => absurd h (by omega)
theorem needUp_step {f n a x : Int} (h : NeedUp f n a x) (h0 : 0 ≤ x) (hf : fitB 0 x (imax f 32) n a = false) : NeedUp f n a (x + 1) := fun k hk => by
  rcases Int.lt_or_le (k : Int) x with h1 | h1
  · exact h k h1
  · unfold needP; rw [show (k : Int) = x by omega]; exact hf
theorem need_at {f n a x : Int} (h : NeedUp f n a x) (h0 : 0 ≤ x) (h1 : x < 11) (hf : fitB 0 x (imax f 32) n a = true) : x = needV f n a ∧ true = needB f n a := by
  have hp : needP f n a x.toNat = true := by unfold needP; rw [Int.toNat_of_nonneg h0]; exact hf
  have e : needO f n a = some x.toNat := by
    unfold needO
    rw [List.find?_range_eq_some]
    exact ⟨hp, List.mem_range.2 (by omega), fun k hk => by rw [h k (by omega)]; rfl⟩
  unfold needV needB
  rw [e]
  exact ⟨by show x = ((x.toNat : Nat) : Int); omega, rfl⟩
theorem need_none {f n a x : Int} (h : NeedUp f n a x) (hx : 11 ≤ x) : 0 = needV f n a ∧ false = needB f n a := by
  have e : needO f n a = none := by
    unfold needO
    rw [List.find?_range_eq_none]
    intro k hk
    rw [h k (by omega)]; rfl
  unfold needV needB
  rw [e]
  exact ⟨rfl, rfl⟩
end Go.Proofs.YtindbpffbjhfaaaDoor.K
