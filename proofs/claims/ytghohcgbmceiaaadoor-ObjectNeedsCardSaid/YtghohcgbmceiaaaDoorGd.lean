/-
  Objects in chunks, plainly.
-/
import Derived.Test.YtghohcgbmceiaaaDoorGc
namespace Go.Proofs.YtghohcgbmceiaaaDoor.K
set_option linter.unusedSimpArgs false
set_option linter.unusedVariables false

def alB (a : Int) : Bool := decide (a ≤ 64) && z_whole a
/-- Rounded up. -/
def alUp (x a : Int) : Int := (x + a - 1) / a * a
theorem alB_in {a : Int} (h : alB a = true) : 1 ≤ a ∧ a ≤ 64 ∧ z_whole a = true := by
  unfold alB at h; simp at h
  have := z_whole_iff.1 h.2
  exact ⟨by omega, h.1, h.2⟩
theorem alUp_eq {x a : Int} (h : alB a = true) (h0 : 0 ≤ x ∧ x ≤ 1099511627776) : iandNot .i64 (x + a - 1) (a - 1) = alUp x a := by
  obtain ⟨h1, h2, h3⟩ := alB_in h
  obtain ⟨j, hj, rfl⟩ := z_whole_pow h3
  exact z_iandNot_pow (by omega) (by omega) (by omega)
theorem alUp_facts {x a : Int} (h1 : 1 ≤ a) : x ≤ alUp x a ∧ alUp x a < x + a ∧ alUp x a % a = 0 := by
  have e := Int.emod_add_mul_ediv (x + a - 1) a
  have l := Int.emod_lt_of_pos (x + a - 1) (show 0 < a by omega)
  have l0 := Int.emod_nonneg (x + a - 1) (show a ≠ 0 by omega)
  have c : (x + a - 1) / a * a = a * ((x + a - 1) / a) := Int.mul_comm _ _
  unfold alUp
  refine ⟨by omega, by omega, ?_⟩
  rw [c]; exact Int.mul_emod_right _ _
theorem alUp_least {x a y : Int} (h1 : 1 ≤ a) (hx : x ≤ y) (hy : y ≤ alUp x a) (hm : y % a = 0) : y = alUp x a := by
  obtain ⟨f1, f2, f3⟩ := alUp_facts (x := x) h1
  have d : (alUp x a - y) % a = 0 := by rw [Int.sub_emod, f3, hm]; simp
  have : alUp x a - y < a := by omega
  have e := Int.emod_eq_of_lt (show 0 ≤ alUp x a - y by omega) this
  omega
theorem alUp_add {x a t : Int} (h1 : 1 ≤ a) (ht : t % a = 0) : alUp (t + x) a = t + alUp x a := by
  obtain ⟨f1, f2, f3⟩ := alUp_facts (x := x) h1
  obtain ⟨g1, g2, g3⟩ := alUp_facts (x := t + x) h1
  refine (alUp_least (x := t + x) (y := t + alUp x a) h1 (by omega) ?_ ?_).symm
  · have d : (alUp (t + x) a - (t + alUp x a)) % a = 0 := by rw [Int.sub_emod, g3, Int.add_emod, ht, f3]; simp
    rcases Int.lt_or_le (alUp (t + x) a) (t + alUp x a) with h | h
    · exfalso
      have d2 : (t + alUp x a - alUp (t + x) a) % a = 0 := by rw [Int.sub_emod, g3, Int.add_emod, ht, f3]; simp
      have e := Int.emod_eq_of_lt (show 0 ≤ t + alUp x a - alUp (t + x) a by omega) (show t + alUp x a - alUp (t + x) a < a by omega)
      omega
    · exact h
  · rw [Int.add_emod, ht, f3]; simp
theorem al_page {a t : Int} (h : alB a = true) (ht : t % 4096 = 0) : t % a = 0 := by
  obtain ⟨h1, h2, h3⟩ := alB_in h
  obtain ⟨j, hj, rfl⟩ := z_whole_pow h3
  have hj6 : j ≤ 6 := by
    rcases Nat.lt_or_ge 6 j with h | h
    · have : 2 ^ 7 ≤ 2 ^ j := Nat.pow_le_pow_right (by omega) h
      omega
    · exact h
  rcases (by omega : j = 0 ∨ j = 1 ∨ j = 2 ∨ j = 3 ∨ j = 4 ∨ j = 5 ∨ j = 6) with rfl | rfl | rfl | rfl | rfl | rfl | rfl <;> simp <;> omega

/-- Where an object fits in a chunk. -/
def fitB (at_ ord f n a : Int) : Bool := ((alB a && decide (at_ + 32 ≤ f)) && decide (f ≤ at_ + spanV ord)) && cHas at_ ord (alUp (f + 16) a) n
def fitV (at_ ord f n a : Int) : Int := if fitB at_ ord f n a then alUp (f + 16) a else 0
theorem fit_no {at_ ord f n a : Int} (h : fitB at_ ord f n a = false) : 0 = fitV at_ ord f n a ∧ false = fitB at_ ord f n a := by unfold fitV; rw [h]; exact ⟨rfl, rfl⟩
theorem fit_yes {at_ ord f n a : Int} (h : fitB at_ ord f n a = true) : alUp (f + 16) a = fitV at_ ord f n a ∧ true = fitB at_ ord f n a := by unfold fitV; rw [h]; exact ⟨rfl, rfl⟩
theorem fitB_1 {at_ ord f n a : Int} (h : ¬ (alB a = true ∧ at_ + 32 ≤ f ∧ f ≤ at_ + spanV ord)) : fitB at_ ord f n a = false := by
  unfold fitB
  cases h1 : alB a <;> simp_all
  intro h2 h3; omega
theorem fitB_2 {at_ ord f n a : Int} (h : alB a = true ∧ at_ + 32 ≤ f ∧ f ≤ at_ + spanV ord) : fitB at_ ord f n a = cHas at_ ord (alUp (f + 16) a) n := by
  unfold fitB; obtain ⟨h1, h2, h3⟩ := h; simp [h1, h2, h3]
def fitsB (x n e : Int) : Bool := !(decide (e < x) || decide (e - x < n))
def fitsV (x n e : Int) : Int := if fitsB x n e then x else 0
/-- The document's: the first multiple; does it end ahead of an end? -/
theorem fits_at {at_ ord f n a x : Int} (h : alB a = true ∧ at_ + 32 ≤ f ∧ f ≤ at_ + spanV ord) (hn : 0 ≤ n) (hx : f + 16 ≤ x) (hx2 : x ≤ alUp (f + 16) a) (hm : x % a = 0) : fitsV x n (at_ + spanV ord) = fitV at_ ord f n a ∧ fitsB x n (at_ + spanV ord) = fitB at_ ord f n a := by
  obtain ⟨h1, h2, h3⟩ := alB_in h.1
  have e := alUp_least (x := f + 16) h1 hx hx2 hm
  have hb : fitsB x n (at_ + spanV ord) = fitB at_ ord f n a := by
    rw [fitB_2 h, e]
    have := (alUp_facts (x := f + 16) h1).1
    unfold fitsB cHas
    rw [Bool.eq_iff_iff]
    simp only [Bool.and_eq_true, Bool.not_eq_true', Bool.or_eq_false_iff, decide_eq_true_eq, decide_eq_false_iff_not]
    omega
  refine ⟨?_, hb⟩
  unfold fitsV fitV
  rw [hb, e]

/-- The least order. -/
def needP (f n a : Int) (k : Nat) : Bool := fitB 0 (k : Int) (imax f 32) n a
def needO (f n a : Int) : Option Nat := (List.range 11).find? (needP f n a)
def needV (f n a : Int) : Int := match needO f n a with | some k => (k : Int) | none => 0
def needB (f n a : Int) : Bool := (needO f n a).isSome
def NeedUp (f n a x : Int) : Prop := ∀ k : Nat, (k : Int) < x → needP f n a k = false
theorem needUp_zero (f n a : Int) : NeedUp f n a 0 := fun k h => absurd h (by omega)
theorem needUp_step {f n a x : Int} (h : NeedUp f n a x) (h0 : 0 ≤ x) (hf : fitB 0 x (imax f 32) n a = false) : NeedUp f n a (x + 1) := fun k hk => by
  rcases Int.lt_or_le (k : Int) x with h1 | h1
  · exact h k h1
  · unfold needP; rw [show (k : Int) = x by omega]; exact hf
theorem need_at {f n a x : Int} (h : NeedUp f n a x) (h0 : 0 ≤ x) (h1 : x < 11) (hf : fitB 0 x (imax f 32) n a = true) : x = needV f n a ∧ true = needB f n a := by
  have hp : needP f n a x.toNat = true := by unfold needP; rw [Int.toNat_of_nonneg h0]; exact hf
  have e : needO f n a = some x.toNat := by
    unfold needO
    rw [List.find?_range_eq_some]
    exact ⟨hp, List.mem_range.2 (by omega), fun k hk => by rw [h k (by omega)]; rfl⟩
  unfold needV needB
  rw [e]
  exact ⟨by show x = ((x.toNat : Nat) : Int); omega, rfl⟩
theorem need_none {f n a x : Int} (h : NeedUp f n a x) (hx : 11 ≤ x) : 0 = needV f n a ∧ false = needB f n a := by
  have e : needO f n a = none := by
    unfold needO
    rw [List.find?_range_eq_none]
    intro k hk
    rw [h k (by omega)]; rfl
  unfold needV needB
  rw [e]
  exact ⟨rfl, rfl⟩
theorem need_is {f n a : Int} (h : needB f n a = true) : 0 ≤ needV f n a ∧ needV f n a ≤ 10 ∧ fitB 0 (needV f n a) (imax f 32) n a = true ∧ (needV f n a = 0 ∨ fitB 0 (needV f n a - 1) (imax f 32) n a = false) := by
  unfold needB at h
  obtain ⟨k, hk⟩ := Option.isSome_iff_exists.1 h
  have e : needV f n a = (k : Int) := by unfold needV; rw [hk]
  unfold needO at hk
  rw [List.find?_range_eq_some] at hk
  obtain ⟨h1, h2, h3⟩ := hk
  have h2 := List.mem_range.1 h2
  rw [e]
  refine ⟨by omega, by omega, h1, ?_⟩
  rcases Nat.eq_zero_or_pos k with h0 | h0
  · left; omega
  · right
    have := h3 (k - 1) (by omega)
    unfold needP at this
    rw [show (((k - 1 : Nat)) : Int) = (k : Int) - 1 by omega] at this
    simpa using this
theorem need_not {f n a : Int} (h : needB f n a = false) : needV f n a = 0 ∧ ∀ k : Nat, k < 11 → fitB 0 (k : Int) (imax f 32) n a = false := by
  unfold needB at h
  have e : needO f n a = none := by
    cases hq : needO f n a with
    | none => rfl
    | some k => rw [hq] at h; cases h
  refine ⟨by unfold needV; rw [e], fun k hk => ?_⟩
  unfold needO at e
  rw [List.find?_range_eq_none] at e
  have := e k hk
  unfold needP at this
  simpa using this
/-- A chunk elsewhere. -/
theorem fit_move {at_ ord f n a : Int} (h : at_ % 4096 = 0) : fitB at_ ord (at_ + f) n a = fitB 0 ord f n a ∧ (fitB 0 ord f n a = true → fitV at_ ord (at_ + f) n a = at_ + alUp (f + 16) a) := by
  have main : fitB at_ ord (at_ + f) n a = fitB 0 ord f n a := by
    unfold fitB
    cases ha : alB a with
    | false => rfl
    | true =>
      rw [show at_ + f + 16 = at_ + (f + 16) by omega, alUp_add (alB_in ha).1 (al_page ha h)]
      unfold cHas
      rw [Bool.eq_iff_iff]
      simp only [Bool.true_and, Bool.and_eq_true, decide_eq_true_eq]
      omega
  refine ⟨main, fun h1 => ?_⟩
  have ha : alB a = true := by unfold fitB at h1; simp at h1; exact h1.1.1.1
  unfold fitV
  rw [main, h1, if_pos rfl, show at_ + f + 16 = at_ + (f + 16) by omega, alUp_add (alB_in ha).1 (al_page ha h)]
theorem fit_in {ord f n a : Int} (h : fitB 0 ord f n a = true) : alB a = true ∧ alUp (f + 16) a + n ≤ spanV ord := by
  unfold fitB cHas at h
  simp only [Bool.and_eq_true, decide_eq_true_eq] at h
  exact ⟨h.1.1.1, by omega⟩
end Go.Proofs.YtghohcgbmceiaaaDoor.K
