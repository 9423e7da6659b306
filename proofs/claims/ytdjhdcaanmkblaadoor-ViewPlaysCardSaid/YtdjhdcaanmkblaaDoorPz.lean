/-
  Views of the document's arena.
-/
import Derived.Test.YtdjhdcaanmkblaaDoorPx
import Derived.Test.YtdjhdcaanmkblaaDoorYe
import Derived.Test.YtdjhdcaanmkblaaDoorVx
import Derived.Test.YtdjhdcaanmkblaaDoorM5
namespace Go.Proofs.YtdjhdcaanmkblaaDoor.K
set_option linter.unusedSimpArgs false
set_option linter.unusedVariables false

def wiM (m : AM) (o z a n : Int) : Bool := decide (vchE z a n = 0) && thr m (o + a) n
section
variable {m : AM} {o z a n k v : Int} {s : ByteArray} {c : UInt8}
theorem vch_0 : vchE z a n = 0 ↔ (0 ≤ a ∧ 0 ≤ n ∧ n ≤ z ∧ a ≤ z - n) := by
  unfold vchE; split <;> omega
theorem wi_eq : ((((decide ((0 : Int) ≤ a) && decide ((0 : Int) ≤ n)) && decide (n ≤ z)) && decide (a ≤ z - n)) && thr m (o + a) n) = wiM m o z a n := by
  unfold wiM
  congr 1
  rw [Bool.eq_iff_iff]
  simp only [Bool.and_eq_true, decide_eq_true_eq, vch_0, and_assoc]
theorem wi_out (h : ¬ (0 ≤ a ∧ 0 ≤ n ∧ n ≤ z ∧ a ≤ z - n)) : false = wiM m o z a n := by
  unfold wiM; rw [decide_eq_false (fun q => h (vch_0.1 q))]; rfl
theorem wi_at (h : 0 ≤ a ∧ 0 ≤ n ∧ n ≤ z ∧ a ≤ z - n) : thr m (o + a) n = wiM m o z a n := by
  unfold wiM; rw [decide_eq_true (vch_0.2 h)]; rfl
theorem wi_in (h : wiM m o z a n = true) : vchE z a n = 0 ∧ thr m (o + a) n = true := by
  unfold wiM at h; simpa using h
theorem wi_no (h : wiM m o z a n = false) (hv : vchE z a n = 0) : thr m (o + a) n = false := by
  unfold wiM at h; rw [decide_eq_true hv] at h; simpa using h
theorem byE_in (h : wiM m o z a n = true) : vbyE m o z a n = 0 := by
  have := wi_in h; unfold vbyE; rw [if_pos this.1, chk_thr this.2]
theorem byE_no (h : wiM m o z a n = false) : vbyE m o z a n = 3 := by
  unfold vbyE; split
  · rename_i hv; exact chk_three (wi_no h hv)
  · rfl
theorem byS_in (h : wiM m o z a n = true) : bytS m (o + a) n = vbyS m o z a n := by unfold vbyS; rw [if_pos (wi_in h).1]
theorem byS_no (h : wiM m o z a n = false) : (⟨#[]⟩ : ByteArray) = vbyS m o z a n := by
  unfold vbyS; split
  · rename_i hv; unfold bytS; rw [wi_no h hv]; rfl
  · rfl
theorem by_chk (h : wiM m o z a n = true) : chkE m (o + a) n = vbyE m o z a n := by rw [byE_in h, chk_thr (wi_in h).2]
theorem ptM_in (h : wiM m o z a ((s.size : Nat) : Int) = true) : putM m (o + a) s = vptM m o z a s := by unfold vptM; rw [if_pos (wi_in h).1]
theorem ptM_no (h : wiM m o z a ((s.size : Nat) : Int) = false) : m = vptM m o z a s := by
  unfold vptM; split
  · rename_i hv; unfold putM; rw [wi_no h hv]; rfl
  · rfl
theorem fiM_in (h : wiM m o z a n = true) : filM m (o + a) n c = vfiM m o z a n c := by unfold vfiM; rw [if_pos (wi_in h).1]
theorem fiM_no (h : wiM m o z a n = false) : m = vfiM m o z a n c := by
  unfold vfiM; split
  · rename_i hv; exact fil_no (wi_no h hv)
  · rfl
theorem ld_two (h : ldE m a k = 2) : wholeB k = false := by
  unfold ldE chkE at h
  cases hw : wholeB k with
  | false => rfl
  | true => rw [hw] at h; simp only [if_true] at h; split at h <;> simp_all
theorem ld_not (h : ldE m a k ≠ 2) : wholeB k = true := by
  unfold ldE at h
  cases hw : wholeB k with
  | true => rfl
  | false => rw [hw] at h; exact absurd rfl h
theorem vl_1 (h : wholeB k = false) : 0 = vldV m o z a k ∧ 2 = vldE m o z a k := by unfold vldV vldE; rw [h]; exact ⟨rfl, rfl⟩
theorem vl_2 (h : wholeB k = true) (hn : wiM m o z a k = false) : 0 = vldV m o z a k ∧ 3 = vldE m o z a k := by
  unfold vldV vldE; rw [h]; simp only [if_true]
  by_cases hv : vchE z a k = 0
  · rw [if_pos hv, if_pos hv]
    have ht := wi_no hn hv
    unfold ldV ldE; rw [h, ht]; exact ⟨rfl, (chk_three ht).symm⟩
  · rw [if_neg hv, if_neg hv]; exact ⟨rfl, rfl⟩
theorem vl_3 (h : wholeB k = true) (hn : wiM m o z a k = true) : ldV m (o + a) k = vldV m o z a k ∧ ldE m (o + a) k = vldE m o z a k := by
  unfold vldV vldE; rw [h, if_pos (wi_in hn).1, if_pos (wi_in hn).1]; exact ⟨rfl, rfl⟩
theorem vst_vld : vstE m o z a k = vldE m o z a k := by
  unfold vstE vldE stE ldE
  cases hw : wholeB k with
  | false => rfl
  | true => rfl
theorem vl_0 (h : vldE m o z a k = 0) : wholeB k = true ∧ vchE z a k = 0 ∧ thr m (o + a) k = true := by
  unfold vldE at h
  cases hw : wholeB k with
  | false => rw [hw] at h; simp at h
  | true =>
    rw [hw] at h
    simp only [if_true] at h
    by_cases hv : vchE z a k = 0
    · rw [if_pos hv] at h
      refine ⟨rfl, hv, ?_⟩
      rw [ld_e2 hw] at h
      exact thr_of_chk h
    · rw [if_neg hv] at h; exact absurd h (by decide)
theorem vs_in (h : vldE m o z a k = 0) : stM m (o + a) k v = vstM m o z a k v ∧ stE m (o + a) k = vstE m o z a k := by
  obtain ⟨h1, h2, h3⟩ := vl_0 h
  unfold vstM vstE; rw [h1, if_pos h2, if_pos h2]; exact ⟨rfl, rfl⟩
theorem vs_no (h : vldE m o z a k ≠ 0) : m = vstM m o z a k v ∧ vldE m o z a k = vstE m o z a k := by
  refine ⟨?_, vst_vld.symm⟩
  unfold vstM
  cases hw : wholeB k with
  | false => rfl
  | true =>
    simp only [if_true]
    by_cases hv : vchE z a k = 0
    · rw [if_pos hv]
      have ht : thr m (o + a) k = false := by
        cases ht : thr m (o + a) k with
        | false => rfl
        | true => exfalso; apply h; unfold vldE; rw [hw, if_pos hv]; simp only [if_true]; rw [ld_e2 hw, chk_thr ht]
      unfold stM putM; rw [hw]; simp only [if_true]
      rw [bs_size, show ((k.toNat : Nat) : Int) = k by have := wholeB_le hw; omega, ht]; rfl
    · rw [if_neg hv]
theorem cp_in {t f : Int} (h1 : wiM m o z f n = true) (h2 : wiM m o z t n = true) : cpyM m (o + t) (o + f) n = vcpM m o z t f n ∧ cpyE m (o + t) (o + f) n = vcpE m o z t f n := by
  unfold vcpM vcpE; rw [if_pos (wi_in h1).1, if_pos (wi_in h2).1, if_pos (wi_in h1).1, if_pos (wi_in h2).1]; exact ⟨rfl, rfl⟩
theorem cp_no1 {t f : Int} (h1 : wiM m o z f n = false) : m = vcpM m o z t f n ∧ 3 = vcpE m o z t f n := by
  unfold vcpM vcpE
  by_cases hv : vchE z f n = 0
  · rw [if_pos hv, if_pos hv]
    have ht := wi_no h1 hv
    split
    · unfold cpyM cpyE; rw [ht]; exact ⟨rfl, (chk_three ht).symm⟩
    · exact ⟨rfl, rfl⟩
  · rw [if_neg hv, if_neg hv]; exact ⟨rfl, rfl⟩
theorem cp_no2 {t f : Int} (h1 : wiM m o z f n = true) (h2 : wiM m o z t n = false) : m = vcpM m o z t f n ∧ 3 = vcpE m o z t f n := by
  unfold vcpM vcpE
  rw [if_pos (wi_in h1).1, if_pos (wi_in h1).1]
  by_cases hv : vchE z t n = 0
  · rw [if_pos hv, if_pos hv]
    have ht := wi_no h2 hv
    have hf := (wi_in h1).2
    have hsz : (((bytS m (o + f) n).size : Nat) : Int) = n := by
      have := inB_facts (thr_in hf)
      unfold bytS; rw [hf, if_pos rfl, bs_size]; omega
    unfold cpyM cpyE; rw [hf]
    simp only [if_true]
    refine ⟨?_, ?_⟩
    · unfold putM; rw [hsz, ht]; rfl
    · rw [hsz]; exact (chk_three ht).symm
  · rw [if_neg hv, if_neg hv]; exact ⟨rfl, rfl⟩
end
def paA (m : AM) (o z a n : Int) : Int := if wiM m o z a n then o + a else 0
def paN (m : AM) (o z a n : Int) : Int := if wiM m o z a n then n else 0
theorem pa_in {m : AM} {o z a n : Int} (h : wiM m o z a n = true) : o + a = paA m o z a n ∧ n = paN m o z a n := by unfold paA paN; rw [h]; exact ⟨rfl, rfl⟩
theorem pa_no {m : AM} {o z a n : Int} (h : wiM m o z a n = false) : 0 = paA m o z a n ∧ 0 = paN m o z a n := by unfold paA paN; rw [h]; exact ⟨rfl, rfl⟩
end Go.Proofs.YtdjhdcaanmkblaaDoor.K
