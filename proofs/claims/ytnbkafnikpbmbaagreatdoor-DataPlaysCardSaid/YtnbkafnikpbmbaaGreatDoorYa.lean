/-
  Texts in a view.
-/
import Derived.Test.YtnbkafnikpbmbaaGreatDoorVa
import Derived.Test.YtnbkafnikpbmbaaGreatDoorM4
import Derived.Test.YtnbkafnikpbmbaaGreatDoorM3
namespace Go.Proofs.YtnbkafnikpbmbaaGreatDoor.K
set_option linter.unusedSimpArgs false
set_option linter.unusedVariables false

def txtS (s : ByteArray) : ByteArray := bs (fun _ => u8 ((s.size : Nat) : Int)) 1 ++ s
theorem txtS_size (s : ByteArray) : (txtS s).size = s.size + 1 := by unfold txtS; rw [ByteArray.size_append, bs_size]; omega
theorem txtS_zero (s : ByteArray) : sb (txtS s) 0 = u8 ((s.size : Nat) : Int) := by unfold txtS; rw [sb_append, bs_size, if_pos (by omega), sb_bs (by omega)]
theorem txtS_succ (s : ByteArray) (j : Nat) : sb (txtS s) (j + 1) = sb s j := by unfold txtS; rw [sb_append, bs_size, if_neg (by omega)]; rfl
def ftBad (m : AM) (o z a k : Int) : Int := if k < 0 ∨ 255 < k then 2 else if vbyE m o z a (k + 1) ≠ 0 then vbyE m o z a (k + 1) else if k < vldV m o z a 1 then 14 else 0
def ftE (m : AM) (o z a k : Int) : Int := if ftBad m o z a k ≠ 0 then ftBad m o z a k else vbyE m o z (a + 1) (vldV m o z a 1)
def ftV (m : AM) (o z a k : Int) : ByteArray := if ftBad m o z a k ≠ 0 then ByteArray.empty else vbyS m o z (a + 1) (vldV m o z a 1)
def fpBad (m : AM) (o z a k : Int) (s : ByteArray) : Int := if k < 0 ∨ 255 < k then 2 else if k < ((s.size : Nat) : Int) then 16 else vbyE m o z a (k + 1)
def fpE (m : AM) (o z a k : Int) (s : ByteArray) : Int := if fpBad m o z a k s ≠ 0 then fpBad m o z a k s else vptE m o z a (txtS s)
def fpM (m : AM) (o z a k : Int) (s : ByteArray) : AM := if fpBad m o z a k s ≠ 0 then m else vptM m o z a (txtS s)
section
variable {m : AM} {o z a k : Int} {s : ByteArray}
theorem ft_x (h : ftBad m o z a k ≠ 0) : ByteArray.empty = ftV m o z a k ∧ ftBad m o z a k = ftE m o z a k := by unfold ftV ftE; rw [if_pos h, if_pos h]; exact ⟨rfl, rfl⟩
theorem ft_1 (h : k < 0 ∨ 255 < k) : ByteArray.empty = ftV m o z a k ∧ 2 = ftE m o z a k := by
  have e : ftBad m o z a k = 2 := by unfold ftBad; rw [if_pos h]
  have := ft_x (m := m) (o := o) (z := z) (a := a) (k := k) (by rw [e]; decide)
  rw [e] at this; exact this
theorem ft_2 (h : ¬ (k < 0 ∨ 255 < k)) (h2 : vbyE m o z a (k + 1) ≠ 0) : ByteArray.empty = ftV m o z a k ∧ vbyE m o z a (k + 1) = ftE m o z a k := by
  have e : ftBad m o z a k = vbyE m o z a (k + 1) := by unfold ftBad; rw [if_neg h, if_pos h2]
  have := ft_x (m := m) (o := o) (z := z) (a := a) (k := k) (by rw [e]; exact h2)
  rw [e] at this; exact this
theorem ft_3 (h : ¬ (k < 0 ∨ 255 < k)) (h2 : vbyE m o z a (k + 1) = 0) (h3 : k < vldV m o z a 1) : ByteArray.empty = ftV m o z a k ∧ 14 = ftE m o z a k := by
  have e : ftBad m o z a k = 14 := by unfold ftBad; rw [if_neg h, if_neg (fun q => q h2), if_pos h3]
  have := ft_x (m := m) (o := o) (z := z) (a := a) (k := k) (by rw [e]; decide)
  rw [e] at this; exact this
theorem ft_4 (h : ¬ (k < 0 ∨ 255 < k)) (h2 : vbyE m o z a (k + 1) = 0) (h3 : ¬ k < vldV m o z a 1) : vbyS m o z (a + 1) (vldV m o z a 1) = ftV m o z a k ∧ vbyE m o z (a + 1) (vldV m o z a 1) = ftE m o z a k := by
  have e : ¬ ftBad m o z a k ≠ 0 := by unfold ftBad; rw [if_neg h, if_neg (fun q => q h2), if_neg h3]; decide
  unfold ftV ftE; rw [if_neg e, if_neg e]; exact ⟨rfl, rfl⟩
theorem fp_1 (h : k < 0 ∨ 255 < k) : m = fpM m o z a k s ∧ 2 = fpE m o z a k s := by
  have e : fpBad m o z a k s = 2 := by unfold fpBad; rw [if_pos h]
  unfold fpM fpE; rw [e]; exact ⟨rfl, rfl⟩
theorem fp_2 (h : ¬ (k < 0 ∨ 255 < k)) (h2 : k < ((s.size : Nat) : Int)) : m = fpM m o z a k s ∧ 16 = fpE m o z a k s := by
  have e : fpBad m o z a k s = 16 := by unfold fpBad; rw [if_neg h, if_pos h2]
  unfold fpM fpE; rw [e]; exact ⟨rfl, rfl⟩
theorem fp_3 (h : ¬ (k < 0 ∨ 255 < k)) (h2 : ¬ k < ((s.size : Nat) : Int)) (h3 : vbyE m o z a (k + 1) ≠ 0) : m = fpM m o z a k s ∧ vbyE m o z a (k + 1) = fpE m o z a k s := by
  have e : fpBad m o z a k s = vbyE m o z a (k + 1) := by unfold fpBad; rw [if_neg h, if_neg h2]
  unfold fpM fpE; rw [e, if_pos h3, if_pos h3]; exact ⟨rfl, rfl⟩
theorem fp_4 (h : ¬ (k < 0 ∨ 255 < k)) (h2 : ¬ k < ((s.size : Nat) : Int)) (h3 : vbyE m o z a (k + 1) = 0) : vptM m o z a (txtS s) = fpM m o z a k s ∧ vptE m o z a (txtS s) = fpE m o z a k s := by
  have e : fpBad m o z a k s = 0 := by unfold fpBad; rw [if_neg h, if_neg h2, h3]
  unfold fpM fpE; rw [e]; exact ⟨rfl, rfl⟩
theorem vby_in {n : Int} (h : vbyE m o z a n = 0) : (0 ≤ a ∧ 0 ≤ n ∧ a + n ≤ z) ∧ thr m (o + a) n = true := by
  unfold vbyE at h
  split at h
  · rename_i hc; have := vch_in hc; exact ⟨by omega, thr_of h⟩
  · omega
theorem vby_yes {n : Int} (h : 0 ≤ a ∧ 0 ≤ n ∧ a + n ≤ z) (ht : thr m (o + a) n = true) : vbyE m o z a n = 0 ∧ vbyS m o z a n = bs (fun j => m.mem ((o + a).toNat + j)) n.toNat := by
  have hc : vchE z a n = 0 := (vch_yes (by omega)).symm
  unfold vbyE vbyS
  rw [if_pos hc, if_pos hc, chk_thr ht]
  unfold bytS; rw [if_pos ht]; exact ⟨rfl, rfl⟩
theorem vld1_rng (h : vbyE m o z a (k + 1) = 0) (hk : 0 ≤ k) : 0 ≤ vldV m o z a 1 ∧ vldV m o z a 1 ≤ 255 := by
  obtain ⟨r, ht⟩ := vby_in h
  rw [(vld1_at (z := z) (thr_sub ht (by omega) (by omega) (by omega)) r.1 (by omega)).1]
  have := UInt8.toNat_lt (m.mem (o + a).toNat)
  omega
/-- What is put, where there is room. -/
theorem fp_in (h : fpE m o z a k s = 0) : (0 ≤ k ∧ k ≤ 255 ∧ ((s.size : Nat) : Int) ≤ k) ∧ (0 ≤ a ∧ a + k + 1 ≤ z) ∧ thr m (o + a) (k + 1) = true ∧ fpM m o z a k s = laidM m (o + a).toNat (txtS s) := by
  by_cases h1 : k < 0 ∨ 255 < k
  · have := (fp_1 (m := m) (o := o) (z := z) (a := a) (s := s) h1).2; omega
  by_cases h2 : k < ((s.size : Nat) : Int)
  · have := (fp_2 (m := m) (o := o) (z := z) (a := a) h1 h2).2; omega
  by_cases h3 : vbyE m o z a (k + 1) = 0
  · obtain ⟨r1, ht⟩ := vby_in h3
    have hc : vchE z a (((txtS s).size : Nat) : Int) = 0 := by rw [txtS_size]; exact (vch_yes (by omega)).symm
    have ht2 : thr m (o + a) (((txtS s).size : Nat) : Int) = true := thr_sub ht (by omega) (by rw [txtS_size]; omega) (by omega)
    refine ⟨by omega, by omega, ht, ?_⟩
    rw [← (fp_4 h1 h2 h3).1, ← (vpt_2 hc).2, ← putM_yes ht2]
  · have := (fp_3 h1 h2 h3).2; omega
/-- A text that is put is told. -/
theorem txt_back (h : fpE m o z a k s = 0) (o0 : 0 ≤ o) : s = ftV (fpM m o z a k s) o z a k ∧ 0 = ftE (fpM m o z a k s) o z a k := by
  obtain ⟨b1, b2, ht, e⟩ := fp_in h
  rw [e]
  have hn : ¬ (k < 0 ∨ 255 < k) := by omega
  have ht' : thr (laidM m (o + a).toNat (txtS s)) (o + a) (k + 1) = true := ht
  have hv := vby_yes (m := laidM m (o + a).toNat (txtS s)) (o := o) (z := z) (a := a) (n := k + 1) (by omega) ht'
  have ht1 : thr (laidM m (o + a).toNat (txtS s)) (o + a) 1 = true := thr_sub ht (by omega) (by omega) (by omega)
  have hl : vldV (laidM m (o + a).toNat (txtS s)) o z a 1 = ((s.size : Nat) : Int) := by
    rw [(vld1_at ht1 b2.1 (by omega)).1]
    show (((laidF m.mem (o + a).toNat (txtS s).size (txtS s) (o + a).toNat).toNat : Nat) : Int) = _
    unfold laidF
    rw [if_pos (by rw [txtS_size]; omega), Nat.sub_self, txtS_zero]
    exact u8_toNat (by omega)
  have ht2 : thr (laidM m (o + a).toNat (txtS s)) (o + (a + 1)) ((s.size : Nat) : Int) = true := thr_sub ht (by omega) (by omega) (by omega)
  have hv2 := vby_yes (m := laidM m (o + a).toNat (txtS s)) (o := o) (z := z) (a := a + 1) (n := ((s.size : Nat) : Int)) (by omega) ht2
  obtain ⟨r1, r2⟩ := ft_4 (m := laidM m (o + a).toNat (txtS s)) (o := o) (z := z) (a := a) (k := k) hn hv.1 (by rw [hl]; omega)
  rw [← r1, ← r2, hl]
  refine ⟨?_, hv2.1.symm⟩
  rw [hv2.2, Int.toNat_natCast]
  conv => lhs; rw [← bs_sb s]
  refine bs_congr fun j hj => ?_
  show _ = laidF m.mem (o + a).toNat (txtS s).size (txtS s) ((o + (a + 1)).toNat + j)
  unfold laidF
  rw [if_pos (by rw [txtS_size]; omega), show (o + (a + 1)).toNat + j - (o + a).toNat = j + 1 by omega, txtS_succ]
end
end Go.Proofs.YtnbkafnikpbmbaaGreatDoor.K
