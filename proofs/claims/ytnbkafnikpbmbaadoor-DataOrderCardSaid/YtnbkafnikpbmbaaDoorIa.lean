/-
  What is laid in fields is told by them, plainly.
-/
import Derived.Test.YtnbkafnikpbmbaaDoorHf
namespace Go.Proofs.YtnbkafnikpbmbaaDoor.K
set_option linter.unusedSimpArgs false
set_option linter.unusedVariables false

theorem comM_zero {m : AM} (h : ∀ x, m.mem x = 0) (f n : Int) : ∀ x, (comM m f n).mem x = 0 := by
  intro x
  unfold comM
  split
  · exact h x
  · split
    · exact h x
    · show zeroP m.mem _ _ x = 0
      unfold zeroP
      split
      · rfl
      · exact h x
theorem stM_eq {m : AM} {a k x : Int} (hw : wholeB k = true) (ht : thr m a k = true) : stM m a k x = laidM m a.toNat (bs (stB x) k.toNat) := by
  obtain ⟨h1, h8⟩ := wholeB_le hw
  unfold stM putM; rw [if_pos hw, bs_size, show ((k.toNat : Nat) : Int) = k by omega, if_pos ht]
theorem ld_st {m : AM} {a k x : Int} (hw : wholeB k = true) (ht : thr m a k = true) (hx : 0 ≤ x) : ldV (stM m a k x) a k = x % 2 ^ (8 * k.toNat) := by
  obtain ⟨h1, h8⟩ := wholeB_le hw
  obtain ⟨n, rfl⟩ := Int.eq_ofNat_of_zero_le hx
  rw [stM_eq hw ht]
  have ht2 : thr (laidM m a.toNat (bs (stB (n : Int)) k.toNat)) a k = true := (thr_same (m := m) (m' := laidM m a.toNat (bs (stB (n : Int)) k.toNat)) rfl rfl a k).trans ht
  rw [← ld_v4 hw ht2, byt_laid ht2 (bs_size _ _), ldN_num (by omega) k.toNat (Nat.le_refl _)]
  rw [Int.natCast_emod, Int.natCast_pow]; rfl
theorem mem_st {m : AM} {a k x : Int} (hw : wholeB k = true) (ht : thr m a k = true) {y : Nat} (hy : (y : Int) < a ∨ a + k ≤ (y : Int)) : (stM m a k x).mem y = m.mem y := by
  obtain ⟨h1, h8⟩ := wholeB_le hw
  obtain ⟨g1, _⟩ := inB_facts (thr_in ht)
  rw [stM_eq hw ht]
  show laidF m.mem a.toNat _ _ y = _
  unfold laidF
  rw [bs_size, if_neg (by omega)]
theorem ld_mem {m m' : AM} {a k : Int} (hc : m'.cap = m.cap) (hm : m'.com = m.com) (h : ∀ y : Nat, a ≤ (y : Int) → (y : Int) < a + k → m'.mem y = m.mem y) : ldV m' a k = ldV m a k := by
  unfold ldV
  rw [thr_same hc hm]
  cases ht : thr m a k with
  | false => simp
  | true =>
    have hb : bytS m' a k = bytS m a k := by
      obtain ⟨g1, _⟩ := inB_facts (thr_in ht)
      unfold bytS
      rw [thr_same hc hm, ht]
      exact bs_congr fun j hj => h _ (by omega) (by omega)
    rw [hb]
theorem stM_com (m : AM) (a k x : Int) : (stM m a k x).cap = m.cap ∧ (stM m a k x).com = m.com := by
  have hp : ∀ (a : Int) (s : ByteArray), (putM m a s).cap = m.cap ∧ (putM m a s).com = m.com := fun a s => by
    unfold putM
    split
    · exact ⟨rfl, rfl⟩
    · exact ⟨rfl, rfl⟩
  unfold stM
  split
  · exact hp _ _
  · exact ⟨rfl, rfl⟩
theorem ld_far {m : AM} {a k x a' k' : Int} (hw : wholeB k = true) (ht : thr m a k = true) (h : a' + k' ≤ a ∨ a + k ≤ a') : ldV (stM m a k x) a' k' = ldV m a' k' := by
  obtain ⟨h1, h8⟩ := wholeB_le hw
  exact ld_mem (stM_com _ _ _ _).1 (stM_com _ _ _ _).2 fun y y1 y2 => mem_st hw ht (by omega)
theorem okw_whole {w : Int} (h : w = 1 ∨ w = 2 ∨ w = 4 ∨ w = 8) : wholeB w = true := by rcases h with rfl | rfl | rfl | rfl <;> rfl

/-- A view with room for a record. -/
structure RecV (l : List Int) (m : AM) (o z : Int) : Prop where
  ok : okW l
  there : thr m o z = true
  room : sumT l l.length ≤ z
namespace RecV
variable {l : List Int} {m : AM} {o z i x : Int}
theorem same {m' : AM} (h : RecV l m o z) (h1 : m'.cap = m.cap) (h2 : m'.com = m.com) : RecV l m' o z := ⟨h.ok, (thr_same h1 h2 o z).trans h.there, h.room⟩
theorem fld (h : RecV l m o z) (hi : hasW l i = true) : wholeB (l.getD i.toNat 0) = true ∧ 0 ≤ sumT l i.toNat ∧ sumT l i.toNat + l.getD i.toNat 0 ≤ z ∧ 1 ≤ l.getD i.toNat 0 ∧ atW l i = sumT l i.toNat := by
  have hh := hasW_in hi
  have h1 := okW_at h.ok (i := i.toNat) (by omega)
  have h2 := sumT_bd h.ok i.toNat
  have h3 := sumT_mono h.ok (i := i.toNat) (n := l.length) (by omega)
  exact ⟨okw_whole h1, h2.1, by have := h.room; omega, by omega, (atW_in hh).symm⟩
theorem at_ (h : RecV l m o z) (hi : hasW l i = true) : thr m (o + sumT l i.toNat) (l.getD i.toNat 0) = true ∧ vchE z (atW l i) (l.getD i.toNat 0) = 0 := by
  obtain ⟨f1, f2, f3, f4, f5⟩ := h.fld hi
  refine ⟨thr_sub h.there (by omega) (by omega) (by omega), ?_⟩
  rw [f5]; exact (vch_yes (by omega)).symm
theorem get (h : RecV l m o z) (hi : hasW l i = true) : getW l m o z i = ldV m (o + sumT l i.toNat) (l.getD i.toNat 0) := by
  obtain ⟨f1, f2, f3, f4, f5⟩ := h.fld hi
  obtain ⟨a1, a2⟩ := h.at_ hi
  unfold getW vldV
  rw [hi, if_pos rfl, f1, if_pos rfl, if_pos a2, f5]
theorem set (h : RecV l m o z) (hi : hasW l i = true) (hf : fitW (l.getD i.toNat 0) x = true) : setM l m o z i x = stM m (o + sumT l i.toNat) (l.getD i.toNat 0) x ∧ setE l m o z i x = 0 := by
  obtain ⟨f1, f2, f3, f4, f5⟩ := h.fld hi
  obtain ⟨a1, a2⟩ := h.at_ hi
  unfold setM setE vstM vstE stE
  rw [hi, if_pos rfl, if_pos rfl, hf, if_pos rfl, if_pos rfl, f1, if_pos rfl, if_pos rfl, if_pos a2, if_pos a2, f5, if_pos rfl, chk_thr a1]
  exact ⟨rfl, rfl⟩
theorem fit_mod {w : Int} (hw : w = 1 ∨ w = 2 ∨ w = 4 ∨ w = 8) (hx : 0 ≤ x ∧ x ≤ 18446744073709551615) (hf : fitW w x = true) : x % 2 ^ (8 * w.toNat) = x := by
  unfold fitW at hf
  rcases hw with rfl | rfl | rfl | rfl
  · have e : (8 * (1 : Int)).toNat = 8 := rfl
    simp [e] at hf
    show x % 2 ^ 8 = x
    omega
  · have e : (8 * (2 : Int)).toNat = 16 := rfl
    simp [e] at hf
    show x % 2 ^ 16 = x
    omega
  · have e : (8 * (4 : Int)).toNat = 32 := rfl
    simp [e] at hf
    show x % 2 ^ 32 = x
    omega
  · show x % 2 ^ 64 = x
    omega
theorem get_same (h : RecV l m o z) (hi : hasW l i = true) (hf : fitW (l.getD i.toNat 0) x = true) (hx : 0 ≤ x ∧ x ≤ 18446744073709551615) : getW l (setM l m o z i x) o z i = x := by
  obtain ⟨f1, _⟩ := h.fld hi
  obtain ⟨a1, _⟩ := h.at_ hi
  have hh := hasW_in hi
  have h2 := h.same (setM_com l m o z i x).1 (setM_com l m o z i x).2
  rw [h2.get hi, (h.set hi hf).1, ld_st f1 a1 hx.1]
  exact fit_mod (okW_at h.ok (by omega)) hx hf
theorem get_other (h : RecV l m o z) {j : Int} (hj : hasW l j = true) (hij : j ≠ i) : getW l (setM l m o z i x) o z j = getW l m o z j := by
  have h2 := h.same (setM_com l m o z i x).1 (setM_com l m o z i x).2
  cases hi : hasW l i with
  | false => rw [← set_4 (m := m) (o := o) (z := z) (x := x) hi]
  | true =>
    cases hf : fitW (l.getD i.toNat 0) x with
    | false => rw [← set_5 (m := m) (o := o) (z := z) hf]
    | true =>
      obtain ⟨f1, f2, f3, f4, _⟩ := h.fld hi
      obtain ⟨a1, _⟩ := h.at_ hi
      have hh := hasW_in hi
      have hh2 := hasW_in hj
      rw [h2.get hj, h.get hj, (h.set hi hf).1]
      refine ld_far f1 a1 ?_
      rcases Int.lt_or_le j i with h3 | h3
      · left; have := sumT_mono h.ok (i := j.toNat) (n := i.toNat) (by omega); omega
      · right; have := sumT_mono h.ok (i := i.toNat) (n := j.toNat) (by omega); omega
theorem put_get (h : RecV l m o z) {nums : Nat → Nat} (hn : ∀ i, i < l.length → nums i ≤ 18446744073709551615) : ∀ k, k ≤ l.length → fitA l nums k = true → ∀ j : Nat, j < k → getW l (putA l o z nums m k) o z (j : Int) = ((nums j : Nat) : Int)
  | 0, _, _, j, hj => absurd hj (by omega)
  | k + 1, hk, hf, j, hj => by
    have hs := h.same (putA_com l o z nums m k).1 (putA_com l o z nums m k).2
    have hf' : fitA l nums k = true ∧ fitW (l.getD k 0) ((nums k : Nat) : Int) = true := by
      have : (fitA l nums k && fitW (l.getD k 0) ((nums k : Nat) : Int)) = true := hf
      simpa using this
    have hnk := hn k (by omega)
    have hhas : ∀ q : Nat, q < l.length → hasW l (q : Int) = true := fun q hq => by unfold hasW; simp; omega
    show getW l (setM l (putA l o z nums m k) o z (k : Int) ((nums k : Nat) : Int)) o z (j : Int) = _
    by_cases e : j = k
    · subst e
      exact hs.get_same (hhas j (by omega)) (by rw [Int.toNat_natCast]; exact hf'.2) (by omega)
    · rw [hs.get_other (hhas j (by omega)) (by omega)]
      exact put_get h hn k (by omega) hf'.1 j (by omega)
theorem zero (h : RecV l m o z) (hm : ∀ x, m.mem x = 0) (hi : hasW l i = true) : getW l m o z i = 0 := by
  obtain ⟨f1, _⟩ := h.fld hi
  obtain ⟨a1, _⟩ := h.at_ hi
  obtain ⟨g1, g8⟩ := wholeB_le f1
  rw [h.get hi, ← ld_v4 f1 a1]
  unfold bytS
  rw [a1, if_pos rfl]
  have e : bs (fun j => m.mem ((o + sumT l i.toNat).toNat + j)) (l.getD i.toNat 0).toNat = bs (stB ((0 : Nat) : Int)) (l.getD i.toNat 0).toNat := bs_congr fun j hj => by
    rw [hm]
    apply UInt8.toNat_inj.1
    rw [stB_nat]; simp
  rw [e, ldN_num (by omega) _ (Nat.le_refl _)]; simp
theorem vb0 (h : RecV l m o z) (hz : z ≤ z) : vbyE m o z 0 (sumT l l.length) = 0 := by
  have hb := sumT_bd h.ok l.length
  have hr := h.room
  have e : vchE z 0 (sumT l l.length) = 0 := (vch_yes (by omega)).symm
  unfold vbyE
  rw [if_pos e, chk_thr (thr_sub h.there (by omega) (by omega) hb.1)]
end RecV
theorem pR_bad {l : List Int} {m : AM} {o z : Int} {nums : Nat → Nat} (h : RecV l m o z) (he : pRE l l.length nums m o z ≠ 0) : pRE l l.length nums m o z = 16 ∧ pRM l l.length nums m o z = m := by
  have hv := h.vb0 (Int.le_refl _)
  have hn : ¬ l.length ≠ l.length := fun q => q rfl
  cases hf : fitA l nums l.length with
  | false => unfold pRE pRM; rw [if_neg hn, if_neg hn, hf]; exact ⟨rfl, rfl⟩
  | true =>
    exfalso; apply he
    unfold pRE; rw [if_neg hn, hf, if_pos rfl, hv]
theorem pR_good {l : List Int} {m : AM} {o z : Int} {nums : Nat → Nat} (h : RecV l m o z) (he : pRE l l.length nums m o z = 0) : fitA l nums l.length = true ∧ pRM l l.length nums m o z = putA l o z nums m l.length := by
  have hv := h.vb0 (Int.le_refl _)
  have hn : ¬ l.length ≠ l.length := fun q => q rfl
  cases hf : fitA l nums l.length with
  | false => exfalso; unfold pRE at he; rw [if_neg hn, hf] at he; simp at he
  | true => unfold pRM; rw [if_neg hn, hf, if_pos rfl, if_pos hv]; exact ⟨rfl, rfl⟩
theorem field_back0 {l : List Int} {m : AM} {o z : Int} {nums : Nat → Nat} (h : RecV l m o z) (hn : ∀ i, i < l.length → nums i ≤ 18446744073709551615) (hp : pRE l l.length nums m o z = 0) : ∀ j : Nat, j < l.length → getW l (pRM l l.length nums m o z) o z (j : Int) = ((nums j : Nat) : Int) := by
  obtain ⟨hf, e⟩ := pR_good h hp
  intro j hj
  rw [e]
  exact h.put_get hn l.length (Nat.le_refl _) hf j hj
end Go.Proofs.YtnbkafnikpbmbaaDoor.K
