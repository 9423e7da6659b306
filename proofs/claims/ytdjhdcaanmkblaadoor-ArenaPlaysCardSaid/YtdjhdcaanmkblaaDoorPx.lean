/-
  The document's arena is the arena, page by page: what is laid, filled, copied, stored, committed and given back.
-/
import Derived.Test.YtdjhdcaanmkblaaDoorTa
import Derived.Test.YtdjhdcaanmkblaaDoorM3
namespace Go.Proofs.YtdjhdcaanmkblaaDoor.K
set_option linter.unusedSimpArgs false
set_option linter.unusedVariables false

theorem extS_bs (s : ByteArray) {x y : Nat} (h : x ≤ y) (h2 : y ≤ s.size) : s.extract x y = bs (fun o => sb s (x + o)) (y - x) := by
  have hs : (s.extract x y).size = y - x := by rw [ByteArray.size_extract]; omega
  rw [← bs_sb (s.extract x y), hs]
  exact bs_congr fun o ho => sb_extract2 s (by omega) h2
/-- So many bytes of a text are laid. -/
def layM (m : AM) (a j : Nat) (s : ByteArray) : AM := ⟨m.cap, m.com, laidF m.mem a j s, m.armed, m.refuse⟩
theorem layM_0 (m : AM) (a : Nat) (s : ByteArray) : layM m a 0 s = m := by unfold layM; rw [← laidF_zero]
theorem layM_put {m : AM} {a : Int} {s : ByteArray} (h : thr m a ((s.size : Nat) : Int) = true) : layM m a.toNat s.size s = putM m a s := putM_yes h
theorem pgS_lay {m : AM} {a0 j p : Nat} {s : ByteArray} (hc : m.com p = true) : pgS (layM m a0 j s) p = bs (fun o => laidF m.mem a0 j s (4096 * p + o)) 4096 := by
  unfold pgS layM; rw [if_pos hc]
theorem lay_page {m : AM} {a0 j k q p : Nat} {s : ByteArray} (hA : a0 + j = 4096 * p + q) (hq : q + k ≤ 4096) (hk : j + k ≤ s.size) (hc : m.com p = true) :
    ((pgS (layM m a0 j s) p).extract 0 q ++ (s.extract j s.size).extract 0 k) ++ (pgS (layM m a0 j s) p).extract (q + k) (pgS (layM m a0 j s) p).size = pgS (layM m a0 (j + k) s) p := by
  have hP := pgS_lay (a0 := a0) (j := j) (s := s) hc
  have hsz : (pgS (layM m a0 j s) p).size = 4096 := by rw [hP, bs_size]
  have e1 : (pgS (layM m a0 j s) p).extract 0 q = bs (fun o => laidF m.mem a0 (j + k) s (4096 * p + o)) q := by
    rw [extS_bs (pgS (layM m a0 j s) p) (x := 0) (y := q) (by omega) (by omega), Nat.sub_zero]
    refine bs_congr fun o ho => ?_
    rw [Nat.zero_add, hP]
    refine (sb_bs (n := 4096) (i := o) (by omega)).trans ?_
    unfold laidF
    by_cases h : a0 ≤ 4096 * p + o ∧ 4096 * p + o < a0 + j
    · rw [if_pos h, if_pos (by omega)]
    · rw [if_neg h, if_neg (by omega)]
  have hss : (s.extract j s.size).size = s.size - j := by rw [ByteArray.size_extract]; omega
  have e2 : (s.extract j s.size).extract 0 k = bs (fun o => laidF m.mem a0 (j + k) s (4096 * p + (q + o))) k := by
    rw [extS_bs (s.extract j s.size) (x := 0) (y := k) (by omega) (by omega), Nat.sub_zero]
    refine bs_congr fun o ho => ?_
    rw [Nat.zero_add]
    refine (sb_extract2 s (q := j) (q2 := s.size) (j := o) (by omega) (Nat.le_refl _)).trans ?_
    unfold laidF
    rw [if_pos (by omega)]
    congr 1; omega
  have e3 : (pgS (layM m a0 j s) p).extract (q + k) (pgS (layM m a0 j s) p).size = bs (fun o => laidF m.mem a0 (j + k) s (4096 * p + (q + k + o))) (4096 - q - k) := by
    rw [extS_bs (pgS (layM m a0 j s) p) (x := q + k) (y := (pgS (layM m a0 j s) p).size) (by omega) (by omega), hsz, show 4096 - (q + k) = 4096 - q - k by omega]
    refine bs_congr fun o ho => ?_
    rw [hP]
    refine (sb_bs (n := 4096) (i := q + k + o) (by omega)).trans ?_
    unfold laidF
    by_cases h : a0 ≤ 4096 * p + (q + k + o) ∧ 4096 * p + (q + k + o) < a0 + j
    · omega
    · rw [if_neg h, if_neg (by omega)]
  rw [e1, e2, e3]
  have b1 := bs_add (fun o => laidF m.mem a0 (j + k) s (4096 * p + o)) q k
  have b2 := bs_add (fun o => laidF m.mem a0 (j + k) s (4096 * p + o)) (q + k) (4096 - q - k)
  rw [b1, b2, pgS_lay hc, show q + k + (4096 - q - k) = 4096 by omega]
theorem lay_with {m : AM} {a0 j k q p : Nat} {s T : ByteArray} (hA : a0 + j = 4096 * p + q) (hq : q + k ≤ 4096) (hk : j + k ≤ s.size) (hc : m.com p = true)
    (hT : T = ((pgS (layM m a0 j s) p).extract 0 q ++ (s.extract j s.size).extract 0 k) ++ (pgS (layM m a0 j s) p).extract (q + k) (pgS (layM m a0 j s) p).size) (L : Nat → ByteArray) (hL : L 0 = T) (i : Nat) : withF (pgS (layM m a0 j s)) p 1 L i = pgS (layM m a0 (j + k) s) i := by
  unfold withF
  by_cases h : p ≤ i ∧ i < p + 1
  · obtain rfl : i = p := by omega
    rw [if_pos h, Nat.sub_self, hL, hT]
    exact lay_page hA hq hk hc
  · rw [if_neg h]
    unfold pgS layM
    dsimp only
    by_cases h2 : m.com i = true
    · rw [if_pos h2, if_pos h2]
      refine bs_congr fun o ho => ?_
      unfold laidF
      by_cases h3 : a0 ≤ 4096 * i + o ∧ 4096 * i + o < a0 + j
      · rw [if_pos h3, if_pos (by omega)]
      · rw [if_neg h3, if_neg (by omega)]
    · rw [if_neg h2, if_neg h2]
theorem memS_pg {m : AM} {x : Nat} (hc : m.com (x / 4096) = true) : memS (pgS m) x = m.mem x := by
  unfold memS pgS
  rw [if_pos hc, sb_bs (by omega)]
  congr 1; omega
theorem rBy_pg (m : AM) (a k : Int) : rBy (pgS m) m.cap a k = bytS m a k := by
  unfold rBy bytS
  rw [thr_pgS]
  cases h : thr m a k with
  | false => rfl
  | true =>
    rw [if_pos rfl, if_pos rfl]
    have hf := inB_facts (thr_in h)
    refine bs_congr fun o ho => memS_pg ?_
    have := (thr_page h (x := a + (o : Int)) (by omega) (by omega)).2
    rwa [show Int.toNat ((a + (o : Int)) / 4096) = (a.toNat + o) / 4096 by omega] at this
theorem put_fil {m : AM} {a n : Int} {c : UInt8} (h : thr m a n = true) : putM m a (bs (fun _ => c) n.toNat) = filM m a n c := by
  have hf := inB_facts (thr_in h)
  unfold putM filM
  rw [bs_size, Int.toNat_of_nonneg hf.2.1, h]
  simp only [if_true]
  unfold laidM filA
  congr 1
  funext x
  unfold laidF filF
  rw [bs_size]
  by_cases h2 : a.toNat ≤ x ∧ x < a.toNat + n.toNat
  · rw [if_pos h2, if_pos h2, sb_bs (by omega)]
  · rw [if_neg h2, if_neg h2]
theorem fil_no {m : AM} {a n : Int} {c : UInt8} (h : thr m a n = false) : m = filM m a n c := by unfold filM; rw [h]; rfl
theorem num_stB (v : Int) : ∀ k, numB v k = bs (stB v) k
  | 0 => rfl
  | k + 1 => by
    unfold numB
    rw [num_stB v k, ← bs_add (stB v) k 1]
    congr 1
    refine bs_congr fun o ho => ?_
    obtain rfl : o = 0 := by omega
    show u8 _ = stB v (k + 0)
    unfold stB
    congr 1
    have e : (2 : Int) ^ Int.toNat (8 * ((k + 0 : Nat) : Int)) = 256 ^ k := by
      rw [show Int.toNat (8 * ((k + 0 : Nat) : Int)) = 8 * k by omega, Int.pow_mul]; rfl
    rw [e]
    generalize v / 256 ^ k = y
    rw [IntKind.wrap_u8, IntKind.wrap_u8]
    omega
theorem ext_more {s sx : ByteArray} {n1 k n2 : Nat} (h : sx = s.extract n1 s.size) (hk : n1 + k ≤ s.size) (h2 : n1 + k = n2) : sx.extract k sx.size = s.extract n2 s.size := by
  have hs : sx.size = s.size - n1 := by rw [h, ByteArray.size_extract]; omega
  have := ext_step h hk h2
  rwa [show min sx.size k = k by omega] at this
theorem lay_next {m : AM} {A : Nat} {a x K : Int} {s sx T : ByteArray} {L : Nat → ByteArray} (h0 : 0 ≤ a) (hA : A = a.toNat) (hx : a ≤ x) (h1 : 1 ≤ K) (hK : K ≤ 4096 - x % 4096) (i1 : sx = s.extract (x - a).toNat s.size) (hs : (x - a) + K ≤ (s.size : Int)) (hc : m.com (x / 4096).toNat = true)
    (hT : T = ((pgS (layM m A (x - a).toNat s) (x / 4096).toNat).extract 0 (x % 4096).toNat ++ sx.extract 0 K.toNat) ++ (pgS (layM m A (x - a).toNat s) (x / 4096).toNat).extract (x % 4096 + K).toNat (pgS (layM m A (x - a).toNat s) (x / 4096).toNat).size) (hL : L 0 = T) (u o : Nat) : strs (withF (pgS (layM m A (x - a).toNat s)) (x / 4096).toNat 1 L) u o = strs (pgS (layM m A (x + K - a).toNat s)) u o := by
  subst hA
  unfold strs
  rw [lay_with (q := (x % 4096).toNat) (k := K.toNat) (by omega) (by omega) (by omega) hc (by rw [hT, ← i1, show (x % 4096 + K).toNat = (x % 4096).toNat + K.toNat by omega]) L hL, show (x - a).toNat + K.toNat = (x + K - a).toNat by omega]
/-! ## Refusals -/
def rfA (m : AM) : Int := if m.armed then (m.refuse : Int) else -1
theorem rfA_rng (m : AM) : -1 ≤ rfA m := by unfold rfA; split <;> omega
section
variable {m : AM} {f k : Int}
theorem wrg_com (m : AM) (f k : Int) : wrgE (pgS m) m.cap f k false 9 = if rowE m f k ≠ 0 then rowE m f k else if 0 < rowC m f k then 9 else 0 := by
  unfold wrgE
  by_cases h1 : k < 1
  · rw [if_pos h1, if_pos (by rw [rowE_lt h1]; decide), rowE_lt h1]
  · rw [if_neg h1]
    have hE := rowE_ge (m := m) (f := f) (n := k) (by omega)
    have hC := rowC_ge (m := m) (f := f) (n := k) (by omega)
    cases hw : wth m.cap f k with
    | false => rw [hE, (trnE_no hw).symm]; rfl
    | true =>
      rw [hE, (trnE_yes hw).symm, hC, cntV_yes hw]
      simp only [if_true, ne_eq, not_true_eq_false, if_false]
      by_cases hs : sameSo (pgS m) false f.toNat k.toNat = true
      · have hz : cntR m.com f.toNat k.toNat = 0 := cntR_none fun x a b => by
          have := of_decide_eq_true hs (x - f.toNat) (by omega)
          rw [there_pgS, show f.toNat + (x - f.toNat) = x by omega] at this
          exact this
        rw [if_pos hs, hz]; rfl
      · rw [if_neg hs, if_pos]
        rcases Nat.eq_zero_or_pos (cntR m.com f.toNat k.toNat) with h0 | h0
        · exact absurd (decide_eq_true fun i hi => by rw [there_pgS]; exact cntR_zero k.toNat f.toNat h0 _ (by omega) (by omega)) hs
        · omega
theorem wrg_c1 (h : rowE m f k ≠ 0) : wrgE (pgS m) m.cap f k false 9 = rowE m f k := by rw [wrg_com, if_pos h]
theorem wrg_c2 (h : rowE m f k = 0) (h2 : 0 < rowC m f k) : wrgE (pgS m) m.cap f k false 9 = 9 := by rw [wrg_com, if_neg (fun q => q h), if_pos h2]
theorem wrg_c3 (h : rowE m f k = 0) (h2 : ¬ 0 < rowC m f k) : wrgE (pgS m) m.cap f k false 9 = 0 := by rw [wrg_com, if_neg (fun q => q h), if_neg h2]
theorem wrg_dec (m : AM) (f k : Int) : wrgE (pgS m) m.cap f k true 8 = decE m f k := by
  unfold wrgE decE
  by_cases h1 : k < 1
  · rw [if_pos h1, if_pos (by rw [rowE_lt h1]; decide), rowE_lt h1]
  · rw [if_neg h1]
    have hE := rowE_ge (m := m) (f := f) (n := k) (by omega)
    have hC := rowC_ge (m := m) (f := f) (n := k) (by omega)
    cases hw : wth m.cap f k with
    | false => rw [hE, (trnE_no hw).symm]; rfl
    | true =>
      rw [hE, (trnE_yes hw).symm, hC, cntV_yes hw]
      simp only [if_true, ne_eq, not_true_eq_false, if_false]
      have hle := cntR_le m.com k.toNat f.toNat
      by_cases hs : sameSo (pgS m) true f.toNat k.toNat = true
      · have hz : cntR m.com f.toNat k.toNat = k.toNat := by
          have := cntR_all (b := true) (p := m.com) k.toNat f.toNat fun x a b => by
            have := of_decide_eq_true hs (x - f.toNat) (by omega)
            rw [there_pgS, show f.toNat + (x - f.toNat) = x by omega] at this
            exact this
          simpa using this
        rw [if_pos hs, hz, if_neg (by omega)]
      · rw [if_neg hs, if_pos]
        rcases Nat.lt_or_ge (cntR m.com f.toNat k.toNat) k.toNat with h0 | h0
        · omega
        · exact absurd (decide_eq_true fun i hi => by rw [there_pgS]; exact cntR_full k.toNat f.toNat (by omega) _ (by omega) (by omega)) hs
theorem dec_pg (m : AM) (f k : Int) (i : Nat) : rdecS (pgS m) m.cap f k i = pgS (decM m f k) i := by
  unfold rdecS
  rw [wrg_dec]
  by_cases h : decE m f k = 0
  · rw [if_pos h]
    have hr : rowE m f k = 0 ∧ k ≤ rowC m f k := by
      unfold decE at h
      split at h
      · omega
      · split at h
        · omega
        · omega
    rw [← dec_yes hr.1 hr.2]
    unfold withF pgS
    by_cases h2 : f.toNat ≤ i ∧ i < f.toNat + k.toNat
    · rw [if_pos h2]; symm
      exact if_neg (fun q => by have q : setR m.com f.toNat k.toNat false i = true := q; unfold setR at q; rw [if_pos h2] at q; cases q)
    · have e : setR m.com f.toNat k.toNat false i = m.com i := by unfold setR; rw [if_neg h2]
      rw [if_neg h2]
      by_cases h6 : m.com i = true
      · rw [if_pos h6]; symm; exact if_pos (e.trans h6)
      · rw [if_neg h6]; symm; exact if_neg (fun q => h6 (e.symm.trans q))
  · rw [if_neg h, ← dec_no]
    unfold decE at h
    split at h
    · rename_i q; exact .inl q
    · split at h
      · rename_i q; exact .inr q
      · exact absurd rfl h
theorem rfA_0 (ha : m.armed = true) (hr : m.refuse = 0) : rfA m = 0 := by unfold rfA; rw [ha, hr]; rfl
theorem rfA_n (h : ¬ (m.armed = true ∧ m.refuse = 0)) : rfA m ≠ 0 := by
  unfold rfA
  cases h4 : m.armed with
  | false => simp
  | true => simp only [if_true]; intro q; exact h ⟨h4, by omega⟩
theorem com_pgE (m : AM) (f k : Int) : rcE (pgS m) m.cap f k (rfA m) = comE m f k := by
  unfold rcE
  by_cases h1 : rowE m f k = 0
  · by_cases h2 : 0 < rowC m f k
    · rw [wrg_c2 h1 h2, if_pos (by decide), com_e2 h1 h2]
    · rw [wrg_c3 h1 h2, if_neg (fun q => q rfl)]
      by_cases h3 : m.armed = true ∧ m.refuse = 0
      · rw [if_pos (rfA_0 h3.1 h3.2), com_e3 h1 (by omega) h3.1 h3.2]
      · rw [if_neg (rfA_n h3), com_e4 h1 (by omega) h3]
  · rw [wrg_c1 h1, if_pos h1, com_e1 h1]
theorem com_pgR (m : AM) (f k : Int) : rcR (pgS m) m.cap f k (rfA m) = rfA (comM m f k) := by
  unfold rcR
  by_cases h1 : rowE m f k = 0
  · by_cases h2 : 0 < rowC m f k
    · rw [wrg_c2 h1 h2, if_pos (by decide), ← com_no (.inr h2)]
    · rw [wrg_c3 h1 h2, if_neg (fun q => q rfl)]
      by_cases h3 : m.armed = true ∧ m.refuse = 0
      · have hm : comM m f k = { m with armed := false } := by unfold comM; rw [if_neg (by omega), if_pos h3]
        rw [hm]; unfold rfA; rw [h3.1, h3.2]; rfl
      · rw [← com_yes h1 (by omega) h3]
        unfold rfA
        cases h4 : m.armed with
        | false => simp
        | true =>
          have h5 : m.refuse ≠ 0 := fun q => h3 ⟨h4, q⟩
          simp only [if_true]
          rw [if_neg (by omega), if_pos (by omega)]
          omega
  · rw [wrg_c1 h1, if_pos h1, ← com_no (.inl h1)]
theorem com_pg (m : AM) (f k : Int) (i : Nat) : rcS (pgS m) m.cap f k (rfA m) i = pgS (comM m f k) i := by
  unfold rcS
  by_cases h1 : rowE m f k = 0
  · by_cases h2 : 0 < rowC m f k
    · rw [wrg_c2 h1 h2, if_pos (by decide), ← com_no (.inr h2)]
    · rw [wrg_c3 h1 h2, if_neg (fun q => q rfl)]
      by_cases h3 : m.armed = true ∧ m.refuse = 0
      · have hm : comM m f k = { m with armed := false } := by unfold comM; rw [if_neg (by omega), if_pos h3]
        rw [hm, if_pos (by unfold rfA; rw [h3.1, h3.2]; rfl)]; rfl
      · have h0 : rfA m ≠ 0 := by
          unfold rfA
          cases h4 : m.armed with
          | false => simp
          | true => simp only [if_true]; intro q; exact h3 ⟨h4, by omega⟩
        rw [if_neg h0, ← com_yes h1 (by omega) h3]
        unfold withF pgS
        by_cases h5 : f.toNat ≤ i ∧ i < f.toNat + k.toNat
        · rw [if_pos h5]; symm
          refine (if_pos (show setR m.com f.toNat k.toNat true i = true by unfold setR; rw [if_pos h5])).trans ?_
          exact bs_congr fun o ho => by show zeroP m.mem f.toNat k.toNat (4096 * i + o) = 0; unfold zeroP; rw [if_pos (by omega)]
        · have e : setR m.com f.toNat k.toNat true i = m.com i := by unfold setR; rw [if_neg h5]
          rw [if_neg h5]
          by_cases h6 : m.com i = true
          · rw [if_pos h6]; symm
            refine (if_pos (e.trans h6)).trans ?_
            exact bs_congr fun o ho => by show zeroP m.mem f.toNat k.toNat (4096 * i + o) = _; unfold zeroP; rw [if_neg (by omega)]
          · rw [if_neg h6]; symm; exact if_neg (fun q => h6 (e.symm.trans q))
  · rw [wrg_c1 h1, if_pos h1, ← com_no (.inl h1)]
end
theorem put_up {f : Nat → UInt8} {c x : Int} (h : ∀ j : Nat, (j : Int) < x → f j = u8 c) (h0 : 0 ≤ x) : ∀ j : Nat, (j : Int) < x + 1 → putF f x.toNat (u8 c) j = u8 c := fun j hj => by
  unfold putF
  by_cases e : j = x.toNat
  · rw [if_pos e]
  · rw [if_neg e]; exact h j (by omega)
theorem thr_of_chk {m : AM} {a k : Int} (h : chkE m a k = 0) : thr m a k = true := by
  unfold chkE at h
  cases ht : thr m a k with
  | true => rfl
  | false => rw [ht] at h; exact absurd h (by decide)
theorem stE_w {m : AM} {a k : Int} (h : wholeB k = true) : stE m a k = chkE m a k := by unfold stE; rw [h]; rfl
/-! ## Numbers that are loaded -/
def leN (s : ByteArray) : Nat → Nat
  | 0 => 0
  | i + 1 => leN s i + (sb s i).toNat * 256 ^ i
theorem leN_lt (s : ByteArray) : ∀ i, leN s i < 256 ^ i
  | 0 => by simp [leN]
  | i + 1 => by
    have ih := leN_lt s i
    have hb : (sb s i).toNat < 256 := (sb s i).toNat_lt
    unfold leN
    have : ((sb s i).toNat + 1) * 256 ^ i ≤ 256 * 256 ^ i := Nat.mul_le_mul_right _ (by omega)
    rw [Nat.add_mul, Nat.one_mul] at this
    rw [Nat.pow_succ, Nat.mul_comm (256 ^ i) 256]
    omega
theorem leN_div (s : ByteArray) : ∀ n i, i < n → leN s n / 256 ^ i % 256 = (sb s i).toNat
  | 0, _, h => absurd h (Nat.not_lt_zero _)
  | n + 1, i, h => by
    have hb : (sb s n).toNat < 256 := (sb s n).toNat_lt
    unfold leN
    by_cases e : i = n
    · subst e
      rw [Nat.add_mul_div_right _ _ (Nat.pow_pos (by decide)), Nat.div_eq_of_lt (leN_lt s i), Nat.zero_add, Nat.mod_eq_of_lt hb]
    · have hi : i < n := by omega
      have ih := leN_div s n i hi
      have hp : 256 ^ n = 256 ^ (n - i - 1) * 256 * 256 ^ i := by
        rw [← Nat.pow_succ, ← Nat.pow_add]; congr 1; omega
      rw [hp, ← Nat.mul_assoc, Nat.add_mul_div_right _ _ (Nat.pow_pos (by decide)), ← Nat.mul_assoc, Nat.add_mul_mod_self_right]
      exact ih
theorem le_stB {s : ByteArray} {n i : Nat} (h : i < n) : sb s i = stB ((leN s n : Nat) : Int) i := by
  apply UInt8.toNat_inj.1
  rw [stB_nat, Nat.pow_mul, leN_div s n i h]
theorem ldN_le {s : ByteArray} (h : s.size ≤ 8) : ldN s s.size = ((leN s s.size : Nat) : Int) := by
  have e : s = bs (stB ((leN s s.size : Nat) : Int)) s.size := (bs_sb s).symm.trans (bs_congr fun i hi => le_stB hi)
  have := ldN_num (v := leN s s.size) h s.size (Nat.le_refl _)
  rw [← e] at this
  rw [this, Nat.mod_eq_of_lt]
  rw [Nat.pow_mul]; exact leN_lt s s.size
theorem rLdN_le {s : ByteArray} (h : s.size ≤ 8) : ∀ j, j ≤ s.size → rLdN s j = ((leN s s.size / 256 ^ (s.size - j) : Nat) : Int)
  | 0, _ => by
    rw [Nat.sub_zero, Nat.div_eq_of_lt (leN_lt s s.size)]; rfl
  | j + 1, hj => by
    have ih := rLdN_le h j (by omega)
    unfold rLdN
    rw [ih]
    have hv := leN_lt s s.size
    have h8 : 256 ^ s.size ≤ 256 ^ 8 := Nat.pow_le_pow_right (by decide) h
    have hn : s.size - j = (s.size - (j + 1)) + 1 := by omega
    have hd := leN_div s s.size (s.size - (j + 1)) (by omega)
    have hbat : bat s ((s.size : Int) - 1 - (j : Int)) = (((sb s (s.size - (j + 1))).toNat : Nat) : Int) := by
      unfold bat sb
      rw [show ((s.size : Int) - 1 - (j : Int)).toNat = s.size - (j + 1) by omega]
    rw [hbat, ← hd, hn, Nat.pow_succ, ← Nat.div_div_eq_div_mul]
    generalize hy : leN s s.size / 256 ^ (s.size - (j + 1)) = y
    have hyl : y ≤ leN s s.size := by rw [← hy]; exact Nat.div_le_self _ _
    have e64 : (256 : Nat) ^ 8 = 18446744073709551616 := by decide
    have e1 : IntKind.u64.wrap (256 * ((y / 256 : Nat) : Int)) = 256 * ((y / 256 : Nat) : Int) := u64_in (by omega)
    rw [e1, u64_in (by omega)]
    omega
theorem rLd_pg (m : AM) (a k : Int) : rLd (pgS m) m.cap a k = ldV m a k := by
  unfold rLd ldV
  rw [rBy_pg]
  cases hw : wholeB k with
  | false => rfl
  | true =>
    have hk := wholeB_le hw
    simp only [if_true, Bool.true_and]
    cases ht : thr m a k with
    | false =>
      have : bytS m a k = ByteArray.empty := by unfold bytS; rw [ht]; rfl
      rw [this]; rfl
    | true =>
      have hs : (bytS m a k).size = k.toNat := by unfold bytS; rw [ht, if_pos rfl, bs_size]
      have h8 : (bytS m a k).size ≤ 8 := by omega
      have h1 := rLdN_le h8 _ (Nat.le_refl _)
      have h2 := ldN_le h8
      rw [Nat.sub_self, Nat.pow_zero, Nat.div_one] at h1
      rw [h1, ← h2, hs]; rfl
theorem chk_pg (m : AM) (a k : Int) : chkE (amS (pgS m) m.cap) a k = chkE m a k := by unfold chkE; rw [thr_pgS]
theorem ldE_pg (m : AM) (a k : Int) : ldE (amS (pgS m) m.cap) a k = ldE m a k := by unfold ldE; rw [chk_pg]
theorem stM_num {m : AM} {a k v : Int} (h : wholeB k = true) : putM m a (numB v k.toNat) = stM m a k v := by rw [num_stB]; exact st_m2 h
theorem pgS_P {m : AM} {n : Nat} : ∀ i, i < n → thereF (pgS m) i = true → (pgS m i).size = 4096 := fun i _ h => pgS_size (by rw [there_pgS] at h; exact h)
end Go.Proofs.YtdjhdcaanmkblaaDoor.K
