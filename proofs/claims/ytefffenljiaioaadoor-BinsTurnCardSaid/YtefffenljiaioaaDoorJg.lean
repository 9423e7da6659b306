/-
  Chunks that come into bins, and out again: plainly.
-/
import Derived.Test.YtefffenljiaioaaDoorJd
import Derived.Test.YtefffenljiaioaaDoorHd
namespace Go.Proofs.YtefffenljiaioaaDoor.K
set_option linter.unusedSimpArgs false
set_option linter.unusedVariables false

theorem ld_zero {m : AM} (hm : ∀ x, m.mem x = 0) (a k : Int) : ldV m a k = 0 := by
  cases hw : wholeB k with
  | false => exact (ld_v1 hw).symm
  | true =>
    cases ht : thr m a k with
    | false => unfold ldV; rw [ht, Bool.and_false]; rfl
    | true =>
      obtain ⟨g1, g8⟩ := wholeB_le hw
      rw [← ld_v4 hw ht]
      unfold bytS
      rw [ht, if_pos rfl]
      have e : bs (fun j => m.mem (a.toNat + j)) k.toNat = bs (stB ((0 : Nat) : Int)) k.toNat := bs_congr fun j hj => by
        rw [hm]
        apply UInt8.toNat_inj.1
        rw [stB_nat]; simp
      rw [e, ldN_num (by omega) _ (Nat.le_refl _)]; simp
/-- What a chunk's header tells. -/
def rdIs (m : AM) (a ord own nx : Int) : Prop := ((rdAt m a = a ∧ rdOrd m a = ord) ∧ (rdOwn m a = own ∧ rdNx m a = nx)) ∧ rdE m a = 0
theorem rd_same {m m' : AM} {a : Int} (ht : thr m a 32 = true) (hc : m'.cap = m.cap) (hm : m'.com = m.com) (hy : ∀ y : Nat, a ≤ (y : Int) → (y : Int) < a + 32 → m'.mem y = m.mem y) :
    (rdAt m' a = rdAt m a ∧ rdOrd m' a = rdOrd m a) ∧ (rdOwn m' a = rdOwn m a ∧ rdNx m' a = rdNx m a) ∧ rdE m' a = rdE m a := by
  have hN : ∀ i, rdN m' a i = rdN m a i := fun i => getW_mem (rec_c ht) hc hm hy i
  have hb : badR m' a = badR m a := by unfold badR; rw [hN, hN, hN]
  have ho : rdOk m' a = rdOk m a := by unfold rdOk; rw [hb, thr_same hc hm]
  unfold rdAt rdOrd rdOwn rdNx rdE
  rw [ho, hN, hN, hN, hb, thr_same hc hm]
  exact ⟨⟨rfl, rfl⟩, ⟨rfl, rfl⟩, rfl⟩
theorem rdIs.keep {m m' : AM} {a ord own nx : Int} (h : rdIs m a ord own nx) (ht : thr m a 32 = true) (hc : m'.cap = m.cap) (hm : m'.com = m.com) (hy : ∀ y : Nat, a ≤ (y : Int) → (y : Int) < a + 32 → m'.mem y = m.mem y) : rdIs m' a ord own nx := by
  obtain ⟨⟨e1, e2⟩, ⟨e3, e4⟩, e5⟩ := rd_same ht hc hm hy
  unfold rdIs at *
  rw [e1, e2, e3, e4, e5]; exact h
theorem wr_ok {m : AM} {a ord own nx : Int} (ht : thr m a 32 = true) (ha : 0 ≤ a ∧ a % 4096 = 0) (ho : 0 ≤ ord ∧ ord ≤ 10) (hn : 0 ≤ nx) : wrcE m a ord own nx = 0 := by
  have hsp : spanV ord ≠ 0 := by
    have : ord = 0 ∨ ord = 1 ∨ ord = 2 ∨ ord = 3 ∨ ord = 4 ∨ ord = 5 ∨ ord = 6 ∨ ord = 7 ∨ ord = 8 ∨ ord = 9 ∨ ord = 10 := by omega
    rcases this with rfl | rfl | rfl | rfl | rfl | rfl | rfl | rfl | rfl | rfl | rfl <;> decide
  have hb : badC a ord nx = false := badC_no (by omega) ha.2 (by omega) hsp
  unfold wrcE
  rw [hb, ht, if_neg Bool.false_ne_true, if_pos rfl]
  unfold pRE
  have hf : fitA cRec (cNum ord own nx) cRec.length = true := by
    show ((((true && fitW 4 ((cNum ord own nx 0 : Nat) : Int)) && fitW 4 ((cNum ord own nx 1 : Nat) : Int)) && fitW 8 ((cNum ord own nx 2 : Nat) : Int)) && fitW 8 ((cNum ord own nx 3 : Nat) : Int)) = true
    have e1 : fitW 4 ((cNum ord own nx 0 : Nat) : Int) = true := by show fitW 4 1263421507 = true; decide
    have e2 : fitW 4 ((cNum ord own nx 1 : Nat) : Int) = true := by
      show fitW 4 ((ord.toNat : Nat) : Int) = true
      have : ord = 0 ∨ ord = 1 ∨ ord = 2 ∨ ord = 3 ∨ ord = 4 ∨ ord = 5 ∨ ord = 6 ∨ ord = 7 ∨ ord = 8 ∨ ord = 9 ∨ ord = 10 := by omega
      rcases this with rfl | rfl | rfl | rfl | rfl | rfl | rfl | rfl | rfl | rfl | rfl <;> decide
    rw [e1, e2]
    unfold fitW; rfl
  have hf : fitA cRec (cNum ord own nx) cRec.length = true := hf
  rw [if_neg (fun q => q rfl), hf, if_pos rfl]
  exact (rec_c ht).vb0 (Int.le_refl _)
theorem wr_is {m : AM} {a ord nx : Int} (ht : thr m a 32 = true) (ha : 0 ≤ a ∧ a % 4096 = 0) (ho : 0 ≤ ord ∧ ord ≤ 10) (hn : 0 ≤ nx ∧ nx ≤ 9223372036854775807) : rdIs (wrcM m a ord 0 nx) a ord 0 nx :=
  wrc_read (wr_ok ht ha ho hn.1) ⟨Int.le_refl _, by decide, hn.2⟩

/-- A bin's head is turned. -/
theorem vst_at {m : AM} {o z a v : Int} (ht : thr m (o + a) 8 = true) (h0 : 0 ≤ a) (h1 : a ≤ z - 8) : vstE m o z a 8 = 0 ∧ vstM m o z a 8 v = stM m (o + a) 8 v := by
  have hv : vchE z a 8 = 0 := (vch_yes (by omega)).symm
  unfold vstE vstM
  rw [show wholeB 8 = true from rfl, if_pos rfl, if_pos rfl, if_pos hv, if_pos hv]
  exact ⟨by unfold stE; rw [show wholeB 8 = true from rfl, if_pos rfl, chk_thr ht], rfl⟩
theorem bn_ld {m : AM} {o z k : Int} (h0 : 0 ≤ k) (h1 : k ≤ 4) (hz : 40 ≤ z) : bnN m o z k = IntKind.wrap .i64 (ldV m (o + 8 * k) 8) := by
  unfold bnN vldV
  have hv : vchE z (8 * k) 8 = 0 := (vch_yes (by omega)).symm
  rw [if_neg (by omega), show wholeB 8 = true from rfl, if_pos rfl, if_pos hv]

def kK (kf : Nat → UInt8) (i : Nat) : Int := ((((kf i).toNat) % 5 : Nat) : Int)
theorem kK_rng (kf : Nat → UInt8) (i : Nat) : 0 ≤ kK kf i ∧ kK kf i ≤ 4 := by unfold kK; omega
def pgA (i : Nat) : Int := 4096 * ((i : Int) + 1)
/-- A bin's head when so many have come. -/
def headK (kf : Nat → UInt8) : Nat → Int → Int
  | 0, _ => 0
  | i + 1, k => if k = kK kf i then pgA i else headK kf i k
theorem headK_rng (kf : Nat → UInt8) : ∀ (i : Nat) (k : Int), 0 ≤ headK kf i k ∧ headK kf i k ≤ 4096 * (i : Int)
  | 0, k => by unfold headK; omega
  | i + 1, k => by
    have := headK_rng kf i k
    unfold headK pgA; split <;> omega
def bBase : AM := comM (AM.new 13) 0 12
theorem bBase_thr {a n : Int} (h : 0 ≤ a ∧ 0 ≤ n ∧ a + n ≤ 49152) : thr bBase a n = true := by
  have h1 : thr bBase 0 49152 = true := by decide +kernel
  exact thr_sub h1 (by omega) (by omega) h.2.1
structure BS (m : AM) (kf : Nat → UInt8) (i : Nat) : Prop where
  cap : m.cap = bBase.cap
  com : m.com = bBase.com
  heads : ∀ k, 0 ≤ k → k ≤ 4 → bnN m 100 44 k = headK kf i k
  chs : ∀ j, j < i → rdIs m (pgA j) (kK kf j) 0 (headK kf j (kK kf j))
section
variable {m : AM} {kf : Nat → UInt8} {i : Nat}
theorem BS.thr (h : BS m kf i) {a n : Int} (ha : 0 ≤ a ∧ 0 ≤ n ∧ a + n ≤ 49152) : thr m a n = true := (thr_same h.cap h.com a n).trans (bBase_thr ha)
theorem bsK_zero (kf : Nat → UInt8) : BS bBase kf 0 := by
  refine ⟨rfl, rfl, fun k h0 h1 => ?_, fun j hj => absurd hj (by omega)⟩
  have hz : ∀ x, bBase.mem x = 0 := comM_zero (fun _ => rfl) 0 12
  rw [bn_ld h0 h1 (by decide), ld_zero hz]
  rfl
theorem thr_bb {m : AM} (hc : m.cap = bBase.cap) (hm : m.com = bBase.com) {a n : Int} (ha : 0 ≤ a ∧ 0 ≤ n ∧ a + n ≤ 49152) : Go.Proofs.YtefffenljiaioaaDoor.K.thr m a n = true := (thr_same hc hm a n).trans (bBase_thr ha)
/-- A head that is stored. -/
theorem bn_st {m : AM} (hc : m.cap = bBase.cap) (hm : m.com = bBase.com) {k v : Int} (h0 : 0 ≤ k) (h1 : k ≤ 4) (hv : 0 ≤ v ∧ v ≤ 9223372036854775807) {k' : Int} (h0' : 0 ≤ k') (h1' : k' ≤ 4) :
    bnN (stM m (100 + 8 * k) 8 v) 100 44 k' = if k' = k then v else bnN m 100 44 k' := by
  have ht : Go.Proofs.YtefffenljiaioaaDoor.K.thr m (100 + 8 * k) 8 = true := thr_bb hc hm (by omega)
  rw [bn_ld h0' h1' (by decide), bn_ld h0' h1' (by decide)]
  by_cases e : k' = k
  · subst e
    rw [if_pos rfl, ld_st rfl ht hv.1]
    have e2 : v % 2 ^ (8 * (8 : Int).toNat) = v := by show v % 2 ^ 64 = v; omega
    rw [e2]; exact wrap_i64_in hv
  · rw [if_neg e, ld_far rfl ht (by omega)]
theorem bn_keep {m m' : AM} (hc : m'.cap = m.cap) (hm : m'.com = m.com) (hy : ∀ y : Nat, (y : Int) < 144 → m'.mem y = m.mem y) {k : Int} (h0 : 0 ≤ k) (h1 : k ≤ 4) : bnN m' 100 44 k = bnN m 100 44 k := by
  rw [bn_ld h0 h1 (by decide), bn_ld h0 h1 (by decide), ld_mem hc hm fun y y1 y2 => hy y (by omega)]
theorem st_com (m : AM) (a v : Int) : (stM m a 8 v).cap = m.cap ∧ (stM m a 8 v).com = m.com := stM_com m a 8 v
theorem wrap_pg {i : Nat} (hi : i < 11) : IntKind.wrap .u64 (pgA i) = pgA i := u64_in (by unfold pgA; omega)
/-- One more. -/
theorem bs_push (h : BS m kf i) (hi : i < 11) : wrcE m (pgA i) (kK kf i) 0 8192 = 0 ∧ bpE (wrcM m (pgA i) (kK kf i) 0 8192) 100 44 (pgA i) = 0 ∧ BS (bpM (wrcM m (pgA i) (kK kf i) 0 8192) 100 44 (pgA i)) kf (i + 1) := by
  have hk := kK_rng kf i
  have hpa : 0 ≤ pgA i ∧ pgA i % 4096 = 0 ∧ 4096 ≤ pgA i ∧ pgA i + 32 ≤ 49152 := by unfold pgA; omega
  have ht := h.thr (a := pgA i) (n := 32) (by omega)
  have hw := wr_ok (own := 0) (nx := 8192) ht ⟨hpa.1, hpa.2.1⟩ (ord := kK kf i) (by omega) (by decide)
  have hr := wr_is (nx := 8192) ht ⟨hpa.1, hpa.2.1⟩ (ord := kK kf i) (by omega) (by decide)
  refine ⟨hw, ?_⟩
  have hwc := wrcM_com m (pgA i) (kK kf i) 0 8192
  generalize hm1 : wrcM m (pgA i) (kK kf i) 0 8192 = m1 at *
  have hfar : ∀ y : Nat, (y : Int) < pgA i ∨ pgA i + 32 ≤ (y : Int) → m1.mem y = m.mem y := fun y hy => by rw [← hm1]; exact wrcM_far hy
  have c1 : m1.cap = bBase.cap := hwc.1.trans h.cap
  have c2 : m1.com = bBase.com := hwc.2.trans h.com
  obtain ⟨⟨⟨r1, r2⟩, r3, r4⟩, r5⟩ := hr
  have hn : bnN m1 100 44 (kK kf i) = headK kf i (kK kf i) := (bn_keep hwc.1 hwc.2 (fun y hy => hfar y (by omega)) hk.1 hk.2).trans (h.heads _ hk.1 hk.2)
  have hh := headK_rng kf i (kK kf i)
  obtain ⟨b1, b2⟩ := bp_5 (m := m1) (o := 100) (z := 44) (a := pgA i) (by decide) (by rw [r5]; decide) (by rw [r2]; omega) (by rw [r3]; decide)
  rw [r1, r2, r3, hn] at b1 b2
  have ht1 := thr_bb c1 c2 (a := pgA i) (n := 32) (by omega)
  have hr2 := wr_is (nx := headK kf i (kK kf i)) ht1 ⟨hpa.1, hpa.2.1⟩ (ord := kK kf i) (by omega) (by omega)
  have hwc2 := wrcM_com m1 (pgA i) (kK kf i) 0 (headK kf i (kK kf i))
  have hfar2 : ∀ y : Nat, (y : Int) < pgA i ∨ pgA i + 32 ≤ (y : Int) → (wrcM m1 (pgA i) (kK kf i) 0 (headK kf i (kK kf i))).mem y = m1.mem y := fun y hy => wrcM_far hy
  generalize wrcM m1 (pgA i) (kK kf i) 0 (headK kf i (kK kf i)) = m2 at *
  have d1 : m2.cap = bBase.cap := hwc2.1.trans c1
  have d2 : m2.com = bBase.com := hwc2.2.trans c2
  have ht2 : Go.Proofs.YtefffenljiaioaaDoor.K.thr m2 (100 + 8 * kK kf i) 8 = true := thr_bb d1 d2 (by omega)
  obtain ⟨s1, s2⟩ := vst_at (m := m2) (o := 100) (z := 44) (a := 8 * kK kf i) (v := IntKind.wrap .u64 (pgA i)) ht2 (by omega) (by omega)
  refine ⟨b1.symm.trans s1, ?_⟩
  rw [← b2, s2, wrap_pg hi]
  have hst : ∀ y : Nat, 144 ≤ (y : Int) → (stM m2 (100 + 8 * kK kf i) 8 (pgA i)).mem y = m2.mem y := fun y hy => mem_st rfl ht2 (by omega)
  have hsc := st_com m2 (100 + 8 * kK kf i) (pgA i)
  refine ⟨hsc.1.trans d1, hsc.2.trans d2, fun k h0 h1 => ?_, fun j hj => ?_⟩
  · rw [bn_st d1 d2 hk.1 hk.2 (by omega) h0 h1]
    show _ = if k = kK kf i then pgA i else headK kf i k
    split
    · rfl
    · rw [bn_keep hwc2.1 hwc2.2 (fun y hy => hfar2 y (by omega)) h0 h1, bn_keep hwc.1 hwc.2 (fun y hy => hfar y (by omega)) h0 h1]
      exact h.heads k h0 h1
  · by_cases e : j = i
    · subst e
      exact hr2.keep (thr_bb d1 d2 (by omega)) hsc.1 hsc.2 fun y y1 y2 => hst y (by omega)
    · have hj2 : pgA j + 4096 ≤ pgA i ∧ 4096 ≤ pgA j := by unfold pgA; omega
      refine (h.chs j (by omega)).keep (h.thr (by omega)) (hsc.1.trans (hwc2.1.trans hwc.1)) (hsc.2.trans (hwc2.2.trans hwc.2)) fun y y1 y2 => ?_
      rw [hst y (by omega), hfar2 y (by omega), hfar y (by omega)]
/-- The last one comes out. -/
theorem bs_pop (h : BS m kf (i + 1)) (hi : i < 11) : ((bqAt m 100 44 (kK kf i) = pgA i ∧ bqOrd m 100 44 (kK kf i) = kK kf i) ∧ bqOwn m 100 44 (kK kf i) = 0 ∧ bqOk m 100 44 (kK kf i) = true) ∧ rdIs (bqM m 100 44 (kK kf i)) (pgA i) (kK kf i) 0 0 ∧ BS (bqM m 100 44 (kK kf i)) kf i := by
  have hk := kK_rng kf i
  have hpa : 0 ≤ pgA i ∧ pgA i % 4096 = 0 ∧ 4096 ≤ pgA i ∧ pgA i + 32 ≤ 49152 := by unfold pgA; omega
  have hb : bnN m 100 44 (kK kf i) = pgA i := by rw [h.heads _ hk.1 hk.2]; show (if kK kf i = kK kf i then _ else _) = _; rw [if_pos rfl]
  obtain ⟨⟨q1, q2, q3, q4⟩, q5⟩ := bq_yes (m := m) (o := 100) (z := 44) (k := kK kf i) (by rw [hb]; omega)
  obtain ⟨⟨⟨r1, r2⟩, r3, r4⟩, r5⟩ := h.chs i (by omega)
  have hh := headK_rng kf i (kK kf i)
  rw [hb] at q1 q2 q3 q5
  rw [r1] at q1
  rw [r2] at q2
  rw [r3] at q3
  refine ⟨⟨⟨q1.symm, q2.symm⟩, q3.symm, q4.symm⟩, ?_⟩
  have ht1 : Go.Proofs.YtefffenljiaioaaDoor.K.thr m (100 + 8 * kK kf i) 8 = true := h.thr (by omega)
  obtain ⟨s1, s2⟩ := vst_at (m := m) (o := 100) (z := 44) (a := 8 * kK kf i) (v := IntKind.wrap .u64 (headK kf i (kK kf i))) ht1 (by omega) (by omega)
  rw [r1, r2, r3, r4, s2, u64_in (by omega)] at q5
  rw [← q5]
  have hsc := st_com m (100 + 8 * kK kf i) (headK kf i (kK kf i))
  have hst : ∀ y : Nat, 144 ≤ (y : Int) → (stM m (100 + 8 * kK kf i) 8 (headK kf i (kK kf i))).mem y = m.mem y := fun y hy => mem_st rfl ht1 (by omega)
  have hbn : ∀ k, 0 ≤ k → k ≤ 4 → bnN (stM m (100 + 8 * kK kf i) 8 (headK kf i (kK kf i))) 100 44 k = headK kf i k := fun k h0 h1 => by
    rw [bn_st h.cap h.com hk.1 hk.2 (by omega) h0 h1]
    split
    · rename_i e; rw [e]
    · rename_i e; rw [h.heads k h0 h1]; show (if k = kK kf i then _ else _) = _; rw [if_neg e]
  have d1 : (stM m (100 + 8 * kK kf i) 8 (headK kf i (kK kf i))).cap = bBase.cap := hsc.1.trans h.cap
  have d2 : (stM m (100 + 8 * kK kf i) 8 (headK kf i (kK kf i))).com = bBase.com := hsc.2.trans h.com
  have hss := hsc
  generalize stM m (100 + 8 * kK kf i) 8 (headK kf i (kK kf i)) = m1 at *
  have ht2 := thr_bb d1 d2 (a := pgA i) (n := 32) (by omega)
  have hwc := wrcM_com m1 (pgA i) (kK kf i) 0 0
  refine ⟨wr_is ht2 ⟨hpa.1, hpa.2.1⟩ (by omega) (by decide), hwc.1.trans d1, hwc.2.trans d2, fun k h0 h1 => ?_, fun j hj => ?_⟩
  · rw [bn_keep hwc.1 hwc.2 (fun y hy => wrcM_far (by omega)) h0 h1]; exact hbn k h0 h1
  · have hj2 : pgA j + 4096 ≤ pgA i ∧ 4096 ≤ pgA j := by unfold pgA; omega
    refine (h.chs j (by omega)).keep (h.thr (by omega)) (hwc.1.trans hss.1) (hwc.2.trans hss.2) fun y y1 y2 => ?_
    rw [wrcM_far (by omega), hst y (by omega)]
theorem bs_pushI {x : Int} (h : BS m kf x.toNat) (h0 : 0 ≤ x) (h1 : x < 11) : wrcE m (4096 * (x + 1)) ((((kf x.toNat).toNat) % 5 : Nat) : Int) 0 8192 = 0 ∧ bpE (wrcM m (4096 * (x + 1)) ((((kf x.toNat).toNat) % 5 : Nat) : Int) 0 8192) 100 44 (4096 * (x + 1)) = 0 ∧ BS (bpM (wrcM m (4096 * (x + 1)) ((((kf x.toNat).toNat) % 5 : Nat) : Int) 0 8192) 100 44 (4096 * (x + 1))) kf (x + 1).toNat := by
  have := bs_push h (by omega)
  rw [show pgA x.toNat = 4096 * (x + 1) by unfold pgA; omega] at this
  rw [show (x + 1).toNat = x.toNat + 1 by omega]
  exact this
theorem bs_popI {x : Int} (h : BS m kf (x + 1).toNat) (h0 : 0 ≤ x) (h1 : x < 11) : ((bqAt m 100 44 ((((kf x.toNat).toNat) % 5 : Nat) : Int) = 4096 * (x + 1) ∧ bqOrd m 100 44 ((((kf x.toNat).toNat) % 5 : Nat) : Int) = ((((kf x.toNat).toNat) % 5 : Nat) : Int)) ∧ bqOwn m 100 44 ((((kf x.toNat).toNat) % 5 : Nat) : Int) = 0 ∧ bqOk m 100 44 ((((kf x.toNat).toNat) % 5 : Nat) : Int) = true) ∧ rdIs (bqM m 100 44 ((((kf x.toNat).toNat) % 5 : Nat) : Int)) (4096 * (x + 1)) ((((kf x.toNat).toNat) % 5 : Nat) : Int) 0 0 ∧ BS (bqM m 100 44 ((((kf x.toNat).toNat) % 5 : Nat) : Int)) kf x.toNat := by
  rw [show (x + 1).toNat = x.toNat + 1 by omega] at h
  have := bs_pop h (by omega)
  rw [show pgA x.toNat = 4096 * (x + 1) by unfold pgA; omega] at this
  exact this
theorem bs_none (h : BS m kf 0) (k : Int) : bnN m 100 44 k = 0 := by
  by_cases hk : 0 ≤ k ∧ k ≤ 4
  · exact h.heads k hk.1 hk.2
  · unfold bnN; rw [if_pos (.inl (by omega))]
end
end Go.Proofs.YtefffenljiaioaaDoor.K
