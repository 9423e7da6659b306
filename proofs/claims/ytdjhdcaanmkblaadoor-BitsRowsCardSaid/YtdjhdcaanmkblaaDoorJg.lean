/-
  Chunks that come into bins, and out again: plainly.
-/
import Derived.Test.YtdjhdcaanmkblaaDoorM5
namespace Go.Proofs.YtdjhdcaanmkblaaDoor.K
set_option linter.unusedSimpArgs false
set_option linter.unusedVariables false

theorem ld_zero {m : AM} (hm : ∀ x, m.mem x = 0) (a k : Int) : ldV m a k = 0 := by
  cases hw : wholeB k with
  | false => exact (ld_v1 hw).symm
  | true =>
    cases ht : thr m a k with
    | false => unfold ldV; rw [ht, Bool.and_false]; rfl
    | true =>
      obtain ⟨g1, g8⟩ := wholeB_le hw
      rw [← ld_v4 hw ht]
      unfold bytS
      rw [ht, if_pos rfl]
      have e : bs (fun j => m.mem (a.toNat + j)) k.toNat = bs (stB ((0 : Nat) : Int)) k.toNat := bs_congr fun j hj => by
        rw [hm]
        apply UInt8.toNat_inj.1
        rw [stB_nat]; simp
      rw [e, ldN_num (by omega) _ (Nat.le_refl _)]; simp
/-- What a chunk's header tells. -/
def rdIs (m : AM) (a ord own nx : Int) : Prop := ((rdAt m a = a ∧ rdOrd m a = ord) ∧ (rdOwn m a = own ∧ rdNx m a = nx)) ∧ rdE m a = 0
theorem rd_same {m m' : AM} {a : Int} (ht : thr m a 32 = true) (hc : m'.cap = m.cap) (hm : m'.com = m.com) (hy : ∀ y : Nat, a ≤ (y : Int) → (y : Int) < a + 32 → m'.mem y = m.mem y) :
    (rdAt m' a = rdAt m a ∧ rdOrd m' a = rdOrd m a) ∧ (rdOwn m' a = rdOwn m a ∧ rdNx m' a = rdNx m a) ∧ rdE m' a = rdE m a := by
  have hN : ∀ i, rdN m' a i = rdN m a i := fun i => getW_mem (rec_c ht) hc hm hy i
  have hb : badR m' a = badR m a := by unfold badR; rw [hN, hN, hN]
  have ho : rdOk m' a = rdOk m a := by unfold rdOk; rw [hb, thr_same hc hm]
  unfold rdAt rdOrd rdOwn rdNx rdE
  rw [ho, hN, hN, hN, hb, thr_same hc hm]
  exact ⟨⟨rfl, rfl⟩, ⟨rfl, rfl⟩, rfl⟩
theorem rdIs.keep {m m' : AM} {a ord own nx : Int} (h : rdIs m a ord own nx) (ht : thr m a 32 = true) (hc : m'.cap = m.cap) (hm : m'.com = m.com) (hy : ∀ y : Nat, a ≤ (y : Int) → (y : Int) < a + 32 → m'.mem y = m.mem y) : rdIs m' a ord own nx := by
  obtain ⟨⟨e1, e2⟩, ⟨e3, e4⟩, e5⟩ := rd_same ht hc hm hy
  unfold rdIs at *
  rw [e1, e2, e3, e4, e5]; exact h
theorem wr_ok {m : AM} {a ord own nx : Int} (ht : thr m a 32 = true) (ha : 0 ≤ a ∧ a % 4096 = 0) (ho : 0 ≤ ord ∧ ord ≤ 10) (hn : 0 ≤ nx) : wrcE m a ord own nx = 0 := by
  have hsp : spanV ord ≠ 0 := by
    have : ord = 0 ∨ ord = 1 ∨ ord = 2 ∨ ord = 3 ∨ ord = 4 ∨ ord = 5 ∨ ord = 6 ∨ ord = 7 ∨ ord = 8 ∨ ord = 9 ∨ ord = 10 := by omega
    rcases this with rfl | rfl | rfl | rfl | rfl | rfl | rfl | rfl | rfl | rfl | rfl <;> decide
  have hb : badC a ord nx = false := badC_no (by omega) ha.2 (by omega) hsp
  unfold wrcE
  rw [hb, ht, if_neg Bool.false_ne_true, if_pos rfl]
  unfold pRE
  have hf : fitA cRec (cNum ord own nx) cRec.length = true := by
    show ((((true && fitW 4 ((cNum ord own nx 0 : Nat) : Int)) && fitW 4 ((cNum ord own nx 1 : Nat) : Int)) && fitW 8 ((cNum ord own nx 2 : Nat) : Int)) && fitW 8 ((cNum ord own nx 3 : Nat) : Int)) = true
    have e1 : fitW 4 ((cNum ord own nx 0 : Nat) : Int) = true := by show fitW 4 1263421507 = true; decide
    have e2 : fitW 4 ((cNum ord own nx 1 : Nat) : Int) = true := by
      show fitW 4 ((ord.toNat : Nat) : Int) = true
      have : ord = 0 ∨ ord = 1 ∨ ord = 2 ∨ ord = 3 ∨ ord = 4 ∨ ord = 5 ∨ ord = 6 ∨ ord = 7 ∨ ord = 8 ∨ ord = 9 ∨ ord = 10 := by omega
      rcases this with rfl | rfl | rfl | rfl | rfl | rfl | rfl | rfl | rfl | rfl | rfl <;> decide
    rw [e1, e2]
    unfold fitW; rfl
  have hf : fitA cRec (cNum ord own nx) cRec.length = true := hf
  rw [if_neg (fun q => q rfl), hf, if_pos rfl]
  exact (rec_c ht).vb0 (Int.le_refl _)
/-- A bin's head is turned. -/
theorem vst_at {m : AM} {o z a v : Int} (ht : thr m (o + a) 8 = true) (h0 : 0 ≤ a) (h1 : a ≤ z - 8) : vstE m o z a 8 = 0 ∧ vstM m o z a 8 v = stM m (o + a) 8 v := by
  have hv : vchE z a 8 = 0 := (vch_yes (by omega)).symm
  unfold vstE vstM
  rw [show wholeB 8 = true from rfl, if_pos rfl, if_pos rfl, if_pos hv, if_pos hv]
  exact ⟨by unfold stE; rw [show wholeB 8 = true from rfl, if_pos rfl, chk_thr ht], rfl⟩
def kK (kf : Nat → UInt8) (i : Nat) : Int := ((((kf i).toNat) % 5 : Nat) : Int)
def pgA (i : Nat) : Int := 4096 * ((i : Int) + 1)
/-- A bin's head when so many have come. -/
def headK (kf : Nat → UInt8) : Nat → Int → Int
  | 0, _ => 0
  | i + 1, k => if k = kK kf i then pgA i else headK kf i k
def bBase : AM := comM (AM.new 13) 0 12
theorem bBase_thr {a n : Int} (h : 0 ≤ a ∧ 0 ≤ n ∧ a + n ≤ 49152) : thr bBase a n = true := by
  have h1 : thr bBase 0 49152 = true := by decide +kernel
  exact thr_sub h1 (by omega) (by omega) h.2.1
structure BS (m : AM) (kf : Nat → UInt8) (i : Nat) : Prop where
  cap : m.cap = bBase.cap
  com : m.com = bBase.com
  heads : ∀ k, 0 ≤ k → k ≤ 4 → bnN m 100 44 k = headK kf i k
  chs : ∀ j, j < i → rdIs m (pgA j) (kK kf j) 0 (headK kf j (kK kf j))
section
variable {m : AM} {kf : Nat → UInt8} {i : Nat}
theorem BS.thr (h : BS m kf i) {a n : Int} (ha : 0 ≤ a ∧ 0 ≤ n ∧ a + n ≤ 49152) : thr m a n = true := (thr_same h.cap h.com a n).trans (bBase_thr ha)
end
end Go.Proofs.YtdjhdcaanmkblaaDoor.K
