import Derived.Test.YtdjhdcaanmkblaaDoorM4
import Derived.Test.YtdjhdcaanmkblaaDoorProg
import Derived.LoopN
import Derived.Laws.StructEq
/-
  Sizes and chunks, plainly.
-/
namespace Go.Proofs.YtdjhdcaanmkblaaDoor.K
set_option linter.unusedSimpArgs false
set_option linter.unusedVariables false

def z_whole (a : Int) : Bool := decide (1 ≤ a) && decide (a ≤ 4096) && (iand .i64 a (IntKind.wrap .i64 (a - 1)) == 0)
/-! ## Bits of z_whole numbers -/

def z_spanOk (o : Int) : Bool := decide (0 ≤ o) && decide (o ≤ 10)
def spanV (o : Int) : Int := if z_spanOk o then 4096 * 2 ^ o.toNat else 0

/-- Bytes that are there: each page of theirs is. -/
theorem thr_sub {m : AM} {a n a' n' : Int} (h : thr m a n = true) (h1 : a ≤ a') (h2 : a' + n' ≤ a + n) (h0 : 0 ≤ n') : thr m a' n' = true := by
  obtain ⟨g1, g2, g3, g4⟩ := inB_facts (thr_in h)
  have hp := fun x => thr_page (x := x) h
  unfold thr inB
  simp only [Bool.and_eq_true, Bool.or_eq_true, decide_eq_true_eq]
  refine ⟨by omega, ?_⟩
  rcases Int.lt_or_le 0 n' with h3 | h3
  · right
    rw [cntR_all (b := true) (pgN a' n') (pg0 a')]
    · rfl
    · intro x hx1 hx2
      unfold pg0 at hx1 hx2
      unfold pgN at hx2
      have hq : ∃ y : Int, a' ≤ y ∧ y < a' + n' ∧ (y / 4096).toNat = x := by
        rcases Int.lt_or_le (4096 * (x : Int)) a' with h4 | h4
        · exact ⟨a', by omega, by omega, by omega⟩
        · exact ⟨4096 * (x : Int), h4, by omega, by omega⟩
      obtain ⟨y, y1, y2, y3⟩ := hq
      have := (hp y (by omega) (by omega)).2
      rwa [y3] at this
  · left; omega

/-- A chunk's record: the widths of its header's fields. -/
def cRec : List Int := [4, 4, 8, 8]
def oRec : List Int := [8, 8]
theorem cRec_ok : okW cRec := by decide
theorem oRec_ok : okW oRec := by decide
def badC (at_ ord nx : Int) : Bool := ((decide (at_ < 0) || at_ % 4096 != 0) || decide (nx < 0)) || spanV ord == 0
def cNum (ord own nx : Int) (i : Nat) : Nat := if i = 0 then 1263421507 else if i = 1 then ord.toNat else if i = 2 then own.toNat else nx.toNat
def wrcE (m : AM) (at_ ord own nx : Int) : Int := if badC at_ ord nx then 2 else if thr m at_ 32 then pRE cRec 4 (cNum ord own nx) m at_ 32 else 3
def wrcM (m : AM) (at_ ord own nx : Int) : AM := if badC at_ ord nx then m else if thr m at_ 32 then pRM cRec 4 (cNum ord own nx) m at_ 32 else m
theorem span_pos {o : Int} (h : spanV o ≠ 0) : 0 ≤ o ∧ o ≤ 10 := by
  unfold spanV at h
  split at h
  · rename_i hs; unfold z_spanOk at hs; simpa using hs
  · exact absurd rfl h
theorem badC_no {at_ ord nx : Int} (h1 : ¬ at_ < 0) (h2 : at_ % 4096 = 0) (h3 : ¬ nx < 0) (h4 : spanV ord ≠ 0) : badC at_ ord nx = false := by
  unfold badC; simp [h1, h2, h3, h4]
/-- What stands where a chunk's header should be. -/
def rdN (m : AM) (at_ : Int) (i : Int) : Int := getW cRec m at_ 32 i
def badR (m : AM) (at_ : Int) : Bool := ((rdN m at_ 0 != 1263421507 || at_ % 4096 != 0) || spanV (IntKind.wrap .i64 (rdN m at_ 1)) == 0) || decide (IntKind.wrap .i64 (rdN m at_ 3) < 0)
def rdE (m : AM) (at_ : Int) : Int := if thr m at_ 32 then (if badR m at_ then 7 else 0) else 3
def rdOk (m : AM) (at_ : Int) : Bool := thr m at_ 32 && !badR m at_
def rdAt (m : AM) (at_ : Int) : Int := if rdOk m at_ then at_ else 0
def rdOrd (m : AM) (at_ : Int) : Int := if rdOk m at_ then IntKind.wrap .i64 (rdN m at_ 1) else 0
def rdOwn (m : AM) (at_ : Int) : Int := if rdOk m at_ then rdN m at_ 2 else 0
def rdNx (m : AM) (at_ : Int) : Int := if rdOk m at_ then IntKind.wrap .i64 (rdN m at_ 3) else 0
theorem rd_no {m : AM} {at_ : Int} (h : rdOk m at_ = false) : 0 = rdAt m at_ ∧ 0 = rdOrd m at_ ∧ 0 = rdOwn m at_ ∧ 0 = rdNx m at_ := by
  unfold rdAt rdOrd rdOwn rdNx; rw [h]; exact ⟨rfl, rfl, rfl, rfl⟩
theorem rd_yes {m : AM} {at_ : Int} (h : rdOk m at_ = true) : at_ = rdAt m at_ ∧ IntKind.wrap .i64 (rdN m at_ 1) = rdOrd m at_ ∧ rdN m at_ 2 = rdOwn m at_ ∧ IntKind.wrap .i64 (rdN m at_ 3) = rdNx m at_ := by
  unfold rdAt rdOrd rdOwn rdNx; rw [h]; exact ⟨rfl, rfl, rfl, rfl⟩
theorem rdOk_no1 {m : AM} {at_ : Int} (h : thr m at_ 32 = false) : rdOk m at_ = false ∧ rdE m at_ = 3 := by unfold rdOk rdE; rw [h]; exact ⟨rfl, rfl⟩
theorem rdOk_no2 {m : AM} {at_ : Int} (h : thr m at_ 32 = true) (hb : badR m at_ = true) : rdOk m at_ = false ∧ rdE m at_ = 7 := by unfold rdOk rdE; rw [h, hb]; exact ⟨rfl, rfl⟩
theorem rdOk_yes {m : AM} {at_ : Int} (h : thr m at_ 32 = true) (hb : badR m at_ = false) : rdOk m at_ = true ∧ rdE m at_ = 0 := by unfold rdOk rdE; rw [h, hb]; exact ⟨rfl, rfl⟩

end Go.Proofs.YtdjhdcaanmkblaaDoor.K

/-
  Walks, printed by w2.py.
-/
namespace Go.Proofs.YtdjhdcaanmkblaaDoor.K
set_option linter.unusedVariables false
set_option linter.unusedSimpArgs false

end Go.Proofs.YtdjhdcaanmkblaaDoor.K

/-
  Walks, printed by w2.py.
-/
namespace Go.Proofs.YtdjhdcaanmkblaaDoor.K
set_option linter.unusedVariables false
set_option linter.unusedSimpArgs false

end Go.Proofs.YtdjhdcaanmkblaaDoor.K

/-
  Tags and handles, plainly.
-/
namespace Go.Proofs.YtdjhdcaanmkblaaDoor.K
set_option linter.unusedSimpArgs false
set_option linter.unusedVariables false

/-- The first number that is so. -/
def fstN (p : Nat → Bool) (n : Nat) : Option Nat := (List.range n).find? p
def NoUp (p : Nat → Bool) (x : Int) : Prop := ∀ k : Nat, (k : Int) < x → p k = false
theorem fstN_at {p : Nat → Bool} {n : Nat} {x : Int} (h : NoUp p x) (h0 : 0 ≤ x) (h1 : x < (n : Int)) (hf : p x.toNat = true) : fstN p n = some x.toNat := by
  unfold fstN
  rw [List.find?_range_eq_some]
  exact ⟨hf, List.mem_range.2 (by omega), fun k hk => by rw [h k (by omega)]; rfl⟩
theorem fstN_none {p : Nat → Bool} {n : Nat} {x : Int} (h : NoUp p x) (hx : (n : Int) ≤ x) : fstN p n = none := by
  unfold fstN
  rw [List.find?_range_eq_none]
  intro k hk
  rw [h k (by omega)]; rfl

/-- Handles. -/
def hLen (z : Int) : Int := imin (z / 16) 256
theorem hLen_bd {z : Int} (h : 0 ≤ z) : 0 ≤ hLen z ∧ hLen z ≤ 256 ∧ hLen z * 16 ≤ z := by unfold hLen imin; split <;> omega
def hAt (m : AM) (o z i : Int) : Int := IntKind.wrap .i64 (vldV m o z (i * 16) 8)
def hGn (m : AM) (o z i : Int) : Int := vldV m o z (i * 16 + 8) 8
def hSetM (m : AM) (o z i a : Int) : AM := vstM m o z (i * 16) 8 (IntKind.wrap .u64 a)
def hFree (m : AM) (o z : Int) (i : Nat) : Bool := hAt m o z (i : Int) == 0 && decide (hGn m o z (i : Int) < 72057594037927935)
def hOf (g i : Int) : Int := IntKind.wrap .u64 ((IntKind.wrap .u64 ((IntKind.wrap .u64 (g + 1)) * 256)) + (IntKind.wrap .u64 i))
def hNxO (m : AM) (o z : Int) : Option Nat := fstN (hFree m o z) (hLen z).toNat
def hNxV (m : AM) (o z : Int) : Int := match hNxO m o z with | some i => hOf (hGn m o z (i : Int)) (i : Int) | none => 0
def hNxE (m : AM) (o z : Int) : Int := match hNxO m o z with | some _ => 0 | none => 10
theorem hOf_mod {g i : Int} (h : 0 ≤ g ∧ g < 72057594037927935) (hi : 0 ≤ i ∧ i < 256) : hOf g i = (g + 1) * 256 + i := by
  unfold hOf
  rw [u64_in (x := g + 1) (by omega), u64_in (x := (g + 1) * 256) (by omega), u64_in (x := i) (by omega), u64_in (by omega)]
def hfOk (m : AM) (o z h : Int) : Bool := decide (h % 256 < hLen z) && !(hAt m o z (h % 256) == 0 || h / 256 != hGn m o z (h % 256))
def hfA (m : AM) (o z h : Int) : Int := if hfOk m o z h then hAt m o z (h % 256) else 0
def hfE (m : AM) (o z h : Int) : Int := if hfOk m o z h then 0 else 6
def hNwE (m : AM) (o z a : Int) : Int := if a < 1 then 2 else hNxE m o z
def hNwV (m : AM) (o z a : Int) : Int := if a < 1 then 0 else if hNxE m o z = 0 then hNxV m o z else 0
def hNwM (m : AM) (o z a : Int) : AM := if a < 1 then m else if hNxE m o z = 0 then vstM (hSetM m o z (hNxV m o z % 256) a) o z (hNxV m o z % 256 * 16 + 8) 8 (hNxV m o z / 256) else m
end Go.Proofs.YtdjhdcaanmkblaaDoor.K

/-
  Walks, printed by w2.py.
-/
namespace Go.Proofs.YtdjhdcaanmkblaaDoor.K
set_option linter.unusedVariables false
set_option linter.unusedSimpArgs false

end Go.Proofs.YtdjhdcaanmkblaaDoor.K

/-
  Bins, plainly.
-/
namespace Go.Proofs.YtdjhdcaanmkblaaDoor.K
set_option linter.unusedSimpArgs false
set_option linter.unusedVariables false

theorem wrap_u64_rng (x : Int) : 0 ≤ IntKind.u64.wrap x ∧ IntKind.u64.wrap x ≤ 18446744073709551615 := by rw [IntKind.wrap_u64]; omega
def bnN (m : AM) (o z k : Int) : Int := if (k < 0 ∨ 4 < k) ∨ z < 40 then 0 else IntKind.wrap .i64 (vldV m o z (8 * k) 8)
end Go.Proofs.YtdjhdcaanmkblaaDoor.K

/-
  Walks, printed by w2.py.
-/
namespace Go.Proofs.YtdjhdcaanmkblaaDoor.K
set_option linter.unusedVariables false
set_option linter.unusedSimpArgs false

end Go.Proofs.YtdjhdcaanmkblaaDoor.K

/-
  Lists of what is to be done, plainly.
-/
namespace Go.Proofs.YtdjhdcaanmkblaaDoor.K
set_option linter.unusedSimpArgs false
set_option linter.unusedVariables false

section
variable {c : Cx} {H : Heap} {A : List Res} {w : World}
end

/-- A slot's two numbers, and what they tell. -/
def cN0 (m : AM) (o i : Int) : Int := getW oRec m (o + i * 24) 24 0
def cN1 (m : AM) (o i : Int) : Int := getW oRec m (o + i * 24) 24 1
def cId (m : AM) (o i : Int) : Int := cN0 m o i / 65536
def cKd (m : AM) (o i : Int) : Int := IntKind.wrap .u8 (cN0 m o i)
def cLv (m : AM) (o i : Int) : Int := IntKind.wrap .u8 (cN0 m o i / 256)
def cEnt (m : AM) (o : Int) (i : Nat) : Int × Int × Int × Int := (cId m o (i : Int), cKd m o (i : Int), cLv m o (i : Int), cN1 m o (i : Int))
def cNo (m : AM) (o : Int) (i : Nat) : Bool := cId m o (i : Int) == 0
def cSl (z : Int) : Int := z / 24
/-- How many entries there are. -/
def cCnt (m : AM) (o z : Int) : Nat := (fstN (cNo m o) (cSl z).toNat).getD (cSl z).toNat
theorem cCnt_at {m : AM} {o z x : Int} (h : NoUp (cNo m o) x) (h0 : 0 ≤ x) (h1 : x < cSl z) (hf : cId m o x = 0) : cCnt m o z = x.toNat := by
  unfold cCnt
  rw [fstN_at h h0 (by omega) (by unfold cNo; rw [Int.toNat_of_nonneg h0, hf]; rfl)]; rfl
theorem cCnt_end {m : AM} {o z x : Int} (h : NoUp (cNo m o) x) (h0 : 0 ≤ x) (h1 : x ≤ cSl z) (h2 : ¬ x < cSl z) : cCnt m o z = x.toNat := by
  unfold cCnt
  rw [fstN_none h (by omega)]; show (cSl z).toNat = _; omega
/-- Where a number stands; -1. -/
def cIs (m : AM) (o id : Int) (i : Nat) : Bool := cId m o (i : Int) == id
def cFind (m : AM) (o z id : Int) : Int := match fstN (cIs m o id) (cCnt m o z) with | some i => (i : Int) | none => -1
theorem cFind_at {m : AM} {o z id x : Int} (h : NoUp (cIs m o id) x) (h0 : 0 ≤ x) (h1 : x < ((cCnt m o z : Nat) : Int)) (hf : cId m o x = id) : x = cFind m o z id := by
  unfold cFind
  rw [fstN_at h h0 h1 (by unfold cIs; rw [Int.toNat_of_nonneg h0, hf]; simp)]
  show x = ((x.toNat : Nat) : Int); omega
theorem cFind_no {m : AM} {o z id x : Int} (h : NoUp (cIs m o id) x) (h1 : ((cCnt m o z : Nat) : Int) ≤ x) : -1 = cFind m o z id := by
  unfold cFind
  rw [fstN_none h h1]
/-- A slot is laid. -/
def eN0 (id kd lv : Int) : Int := ior .u64 (ior .u64 (IntKind.wrap .u64 (id * 2 ^ 16)) (IntKind.wrap .u64 (lv * 2 ^ 8))) kd
def eNum (id kd lv ar : Int) (i : Nat) : Nat := if i = 0 then (eN0 id kd lv).toNat else ar.toNat
theorem eN0_rng (id kd lv : Int) : 0 ≤ eN0 id kd lv ∧ eN0 id kd lv ≤ 18446744073709551615 := by unfold eN0; exact wrap_u64_rng _
def cPutM (m : AM) (o i id kd lv ar : Int) : AM := pRM oRec 2 (eNum id kd lv ar) m (o + i * 24) 24
theorem thr_same {m m' : AM} (h1 : m'.cap = m.cap) (h2 : m'.com = m.com) (a n : Int) : thr m' a n = thr m a n := by unfold thr inB; rw [h1, h2]
theorem vstM_com (m : AM) (o z a k v : Int) : (vstM m o z a k v).cap = m.cap ∧ (vstM m o z a k v).com = m.com := by
  unfold vstM stM putM laidM
  (repeat' split) <;> exact ⟨rfl, rfl⟩
theorem setM_com (l : List Int) (m : AM) (o z i x : Int) : (setM l m o z i x).cap = m.cap ∧ (setM l m o z i x).com = m.com := by
  unfold setM
  split
  · split
    · exact vstM_com _ _ _ _ _ _
    · exact ⟨rfl, rfl⟩
  · exact ⟨rfl, rfl⟩
theorem putA_com (l : List Int) (o z : Int) (nums : Nat → Nat) (m : AM) : ∀ k, (putA l o z nums m k).cap = m.cap ∧ (putA l o z nums m k).com = m.com
  | 0 => ⟨rfl, rfl⟩
  | k + 1 => by
    have h := putA_com l o z nums m k
    have h2 := setM_com l (putA l o z nums m k) o z (k : Int) ((nums k : Nat) : Int)
    exact ⟨h2.1.trans h.1, h2.2.trans h.2⟩
theorem pRM_com (l : List Int) (nn : Nat) (nums : Nat → Nat) (m : AM) (o z : Int) : (pRM l nn nums m o z).cap = m.cap ∧ (pRM l nn nums m o z).com = m.com := by
  unfold pRM
  split
  · exact ⟨rfl, rfl⟩
  · split
    · split
      · exact putA_com _ _ _ _ _ _
      · exact ⟨rfl, rfl⟩
    · exact ⟨rfl, rfl⟩
theorem cPutM_thr (m : AM) (o i id kd lv ar a n : Int) : thr (cPutM m o i id kd lv ar) a n = thr m a n := thr_same (pRM_com _ _ _ _ _ _).1 (pRM_com _ _ _ _ _ _).2 a n
def addE (m : AM) (o z id : Int) : Int := if id = 0 ∨ 281474976710655 < id then 2 else if 0 ≤ cFind m o z id then 9 else if cSl z - ((cCnt m o z : Nat) : Int) = 0 then 10 else 0
def addM (m : AM) (o z id kd lv ar : Int) : AM := if addE m o z id = 0 then cPutM m o ((cCnt m o z : Nat) : Int) id kd lv ar else m
theorem add_1 {m : AM} {o z id kd lv ar : Int} (h : id = 0 ∨ 281474976710655 < id) : 2 = addE m o z id ∧ m = addM m o z id kd lv ar := by
  have e : addE m o z id = 2 := by unfold addE; rw [if_pos h]
  unfold addM; rw [e]; exact ⟨rfl, rfl⟩
theorem add_2 {m : AM} {o z id kd lv ar : Int} (h : ¬ (id = 0 ∨ 281474976710655 < id)) (h2 : 0 ≤ cFind m o z id) : 9 = addE m o z id ∧ m = addM m o z id kd lv ar := by
  have e : addE m o z id = 9 := by unfold addE; rw [if_neg h, if_pos h2]
  unfold addM; rw [e]; exact ⟨rfl, rfl⟩
theorem add_3 {m : AM} {o z id kd lv ar : Int} (h : ¬ (id = 0 ∨ 281474976710655 < id)) (h2 : ¬ 0 ≤ cFind m o z id) (h3 : cSl z - ((cCnt m o z : Nat) : Int) = 0) : 10 = addE m o z id ∧ m = addM m o z id kd lv ar := by
  have e : addE m o z id = 10 := by unfold addE; rw [if_neg h, if_neg h2, if_pos h3]
  unfold addM; rw [e]; exact ⟨rfl, rfl⟩
theorem add_4 {m : AM} {o z id kd lv ar : Int} (h : ¬ (id = 0 ∨ 281474976710655 < id)) (h2 : ¬ 0 ≤ cFind m o z id) (h3 : ¬ cSl z - ((cCnt m o z : Nat) : Int) = 0) : 0 = addE m o z id ∧ cPutM m o ((cCnt m o z : Nat) : Int) id kd lv ar = addM m o z id kd lv ar := by
  have e : addE m o z id = 0 := by unfold addE; rw [if_neg h, if_neg h2, if_neg h3]
  unfold addM; rw [e]; exact ⟨rfl, rfl⟩
end Go.Proofs.YtdjhdcaanmkblaaDoor.K

/-
  What is laid in fields is told by them, plainly.
-/
namespace Go.Proofs.YtdjhdcaanmkblaaDoor.K
set_option linter.unusedSimpArgs false
set_option linter.unusedVariables false

theorem stM_eq {m : AM} {a k x : Int} (hw : wholeB k = true) (ht : thr m a k = true) : stM m a k x = laidM m a.toNat (bs (stB x) k.toNat) := by
  obtain ⟨h1, h8⟩ := wholeB_le hw
  unfold stM putM; rw [if_pos hw, bs_size, show ((k.toNat : Nat) : Int) = k by omega, if_pos ht]
theorem ld_st {m : AM} {a k x : Int} (hw : wholeB k = true) (ht : thr m a k = true) (hx : 0 ≤ x) : ldV (stM m a k x) a k = x % 2 ^ (8 * k.toNat) := by
  obtain ⟨h1, h8⟩ := wholeB_le hw
  obtain ⟨n, rfl⟩ := Int.eq_ofNat_of_zero_le hx
  rw [stM_eq hw ht]
  have ht2 : thr (laidM m a.toNat (bs (stB (n : Int)) k.toNat)) a k = true := (thr_same (m := m) (m' := laidM m a.toNat (bs (stB (n : Int)) k.toNat)) rfl rfl a k).trans ht
  rw [← ld_v4 hw ht2, byt_laid ht2 (bs_size _ _), ldN_num (by omega) k.toNat (Nat.le_refl _)]
  rw [Int.natCast_emod, Int.natCast_pow]; rfl
theorem mem_st {m : AM} {a k x : Int} (hw : wholeB k = true) (ht : thr m a k = true) {y : Nat} (hy : (y : Int) < a ∨ a + k ≤ (y : Int)) : (stM m a k x).mem y = m.mem y := by
  obtain ⟨h1, h8⟩ := wholeB_le hw
  obtain ⟨g1, _⟩ := inB_facts (thr_in ht)
  rw [stM_eq hw ht]
  show laidF m.mem a.toNat _ _ y = _
  unfold laidF
  rw [bs_size, if_neg (by omega)]
theorem ld_mem {m m' : AM} {a k : Int} (hc : m'.cap = m.cap) (hm : m'.com = m.com) (h : ∀ y : Nat, a ≤ (y : Int) → (y : Int) < a + k → m'.mem y = m.mem y) : ldV m' a k = ldV m a k := by
  unfold ldV
  rw [thr_same hc hm]
  cases ht : thr m a k with
  | false => simp
  | true =>
    have hb : bytS m' a k = bytS m a k := by
      obtain ⟨g1, _⟩ := inB_facts (thr_in ht)
      unfold bytS
      rw [thr_same hc hm, ht]
      exact bs_congr fun j hj => h _ (by omega) (by omega)
    rw [hb]
theorem stM_com (m : AM) (a k x : Int) : (stM m a k x).cap = m.cap ∧ (stM m a k x).com = m.com := by
  have hp : ∀ (a : Int) (s : ByteArray), (putM m a s).cap = m.cap ∧ (putM m a s).com = m.com := fun a s => by
    unfold putM
    split
    · exact ⟨rfl, rfl⟩
    · exact ⟨rfl, rfl⟩
  unfold stM
  split
  · exact hp _ _
  · exact ⟨rfl, rfl⟩
theorem ld_far {m : AM} {a k x a' k' : Int} (hw : wholeB k = true) (ht : thr m a k = true) (h : a' + k' ≤ a ∨ a + k ≤ a') : ldV (stM m a k x) a' k' = ldV m a' k' := by
  obtain ⟨h1, h8⟩ := wholeB_le hw
  exact ld_mem (stM_com _ _ _ _).1 (stM_com _ _ _ _).2 fun y y1 y2 => mem_st hw ht (by omega)
theorem okw_whole {w : Int} (h : w = 1 ∨ w = 2 ∨ w = 4 ∨ w = 8) : wholeB w = true := by rcases h with rfl | rfl | rfl | rfl <;> rfl

/-- A view with room for a record. -/
structure RecV (l : List Int) (m : AM) (o z : Int) : Prop where
  ok : okW l
  there : thr m o z = true
  room : sumT l l.length ≤ z
namespace RecV
variable {l : List Int} {m : AM} {o z i x : Int}
theorem same {m' : AM} (h : RecV l m o z) (h1 : m'.cap = m.cap) (h2 : m'.com = m.com) : RecV l m' o z := ⟨h.ok, (thr_same h1 h2 o z).trans h.there, h.room⟩
theorem fld (h : RecV l m o z) (hi : hasW l i = true) : wholeB (l.getD i.toNat 0) = true ∧ 0 ≤ sumT l i.toNat ∧ sumT l i.toNat + l.getD i.toNat 0 ≤ z ∧ 1 ≤ l.getD i.toNat 0 ∧ atW l i = sumT l i.toNat := by
  have hh := hasW_in hi
  have h1 := okW_at h.ok (i := i.toNat) (by omega)
  have h2 := sumT_bd h.ok i.toNat
  have h3 := sumT_mono h.ok (i := i.toNat) (n := l.length) (by omega)
  exact ⟨okw_whole h1, h2.1, by have := h.room; omega, by omega, (atW_in hh).symm⟩
theorem at_ (h : RecV l m o z) (hi : hasW l i = true) : thr m (o + sumT l i.toNat) (l.getD i.toNat 0) = true ∧ vchE z (atW l i) (l.getD i.toNat 0) = 0 := by
  obtain ⟨f1, f2, f3, f4, f5⟩ := h.fld hi
  refine ⟨thr_sub h.there (by omega) (by omega) (by omega), ?_⟩
  rw [f5]; exact (vch_yes (by omega)).symm
theorem get (h : RecV l m o z) (hi : hasW l i = true) : getW l m o z i = ldV m (o + sumT l i.toNat) (l.getD i.toNat 0) := by
  obtain ⟨f1, f2, f3, f4, f5⟩ := h.fld hi
  obtain ⟨a1, a2⟩ := h.at_ hi
  unfold getW vldV
  rw [hi, if_pos rfl, f1, if_pos rfl, if_pos a2, f5]
theorem set (h : RecV l m o z) (hi : hasW l i = true) (hf : fitW (l.getD i.toNat 0) x = true) : setM l m o z i x = stM m (o + sumT l i.toNat) (l.getD i.toNat 0) x ∧ setE l m o z i x = 0 := by
  obtain ⟨f1, f2, f3, f4, f5⟩ := h.fld hi
  obtain ⟨a1, a2⟩ := h.at_ hi
  unfold setM setE vstM vstE stE
  rw [hi, if_pos rfl, if_pos rfl, hf, if_pos rfl, if_pos rfl, f1, if_pos rfl, if_pos rfl, if_pos a2, if_pos a2, f5, if_pos rfl, chk_thr a1]
  exact ⟨rfl, rfl⟩
theorem fit_mod {w : Int} (hw : w = 1 ∨ w = 2 ∨ w = 4 ∨ w = 8) (hx : 0 ≤ x ∧ x ≤ 18446744073709551615) (hf : fitW w x = true) : x % 2 ^ (8 * w.toNat) = x := by
  unfold fitW at hf
  rcases hw with rfl | rfl | rfl | rfl
  · have e : (8 * (1 : Int)).toNat = 8 := rfl
    simp [e] at hf
    show x % 2 ^ 8 = x
    omega
  · have e : (8 * (2 : Int)).toNat = 16 := rfl
    simp [e] at hf
    show x % 2 ^ 16 = x
    omega
  · have e : (8 * (4 : Int)).toNat = 32 := rfl
    simp [e] at hf
    show x % 2 ^ 32 = x
    omega
  · show x % 2 ^ 64 = x
    omega
theorem get_same (h : RecV l m o z) (hi : hasW l i = true) (hf : fitW (l.getD i.toNat 0) x = true) (hx : 0 ≤ x ∧ x ≤ 18446744073709551615) : getW l (setM l m o z i x) o z i = x := by
  obtain ⟨f1, _⟩ := h.fld hi
  obtain ⟨a1, _⟩ := h.at_ hi
  have hh := hasW_in hi
  have h2 := h.same (setM_com l m o z i x).1 (setM_com l m o z i x).2
  rw [h2.get hi, (h.set hi hf).1, ld_st f1 a1 hx.1]
  exact fit_mod (okW_at h.ok (by omega)) hx hf
theorem get_other (h : RecV l m o z) {j : Int} (hj : hasW l j = true) (hij : j ≠ i) : getW l (setM l m o z i x) o z j = getW l m o z j := by
  have h2 := h.same (setM_com l m o z i x).1 (setM_com l m o z i x).2
  cases hi : hasW l i with
  | false => rw [← set_4 (m := m) (o := o) (z := z) (x := x) hi]
  | true =>
    cases hf : fitW (l.getD i.toNat 0) x with
    | false => rw [← set_5 (m := m) (o := o) (z := z) hf]
    | true =>
      obtain ⟨f1, f2, f3, f4, _⟩ := h.fld hi
      obtain ⟨a1, _⟩ := h.at_ hi
      have hh := hasW_in hi
      have hh2 := hasW_in hj
      rw [h2.get hj, h.get hj, (h.set hi hf).1]
      refine ld_far f1 a1 ?_
      rcases Int.lt_or_le j i with h3 | h3
      · left; have := sumT_mono h.ok (i := j.toNat) (n := i.toNat) (by omega); omega
      · right; have := sumT_mono h.ok (i := i.toNat) (n := j.toNat) (by omega); omega
theorem put_get (h : RecV l m o z) {nums : Nat → Nat} (hn : ∀ i, i < l.length → nums i ≤ 18446744073709551615) : ∀ k, k ≤ l.length → fitA l nums k = true → ∀ j : Nat, j < k → getW l (putA l o z nums m k) o z (j : Int) = ((nums j : Nat) : Int)
  | 0, _, _, j, hj => absurd hj (by omega)
  | k + 1, hk, hf, j, hj => by
    have hs := h.same (putA_com l o z nums m k).1 (putA_com l o z nums m k).2
    have hf' : fitA l nums k = true ∧ fitW (l.getD k 0) ((nums k : Nat) : Int) = true := by
      have : (fitA l nums k && fitW (l.getD k 0) ((nums k : Nat) : Int)) = true := hf
      simpa using this
    have hnk := hn k (by omega)
    have hhas : ∀ q : Nat, q < l.length → hasW l (q : Int) = true := fun q hq => by unfold hasW; simp; omega
    show getW l (setM l (putA l o z nums m k) o z (k : Int) ((nums k : Nat) : Int)) o z (j : Int) = _
    by_cases e : j = k
    · subst e
      exact hs.get_same (hhas j (by omega)) (by rw [Int.toNat_natCast]; exact hf'.2) (by omega)
    · rw [hs.get_other (hhas j (by omega)) (by omega)]
      exact put_get h hn k (by omega) hf'.1 j (by omega)
theorem zero (h : RecV l m o z) (hm : ∀ x, m.mem x = 0) (hi : hasW l i = true) : getW l m o z i = 0 := by
  obtain ⟨f1, _⟩ := h.fld hi
  obtain ⟨a1, _⟩ := h.at_ hi
  obtain ⟨g1, g8⟩ := wholeB_le f1
  rw [h.get hi, ← ld_v4 f1 a1]
  unfold bytS
  rw [a1, if_pos rfl]
  have e : bs (fun j => m.mem ((o + sumT l i.toNat).toNat + j)) (l.getD i.toNat 0).toNat = bs (stB ((0 : Nat) : Int)) (l.getD i.toNat 0).toNat := bs_congr fun j hj => by
    rw [hm]
    apply UInt8.toNat_inj.1
    rw [stB_nat]; simp
  rw [e, ldN_num (by omega) _ (Nat.le_refl _)]; simp
theorem vb0 (h : RecV l m o z) (hz : z ≤ z) : vbyE m o z 0 (sumT l l.length) = 0 := by
  have hb := sumT_bd h.ok l.length
  have hr := h.room
  have e : vchE z 0 (sumT l l.length) = 0 := (vch_yes (by omega)).symm
  unfold vbyE
  rw [if_pos e, chk_thr (thr_sub h.there (by omega) (by omega) hb.1)]
end RecV
theorem pR_bad {l : List Int} {m : AM} {o z : Int} {nums : Nat → Nat} (h : RecV l m o z) (he : pRE l l.length nums m o z ≠ 0) : pRE l l.length nums m o z = 16 ∧ pRM l l.length nums m o z = m := by
  have hv := h.vb0 (Int.le_refl _)
  have hn : ¬ l.length ≠ l.length := fun q => q rfl
  cases hf : fitA l nums l.length with
  | false => unfold pRE pRM; rw [if_neg hn, if_neg hn, hf]; exact ⟨rfl, rfl⟩
  | true =>
    exfalso; apply he
    unfold pRE; rw [if_neg hn, hf, if_pos rfl, hv]
theorem pR_good {l : List Int} {m : AM} {o z : Int} {nums : Nat → Nat} (h : RecV l m o z) (he : pRE l l.length nums m o z = 0) : fitA l nums l.length = true ∧ pRM l l.length nums m o z = putA l o z nums m l.length := by
  have hv := h.vb0 (Int.le_refl _)
  have hn : ¬ l.length ≠ l.length := fun q => q rfl
  cases hf : fitA l nums l.length with
  | false => exfalso; unfold pRE at he; rw [if_neg hn, hf] at he; simp at he
  | true => unfold pRM; rw [if_neg hn, hf, if_pos rfl, if_pos hv]; exact ⟨rfl, rfl⟩
theorem field_back0 {l : List Int} {m : AM} {o z : Int} {nums : Nat → Nat} (h : RecV l m o z) (hn : ∀ i, i < l.length → nums i ≤ 18446744073709551615) (hp : pRE l l.length nums m o z = 0) : ∀ j : Nat, j < l.length → getW l (pRM l l.length nums m o z) o z (j : Int) = ((nums j : Nat) : Int) := by
  obtain ⟨hf, e⟩ := pR_good h hp
  intro j hj
  rw [e]
  exact h.put_get hn l.length (Nat.le_refl _) hf j hj
end Go.Proofs.YtdjhdcaanmkblaaDoor.K

/-
  A walk by computing: records of numbers that are compared.
-/
namespace Go.Proofs.YtdjhdcaanmkblaaDoor.K
set_option linter.unusedSimpArgs false
set_option linter.unusedVariables false

section
variable {P : Program} {c : Cx} {n : Nat} {E : Env} {H : Heap} {A : List Res} {a : Act} {w : World} {o : Oper}
end
section
variable {P : Program} {c : Cx} {n : Nat} {E : Env} {H Hf : Heap} {A : List Res} {a : Act} {w : World} {ops : Array Oper} {R : Act → World → Prop} {Q : Exit → Act → World → Prop}
end
end Go.Proofs.YtdjhdcaanmkblaaDoor.K

/-
  A chunk's header that is written, read, wiped: plainly.
-/
namespace Go.Proofs.YtdjhdcaanmkblaaDoor.K
set_option linter.unusedSimpArgs false
set_option linter.unusedVariables false

theorem setM_far {l : List Int} {m : AM} {o z i x : Int} (h : RecV l m o z) {y : Nat} (hy : (y : Int) < o ∨ o + z ≤ (y : Int)) : (setM l m o z i x).mem y = m.mem y := by
  cases hi : hasW l i with
  | false => rw [← set_4 (m := m) (o := o) (z := z) (x := x) hi]
  | true =>
    cases hf : fitW (l.getD i.toNat 0) x with
    | false => rw [← set_5 (m := m) (o := o) (z := z) hf]
    | true =>
      obtain ⟨f1, f2, f3, f4, _⟩ := h.fld hi
      rw [(h.set hi hf).1]
      exact mem_st f1 (h.at_ hi).1 (by omega)
theorem putA_far {l : List Int} {m : AM} {o z : Int} {nums : Nat → Nat} (h : RecV l m o z) {y : Nat} (hy : (y : Int) < o ∨ o + z ≤ (y : Int)) : ∀ k, (putA l o z nums m k).mem y = m.mem y
  | 0 => rfl
  | k + 1 => by
    show (setM l (putA l o z nums m k) o z _ _).mem y = _
    rw [setM_far (h.same (putA_com l o z nums m k).1 (putA_com l o z nums m k).2) hy, putA_far h hy k]
theorem pRM_far {l : List Int} {m : AM} {o z : Int} {nums : Nat → Nat} (h : RecV l m o z) {y : Nat} (hy : (y : Int) < o ∨ o + z ≤ (y : Int)) (nn : Nat) : (pRM l nn nums m o z).mem y = m.mem y := by
  unfold pRM
  split
  · rfl
  · split
    · split
      · exact putA_far h hy _
      · rfl
    · rfl

section
variable {m : AM} {at_ ord own nx : Int}
theorem rec_c (h : thr m at_ 32 = true) : RecV cRec m at_ 32 := ⟨cRec_ok, h, by decide⟩
theorem wrc_bad (h : wrcE m at_ ord own nx ≠ 0) : wrcM m at_ ord own nx = m := by
  unfold wrcE at h; unfold wrcM
  cases hb : badC at_ ord nx with
  | true => rfl
  | false =>
    rw [hb] at h
    cases ht : thr m at_ 32 with
    | false => rfl
    | true =>
      rw [ht] at h
      exact (pR_bad (rec_c ht) h).2
theorem wrc_good (h : wrcE m at_ ord own nx = 0) : badC at_ ord nx = false ∧ thr m at_ 32 = true ∧ pRE cRec 4 (cNum ord own nx) m at_ 32 = 0 ∧ wrcM m at_ ord own nx = pRM cRec 4 (cNum ord own nx) m at_ 32 := by
  unfold wrcE at h; unfold wrcM
  cases hb : badC at_ ord nx with
  | true => rw [hb] at h; simp at h
  | false =>
    rw [hb] at h
    cases ht : thr m at_ 32 with
    | false => rw [ht] at h; simp at h
    | true => rw [ht] at h; exact ⟨rfl, rfl, h, rfl⟩
theorem badC_in (h : badC at_ ord nx = false) : 0 ≤ at_ ∧ at_ % 4096 = 0 ∧ 0 ≤ nx ∧ spanV ord ≠ 0 ∧ 0 ≤ ord ∧ ord ≤ 10 := by
  unfold badC at h
  simp at h
  have := span_pos h.2
  exact ⟨by omega, h.1.1.2, by omega, h.2, this.1, this.2⟩
theorem wrcM_com (m : AM) (at_ ord own nx : Int) : (wrcM m at_ ord own nx).cap = m.cap ∧ (wrcM m at_ ord own nx).com = m.com := by
  unfold wrcM
  split
  · exact ⟨rfl, rfl⟩
  · split
    · exact pRM_com _ _ _ _ _ _
    · exact ⟨rfl, rfl⟩
theorem wrcM_far {y : Nat} (hy : (y : Int) < at_ ∨ at_ + 32 ≤ (y : Int)) : (wrcM m at_ ord own nx).mem y = m.mem y := by
  unfold wrcM
  split
  · rfl
  · split
    · rename_i _ ht; exact pRM_far (rec_c ht) hy 4
    · rfl
theorem wrap_i64_in {x : Int} (h : 0 ≤ x ∧ x ≤ 9223372036854775807) : IntKind.wrap .i64 x = x := i64_in (by omega)
theorem cNum_le (ho : 0 ≤ ord ∧ ord ≤ 10) (hw : 0 ≤ own ∧ own ≤ 18446744073709551615 ∧ nx ≤ 9223372036854775807) : ∀ i, i < cRec.length → cNum ord own nx i ≤ 18446744073709551615 := by
  intro i _
  unfold cNum
  split
  · decide
  · split
    · omega
    · split <;> omega
/-- What was written is read. -/
theorem wrc_read (h : wrcE m at_ ord own nx = 0) (hw : 0 ≤ own ∧ own ≤ 18446744073709551615 ∧ nx ≤ 9223372036854775807) :
    ((rdAt (wrcM m at_ ord own nx) at_ = at_ ∧ rdOrd (wrcM m at_ ord own nx) at_ = ord) ∧ (rdOwn (wrcM m at_ ord own nx) at_ = own ∧ rdNx (wrcM m at_ ord own nx) at_ = nx)) ∧ rdE (wrcM m at_ ord own nx) at_ = 0 := by
  obtain ⟨hb, ht, hp, hm⟩ := wrc_good h
  obtain ⟨b1, b2, b3, b4, b5, b6⟩ := badC_in hb
  have hc := wrcM_com m at_ ord own nx
  have ht2 : thr (wrcM m at_ ord own nx) at_ 32 = true := (thr_same hc.1 hc.2 _ _).trans ht
  have hg := field_back0 (rec_c ht) (cNum_le ⟨b5, b6⟩ hw) hp
  have g0 : rdN (wrcM m at_ ord own nx) at_ 0 = 1263421507 := by rw [hm]; exact hg 0 (by decide)
  have g1 : rdN (wrcM m at_ ord own nx) at_ 1 = ord := by rw [hm]; exact (hg 1 (by decide)).trans (Int.toNat_of_nonneg b5)
  have g2 : rdN (wrcM m at_ ord own nx) at_ 2 = own := by rw [hm]; exact (hg 2 (by decide)).trans (Int.toNat_of_nonneg hw.1)
  have g3 : rdN (wrcM m at_ ord own nx) at_ 3 = nx := by rw [hm]; exact (hg 3 (by decide)).trans (Int.toNat_of_nonneg b3)
  have hbr : badR (wrcM m at_ ord own nx) at_ = false := by
    unfold badR
    rw [g0, g1, g3, wrap_i64_in (by omega), wrap_i64_in (by omega)]
    simp [b2, b4, b3]
  have hok := rdOk_yes ht2 hbr
  have hy := rd_yes hok.1
  rw [g1, g2, g3, wrap_i64_in (by omega), wrap_i64_in (by omega)] at hy
  exact ⟨⟨⟨hy.1.symm, hy.2.1.symm⟩, hy.2.2.1.symm, hy.2.2.2.symm⟩, hok.2⟩
end

section
variable {s : ByteArray} {at_ ord own nx : Int}
end
end Go.Proofs.YtdjhdcaanmkblaaDoor.K

/-
  Lists of what is to be done, as lists.
-/
namespace Go.Proofs.YtdjhdcaanmkblaaDoor.K
set_option linter.unusedSimpArgs false
set_option linter.unusedVariables false

abbrev Ent := Int × Int × Int × Int
def Ent.ok (e : Ent) : Prop := (0 ≤ e.1 ∧ e.1 ≤ 281474976710655) ∧ (0 ≤ e.2.1 ∧ e.2.1 ≤ 255) ∧ (0 ≤ e.2.2.1 ∧ e.2.2.1 ≤ 255) ∧ 0 ≤ e.2.2.2 ∧ e.2.2.2 ≤ 18446744073709551615
theorem eN0_eq {id kd lv : Int} (h : (0 ≤ id ∧ id ≤ 281474976710655) ∧ (0 ≤ kd ∧ kd ≤ 255) ∧ (0 ≤ lv ∧ lv ≤ 255)) : eN0 id kd lv = id * 65536 + lv * 256 + kd := by
  obtain ⟨⟨h1, h2⟩, ⟨h3, h4⟩, h5, h6⟩ := h
  obtain ⟨a, rfl⟩ := Int.eq_ofNat_of_zero_le h1
  obtain ⟨b, rfl⟩ := Int.eq_ofNat_of_zero_le h3
  obtain ⟨c, rfl⟩ := Int.eq_ofNat_of_zero_le h5
  have e1 : IntKind.wrap .u64 ((a : Int) * 2 ^ 16) = ((2 ^ 16 * a : Nat) : Int) := by rw [u64_in (by omega)]; omega
  have e2 : IntKind.wrap .u64 ((c : Int) * 2 ^ 8) = ((2 ^ 8 * c : Nat) : Int) := by rw [u64_in (by omega)]; omega
  have ea : a ≤ 281474976710655 := by omega
  have eb : b ≤ 255 := by omega
  have ec : c ≤ 255 := by omega
  unfold eN0
  rw [e1, e2, ior_u (by omega) (by omega), ← Nat.two_pow_add_eq_or_of_lt (by omega) a]
  have e3 : 2 ^ 16 * a + 2 ^ 8 * c = 2 ^ 8 * (2 ^ 8 * a + c) := by omega
  rw [e3, ior_u (by omega) (by omega), ← Nat.two_pow_add_eq_or_of_lt (by omega) (2 ^ 8 * a + c)]
  omega
theorem eN0_parts {id kd lv : Int} (h : (0 ≤ id ∧ id ≤ 281474976710655) ∧ (0 ≤ kd ∧ kd ≤ 255) ∧ (0 ≤ lv ∧ lv ≤ 255)) : eN0 id kd lv / 65536 = id ∧ IntKind.wrap .u8 (eN0 id kd lv) = kd ∧ IntKind.wrap .u8 (eN0 id kd lv / 256) = lv := by
  rw [eN0_eq h, IntKind.wrap_u8, IntKind.wrap_u8]
  omega
theorem getW_mem {l : List Int} {m m' : AM} {o z : Int} (h : RecV l m o z) (hc : m'.cap = m.cap) (hm : m'.com = m.com) (hy : ∀ y : Nat, o ≤ (y : Int) → (y : Int) < o + z → m'.mem y = m.mem y) (i : Int) : getW l m' o z i = getW l m o z i := by
  cases hi : hasW l i with
  | false => unfold getW; rw [hi, if_neg Bool.false_ne_true, if_neg Bool.false_ne_true]
  | true =>
    obtain ⟨f1, f2, f3, f4, f5⟩ := h.fld hi
    rw [h.get hi, (h.same hc hm).get hi]
    exact ld_mem hc hm fun y h1 h2 => hy y (by omega) (by omega)
theorem oRec_fit (nums : Nat → Nat) : fitA oRec nums oRec.length = true := by
  show ((true && fitW 8 _) && fitW 8 _) = true
  unfold fitW; rfl
section
variable {m : AM} {o z i : Int}
theorem oRec_at (ht : thr m o z = true) (h0 : 0 ≤ i) (h1 : i < cSl z) : RecV oRec m (o + i * 24) 24 := ⟨oRec_ok, thr_sub ht (by omega) (by unfold cSl at h1; omega) (by decide), by decide⟩
theorem oRec_pE (ht : thr m o z = true) (h0 : 0 ≤ i) (h1 : i < cSl z) (nums : Nat → Nat) : pRE oRec oRec.length nums m (o + i * 24) 24 = 0 := by
  unfold pRE
  rw [if_neg (fun q => q rfl), oRec_fit, if_pos rfl]
  exact (oRec_at ht h0 h1).vb0 (Int.le_refl _)
theorem cPutM_ent (ht : thr m o z = true) (h0 : 0 ≤ i) (h1 : i < cSl z) {e : Ent} (he : e.ok) {j : Nat} (hj : (j : Int) < cSl z) : cEnt (cPutM m o i e.1 e.2.1 e.2.2.1 e.2.2.2) o j = if (j : Int) = i then e else cEnt m o j := by
  obtain ⟨q1, q2, q3, q4⟩ := he
  split
  · rename_i hji
    have hle : ∀ k, k < oRec.length → eNum e.1 e.2.1 e.2.2.1 e.2.2.2 k ≤ 18446744073709551615 := by
      intro k _
      have := eN0_rng e.1 e.2.1 e.2.2.1
      unfold eNum
      split <;> omega
    have hg := field_back0 (oRec_at ht h0 h1) hle (oRec_pE ht h0 h1 _)
    have n0 : cN0 (cPutM m o i e.1 e.2.1 e.2.2.1 e.2.2.2) o j = eN0 e.1 e.2.1 e.2.2.1 := by rw [hji]; exact (hg 0 (by decide)).trans (Int.toNat_of_nonneg (eN0_rng _ _ _).1)
    have n1 : cN1 (cPutM m o i e.1 e.2.1 e.2.2.1 e.2.2.2) o j = e.2.2.2 := by rw [hji]; exact (hg 1 (by decide)).trans (Int.toNat_of_nonneg q4.1)
    obtain ⟨p1, p2, p3⟩ := eN0_parts ⟨q1, q2, q3⟩
    unfold cEnt cId cKd cLv
    rw [n0, n1, p1, p2, p3]
  · rename_i hji
    have hR := oRec_at (i := (j : Int)) ht (by omega) hj
    have hfar := oRec_at ht h0 h1
    have hs : ∀ k, getW oRec (cPutM m o i e.1 e.2.1 e.2.2.1 e.2.2.2) (o + (j : Int) * 24) 24 k = getW oRec m (o + (j : Int) * 24) 24 k := getW_mem hR (pRM_com _ _ _ _ _ _).1 (pRM_com _ _ _ _ _ _).2 fun y y1 y2 => pRM_far hfar (by omega) _
    unfold cEnt cId cKd cLv cN0 cN1
    rw [hs, hs]
end

/-- Slots that hold what a function tells. -/
structure Slots (m : AM) (o z : Int) (f : Nat → Ent) : Prop where
  there : thr m o z = true
  all : ∀ j : Nat, (j : Int) < cSl z → cEnt m o j = f j
theorem Slots.put {m : AM} {o z : Int} {f : Nat → Ent} (h : Slots m o z f) {i : Nat} (hi : (i : Int) < cSl z) {e : Ent} (he : e.ok) : Slots (cPutM m o (i : Int) e.1 e.2.1 e.2.2.1 e.2.2.2) o z (fun j => if j = i then e else f j) := by
  refine ⟨(cPutM_thr _ _ _ _ _ _ _ _ _).trans h.there, fun j hj => ?_⟩
  rw [cPutM_ent h.there (by omega) hi he hj]
  by_cases hji : j = i
  · rw [if_pos (by omega), if_pos hji]
  · rw [if_neg (by omega), if_neg hji]; exact h.all j hj
def noEnt : Ent := (0, 0, 0, 0)
/-- A list's entries. -/
structure HL (m : AM) (o z : Int) (L : List Ent) : Prop where
  slots : Slots m o z (fun i => L.getD i noEnt)
  len : (L.length : Int) ≤ cSl z
  good : ∀ e, e ∈ L → e.ok ∧ e.1 ≠ 0
section
variable {m : AM} {o z : Int} {L : List Ent}
theorem HL.id (h : HL m o z L) {j : Nat} (hj : (j : Int) < cSl z) : cId m o (j : Int) = (L.getD j noEnt).1 := congrArg Prod.fst (h.slots.all j hj)
theorem getD_in {L : List Ent} {j : Nat} (h : j < L.length) : L.getD j noEnt ∈ L := by
  rw [List.getD_eq_getElem?_getD, List.getElem?_eq_getElem h]; exact List.getElem_mem h
theorem getD_out {L : List Ent} {j : Nat} (h : L.length ≤ j) : L.getD j noEnt = noEnt := by
  rw [List.getD_eq_getElem?_getD, List.getElem?_eq_none h]; rfl
theorem HL.ids (h : HL m o z L) {j : Nat} (hj : j < L.length) : cId m o (j : Int) ≠ 0 := by
  rw [h.id (by have := h.len; omega)]; exact (h.good _ (getD_in hj)).2
theorem HL.noUp (h : HL m o z L) : NoUp (cNo m o) ((L.length : Nat) : Int) := fun j hj => by
  unfold cNo
  have := h.ids (j := j) (by omega)
  simpa using this
theorem HL.cnt (h : HL m o z L) : cCnt m o z = L.length := by
  have hl := h.len
  rcases Int.lt_or_le (L.length : Int) (cSl z) with h1 | h1
  · have := cCnt_at h.noUp (by omega) h1 (by rw [h.id h1, getD_out (Nat.le_refl _)]; rfl)
    rw [this]; omega
  · have := cCnt_end h.noUp (by omega) hl (by omega)
    rw [this]; omega
theorem HL.fresh (h : HL m o z L) {id : Int} (hid : ∀ e, e ∈ L → e.1 ≠ id) : cFind m o z id = -1 := by
  refine (cFind_no (x := ((L.length : Nat) : Int)) (fun j hj => ?_) (by rw [h.cnt]; omega)).symm
  unfold cIs
  rw [h.id (by have := h.len; omega)]
  have := hid _ (getD_in (L := L) (j := j) (by omega))
  simpa using this
theorem HL.found (h : HL m o z L) {L1 L2 : List Ent} {e : Ent} (hL : L = L1 ++ e :: L2) (hid : ∀ x, x ∈ L1 → x.1 ≠ e.1) : cFind m o z e.1 = ((L1.length : Nat) : Int) := by
  have hlen : L.length = L1.length + (L2.length + 1) := by rw [hL]; simp
  have hl := h.len
  refine (cFind_at (x := ((L1.length : Nat) : Int)) (fun j hj => ?_) (by omega) (by rw [h.cnt]; omega) ?_).symm
  · unfold cIs
    rw [h.id (by omega), hL]
    have hj' : j < L1.length := by omega
    have e2 : (L1 ++ e :: L2).getD j noEnt = L1.getD j noEnt := by
      rw [List.getD_eq_getElem?_getD, List.getD_eq_getElem?_getD, List.getElem?_append_left hj']
    rw [e2]
    simpa using hid _ (getD_in hj')
  · rw [h.id (by omega), hL]
    rw [List.getD_eq_getElem?_getD, List.getElem?_append_right (Nat.le_refl _)]; simp
theorem HL.at_ (h : HL m o z L) {L1 L2 : List Ent} {e : Ent} (hL : L = L1 ++ e :: L2) : cEnt m o L1.length = e := by
  have hlen : L.length = L1.length + (L2.length + 1) := by rw [hL]; simp
  have hl := h.len
  rw [h.slots.all _ (by omega), hL]
  rw [List.getD_eq_getElem?_getD, List.getElem?_append_right (Nat.le_refl _)]; simp
/-- An entry more. -/
theorem HL.add (h : HL m o z L) {id kd lv ar : Int} (he : Ent.ok (id, kd, lv, ar)) (h0 : id ≠ 0) (hid : ∀ e, e ∈ L → e.1 ≠ id) (hl : (L.length : Int) < cSl z) : addE m o z id = 0 ∧ HL (addM m o z id kd lv ar) o z (L ++ [(id, kd, lv, ar)]) := by
  have hc := h.cnt
  have hA := add_4 (m := m) (o := o) (z := z) (id := id) (kd := kd) (lv := lv) (ar := ar) (by have := he.1; simp at this; omega) (by rw [h.fresh hid]; omega) (by rw [hc]; omega)
  refine ⟨hA.1.symm, ?_⟩
  rw [← hA.2, hc]
  have hp := h.slots.put (i := L.length) hl he
  refine ⟨⟨hp.there, fun j hj => (hp.all j hj).trans ?_⟩, by simp; omega, fun e hm => ?_⟩
  · show (if j = L.length then (id, kd, lv, ar) else L.getD j noEnt) = _
    rw [List.getD_eq_getElem?_getD, List.getD_eq_getElem?_getD]
    rcases Nat.lt_trichotomy j L.length with h1 | h1 | h1
    · rw [if_neg (by omega), List.getElem?_append_left h1]
    · rw [if_pos h1, h1, List.getElem?_append_right (Nat.le_refl _)]; simp
    · rw [if_neg (by omega), List.getElem?_eq_none (by omega), List.getElem?_eq_none (by simp; omega)]
  · rcases List.mem_append.1 hm with h1 | h1
    · exact h.good e h1
    · rw [List.mem_singleton.1 h1]; exact ⟨he, h0⟩
end
end Go.Proofs.YtdjhdcaanmkblaaDoor.K

/-
  Entries that come, and go, and come out again: plainly.
-/
namespace Go.Proofs.YtdjhdcaanmkblaaDoor.K
set_option linter.unusedSimpArgs false
set_option linter.unusedVariables false

section
variable {q : Nat → Bool} {kf : Nat → UInt8} {k n : Nat}
end
section
variable {q : Nat → Bool} {kf : Nat → UInt8} {n : Nat} {m : AM} {x y : Int}
end
end Go.Proofs.YtdjhdcaanmkblaaDoor.K

/-
  A walk by computing: lists of elements of any number of cells: made, copied, appended to one another; lists that may be nothing.
-/
namespace Go.Proofs.YtdjhdcaanmkblaaDoor.K
set_option linter.unusedSimpArgs false
set_option linter.unusedVariables false

/-- Of a block that is there nothing is told. -/
theorem HE.fn_none {w : World} {b lo hi o k : Nat} {f f' : Nat → Value} (h : HE.holds w b (.fn lo hi f)) (hk : k = 0) : HE.holds w b (.fn o (o + k) f') := by
  subst hk
  obtain ⟨c, T, fz, hc, _⟩ := h
  exact ⟨c, T, fz, hc, fun x h1 h2 => by have h1 : o ≤ x := h1; have h2 : x < o + 0 := h2; omega⟩
theorem CellsV.none {w : World} {b o k : Nat} {F : Nat → Value} (h : k = 0) : CellsV w b o k F := fun j hj => absurd hj (by omega)

section
variable {P : Program} {c : Cx} {n : Nat} {E : Env} {H : Heap} {A : List Res} {a : Act} {w : World} {o : Oper}

end

/-! ## Lists of elements of some kinds -/
/-- The element at a place. -/
def gtD {α : Type} [Inhabited α] (l : List α) (i : Nat) : α := l.getD i default
theorem gtD_lt {α : Type} [Inhabited α] {l : List α} {i : Nat} (h : i < l.length) : gtD l i = l[i] := by
  unfold gtD; rw [List.getD_eq_getElem?_getD, List.getElem?_eq_getElem h]; rfl
theorem gtD_app {α : Type} [Inhabited α] (l k : List α) (i : Nat) : gtD (l ++ k) i = if i < l.length then gtD l i else gtD k (i - l.length) := by
  unfold gtD
  simp only [List.getD_eq_getElem?_getD, List.getElem?_append]
  split <;> rfl
theorem gtD_set {α : Type} [Inhabited α] (l : List α) (i : Nat) (x : α) (j : Nat) (h : i < l.length) : gtD (l.set i x) j = if j = i then x else gtD l j := by
  unfold gtD
  simp only [List.getD_eq_getElem?_getD, List.getElem?_set]
  by_cases e : i = j
  · subst e; rw [if_pos rfl, if_pos rfl, if_pos h]; rfl
  · rw [if_neg e, if_neg (fun q => e q.symm)]
end Go.Proofs.YtdjhdcaanmkblaaDoor.K

/-
  Rows of structs, told by functions of the place.
-/
namespace Go.Proofs.YtdjhdcaanmkblaaDoor.K
set_option linter.unusedSimpArgs false
set_option linter.unusedVariables false
section
end

section
end

section
end

section
end

section
end

section
end

section
end

section
end

section
end

section
end

section
end

section
end

section
end

section
end

section
end

section
end

end Go.Proofs.YtdjhdcaanmkblaaDoor.K
