/-
  Sizes and chunks, plainly.
-/
import Derived.Test.YtnbkafnikpbmbaaDoorM4
namespace Go.Proofs.YtnbkafnikpbmbaaDoor.K
set_option linter.unusedSimpArgs false
set_option linter.unusedVariables false

def z_whole (a : Int) : Bool := decide (1 ≤ a) && decide (a ≤ 4096) && (iand .i64 a (IntKind.wrap .i64 (a - 1)) == 0)
/-! ## Bits of z_whole numbers -/

def z_spanOk (o : Int) : Bool := decide (0 ≤ o) && decide (o ≤ 10)
def spanV (o : Int) : Int := if z_spanOk o then 4096 * 2 ^ o.toNat else 0

/-- Bytes that are there: each page of theirs is. -/
theorem thr_sub {m : AM} {a n a' n' : Int} (h : thr m a n = true) (h1 : a ≤ a') (h2 : a' + n' ≤ a + n) (h0 : 0 ≤ n') : thr m a' n' = true := by
  obtain ⟨g1, g2, g3, g4⟩ := inB_facts (thr_in h)
  have hp := fun x => thr_page (x := x) h
  unfold thr inB
  simp only [Bool.and_eq_true, Bool.or_eq_true, decide_eq_true_eq]
  refine ⟨by omega, ?_⟩
  rcases Int.lt_or_le 0 n' with h3 | h3
  · right
    rw [cntR_all (b := true) (pgN a' n') (pg0 a')]
    · rfl
    · intro x hx1 hx2
      unfold pg0 at hx1 hx2
      unfold pgN at hx2
      have hq : ∃ y : Int, a' ≤ y ∧ y < a' + n' ∧ (y / 4096).toNat = x := by
        rcases Int.lt_or_le (4096 * (x : Int)) a' with h4 | h4
        · exact ⟨a', by omega, by omega, by omega⟩
        · exact ⟨4096 * (x : Int), h4, by omega, by omega⟩
      obtain ⟨y, y1, y2, y3⟩ := hq
      have := (hp y (by omega) (by omega)).2
      rwa [y3] at this
  · left; omega

/-- A chunk's record: the widths of its header's fields. -/
def cRec : List Int := [4, 4, 8, 8]
def oRec : List Int := [8, 8]
theorem cRec_ok : okW cRec := by decide
theorem oRec_ok : okW oRec := by decide
def badC (at_ ord nx : Int) : Bool := ((decide (at_ < 0) || at_ % 4096 != 0) || decide (nx < 0)) || spanV ord == 0
def cNum (ord own nx : Int) (i : Nat) : Nat := if i = 0 then 1263421507 else if i = 1 then ord.toNat else if i = 2 then own.toNat else nx.toNat
def wrcE (m : AM) (at_ ord own nx : Int) : Int := if badC at_ ord nx then 2 else if thr m at_ 32 then pRE cRec 4 (cNum ord own nx) m at_ 32 else 3
def wrcM (m : AM) (at_ ord own nx : Int) : AM := if badC at_ ord nx then m else if thr m at_ 32 then pRM cRec 4 (cNum ord own nx) m at_ 32 else m
theorem span_pos {o : Int} (h : spanV o ≠ 0) : 0 ≤ o ∧ o ≤ 10 := by
  unfold spanV at h
  split at h
  · rename_i hs; unfold z_spanOk at hs; simpa using hs
  · exact absurd rfl h
theorem badC_no {at_ ord nx : Int} (h1 : ¬ at_ < 0) (h2 : at_ % 4096 = 0) (h3 : ¬ nx < 0) (h4 : spanV ord ≠ 0) : badC at_ ord nx = false := by
  unfold badC; simp [h1, h2, h3, h4]
/-- What stands where a chunk's header should be. -/
def rdN (m : AM) (at_ : Int) (i : Int) : Int := getW cRec m at_ 32 i
def badR (m : AM) (at_ : Int) : Bool := ((rdN m at_ 0 != 1263421507 || at_ % 4096 != 0) || spanV (IntKind.wrap .i64 (rdN m at_ 1)) == 0) || decide (IntKind.wrap .i64 (rdN m at_ 3) < 0)
def rdE (m : AM) (at_ : Int) : Int := if thr m at_ 32 then (if badR m at_ then 7 else 0) else 3
def rdOk (m : AM) (at_ : Int) : Bool := thr m at_ 32 && !badR m at_
def rdAt (m : AM) (at_ : Int) : Int := if rdOk m at_ then at_ else 0
def rdOrd (m : AM) (at_ : Int) : Int := if rdOk m at_ then IntKind.wrap .i64 (rdN m at_ 1) else 0
def rdOwn (m : AM) (at_ : Int) : Int := if rdOk m at_ then rdN m at_ 2 else 0
def rdNx (m : AM) (at_ : Int) : Int := if rdOk m at_ then IntKind.wrap .i64 (rdN m at_ 3) else 0
theorem rd_no {m : AM} {at_ : Int} (h : rdOk m at_ = false) : 0 = rdAt m at_ ∧ 0 = rdOrd m at_ ∧ 0 = rdOwn m at_ ∧ 0 = rdNx m at_ := by
  unfold rdAt rdOrd rdOwn rdNx; rw [h]; exact ⟨rfl, rfl, rfl, rfl⟩
theorem rd_yes {m : AM} {at_ : Int} (h : rdOk m at_ = true) : at_ = rdAt m at_ ∧ IntKind.wrap .i64 (rdN m at_ 1) = rdOrd m at_ ∧ rdN m at_ 2 = rdOwn m at_ ∧ IntKind.wrap .i64 (rdN m at_ 3) = rdNx m at_ := by
  unfold rdAt rdOrd rdOwn rdNx; rw [h]; exact ⟨rfl, rfl, rfl, rfl⟩
theorem rdOk_no1 {m : AM} {at_ : Int} (h : thr m at_ 32 = false) : rdOk m at_ = false ∧ rdE m at_ = 3 := by unfold rdOk rdE; rw [h]; exact ⟨rfl, rfl⟩
theorem rdOk_no2 {m : AM} {at_ : Int} (h : thr m at_ 32 = true) (hb : badR m at_ = true) : rdOk m at_ = false ∧ rdE m at_ = 7 := by unfold rdOk rdE; rw [h, hb]; exact ⟨rfl, rfl⟩
theorem rdOk_yes {m : AM} {at_ : Int} (h : thr m at_ 32 = true) (hb : badR m at_ = false) : rdOk m at_ = true ∧ rdE m at_ = 0 := by unfold rdOk rdE; rw [h, hb]; exact ⟨rfl, rfl⟩

end Go.Proofs.YtnbkafnikpbmbaaDoor.K
