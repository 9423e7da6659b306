/-
  Sizes and chunks, plainly.
-/
import Derived.Test.YthgkiieenojcpaaDoorM4
namespace Go.Proofs.YthgkiieenojcpaaDoor.K
set_option linter.unusedSimpArgs false
set_option linter.unusedVariables false

def z_whole (a : Int) : Bool := decide (1 ≤ a) && decide (a ≤ 4096) && (iand .i64 a (IntKind.wrap .i64 (a - 1)) == 0)
/-! ## Bits of z_whole numbers -/

def z_spanOk (o : Int) : Bool := decide (0 ≤ o) && decide (o ≤ 10)
def spanV (o : Int) : Int := if z_spanOk o then 4096 * 2 ^ o.toNat else 0

/-- Bytes that are there: each page of theirs is. -/
theorem thr_sub {m : AM} {a n a' n' : Int} (h : thr m a n = true) (h1 : a ≤ a') (h2 : a' + n' ≤ a + n) (h0 : 0 ≤ n') : thr m a' n' = true := by
  obtain ⟨g1, g2, g3, g4⟩ := inB_facts (thr_in h)
  have hp := fun x => thr_page (x := x) h
  unfold thr inB
  simp only [Bool.and_eq_true, Bool.or_eq_true, decide_eq_true_eq]
  refine ⟨by omega, ?_⟩
  rcases Int.lt_or_le 0 n' with h3 | h3
  · right
    rw [cntR_all (b := true) (pgN a' n') (pg0 a')]
    · rfl
    · intro x hx1 hx2
      unfold pg0 at hx1 hx2
      unfold pgN at hx2
      have hq : ∃ y : Int, a' ≤ y ∧ y < a' + n' ∧ (y / 4096).toNat = x := by
        rcases Int.lt_or_le (4096 * (x : Int)) a' with h4 | h4
        · exact ⟨a', by omega, by omega, by omega⟩
        · exact ⟨4096 * (x : Int), h4, by omega, by omega⟩
      obtain ⟨y, y1, y2, y3⟩ := hq
      have := (hp y (by omega) (by omega)).2
      rwa [y3] at this
  · left; omega

/-- A chunk's record: the widths of its header's fields. -/
def cRec : List Int := [4, 4, 8, 8]
def oRec : List Int := [8, 8]
theorem cRec_ok : okW cRec := by decide
theorem oRec_ok : okW oRec := by decide
/-- What stands where a chunk's header should be. -/
def rdN (m : AM) (at_ : Int) (i : Int) : Int := getW cRec m at_ 32 i
def badR (m : AM) (at_ : Int) : Bool := ((rdN m at_ 0 != 1263421507 || at_ % 4096 != 0) || spanV (IntKind.wrap .i64 (rdN m at_ 1)) == 0) || decide (IntKind.wrap .i64 (rdN m at_ 3) < 0)
def rdE (m : AM) (at_ : Int) : Int := if thr m at_ 32 then (if badR m at_ then 7 else 0) else 3
def rdOk (m : AM) (at_ : Int) : Bool := thr m at_ 32 && !badR m at_
def rdAt (m : AM) (at_ : Int) : Int := if rdOk m at_ then at_ else 0
def rdOrd (m : AM) (at_ : Int) : Int := if rdOk m at_ then IntKind.wrap .i64 (rdN m at_ 1) else 0
def rdOwn (m : AM) (at_ : Int) : Int := if rdOk m at_ then rdN m at_ 2 else 0
def rdNx (m : AM) (at_ : Int) : Int := if rdOk m at_ then IntKind.wrap .i64 (rdN m at_ 3) else 0
end Go.Proofs.YthgkiieenojcpaaDoor.K
