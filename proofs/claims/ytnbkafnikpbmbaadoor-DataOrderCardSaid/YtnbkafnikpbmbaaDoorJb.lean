/-
  A chunk's header that is written, read, wiped: plainly.
-/
import Derived.Test.YtnbkafnikpbmbaaDoorJa
import Derived.Test.YtnbkafnikpbmbaaDoorGc
import Derived.Test.YtnbkafnikpbmbaaDoorHa
namespace Go.Proofs.YtnbkafnikpbmbaaDoor.K
set_option linter.unusedSimpArgs false
set_option linter.unusedVariables false

theorem setM_far {l : List Int} {m : AM} {o z i x : Int} (h : RecV l m o z) {y : Nat} (hy : (y : Int) < o ∨ o + z ≤ (y : Int)) : (setM l m o z i x).mem y = m.mem y := by
  cases hi : hasW l i with
  | false => rw [← set_4 (m := m) (o := o) (z := z) (x := x) hi]
  | true =>
    cases hf : fitW (l.getD i.toNat 0) x with
    | false => rw [← set_5 (m := m) (o := o) (z := z) hf]
    | true =>
      obtain ⟨f1, f2, f3, f4, _⟩ := h.fld hi
      rw [(h.set hi hf).1]
      exact mem_st f1 (h.at_ hi).1 (by omega)
theorem putA_far {l : List Int} {m : AM} {o z : Int} {nums : Nat → Nat} (h : RecV l m o z) {y : Nat} (hy : (y : Int) < o ∨ o + z ≤ (y : Int)) : ∀ k, (putA l o z nums m k).mem y = m.mem y
  | 0 => rfl
  | k + 1 => by
    show (setM l (putA l o z nums m k) o z _ _).mem y = _
    rw [setM_far (h.same (putA_com l o z nums m k).1 (putA_com l o z nums m k).2) hy, putA_far h hy k]
theorem pRM_far {l : List Int} {m : AM} {o z : Int} {nums : Nat → Nat} (h : RecV l m o z) {y : Nat} (hy : (y : Int) < o ∨ o + z ≤ (y : Int)) (nn : Nat) : (pRM l nn nums m o z).mem y = m.mem y := by
  unfold pRM
  split
  · rfl
  · split
    · split
      · exact putA_far h hy _
      · rfl
    · rfl

section
variable {m : AM} {at_ ord own nx : Int}
theorem rec_c (h : thr m at_ 32 = true) : RecV cRec m at_ 32 := ⟨cRec_ok, h, by decide⟩
theorem wrc_bad (h : wrcE m at_ ord own nx ≠ 0) : wrcM m at_ ord own nx = m := by
  unfold wrcE at h; unfold wrcM
  cases hb : badC at_ ord nx with
  | true => rfl
  | false =>
    rw [hb] at h
    cases ht : thr m at_ 32 with
    | false => rfl
    | true =>
      rw [ht] at h
      exact (pR_bad (rec_c ht) h).2
theorem wrc_good (h : wrcE m at_ ord own nx = 0) : badC at_ ord nx = false ∧ thr m at_ 32 = true ∧ pRE cRec 4 (cNum ord own nx) m at_ 32 = 0 ∧ wrcM m at_ ord own nx = pRM cRec 4 (cNum ord own nx) m at_ 32 := by
  unfold wrcE at h; unfold wrcM
  cases hb : badC at_ ord nx with
  | true => rw [hb] at h; simp at h
  | false =>
    rw [hb] at h
    cases ht : thr m at_ 32 with
    | false => rw [ht] at h; simp at h
    | true => rw [ht] at h; exact ⟨rfl, rfl, h, rfl⟩
theorem badC_in (h : badC at_ ord nx = false) : 0 ≤ at_ ∧ at_ % 4096 = 0 ∧ 0 ≤ nx ∧ spanV ord ≠ 0 ∧ 0 ≤ ord ∧ ord ≤ 10 := by
  unfold badC at h
  simp at h
  have := span_pos h.2
  exact ⟨by omega, h.1.1.2, by omega, h.2, this.1, this.2⟩
theorem wrcM_com (m : AM) (at_ ord own nx : Int) : (wrcM m at_ ord own nx).cap = m.cap ∧ (wrcM m at_ ord own nx).com = m.com := by
  unfold wrcM
  split
  · exact ⟨rfl, rfl⟩
  · split
    · exact pRM_com _ _ _ _ _ _
    · exact ⟨rfl, rfl⟩
theorem wrcM_far {y : Nat} (hy : (y : Int) < at_ ∨ at_ + 32 ≤ (y : Int)) : (wrcM m at_ ord own nx).mem y = m.mem y := by
  unfold wrcM
  split
  · rfl
  · split
    · rename_i _ ht; exact pRM_far (rec_c ht) hy 4
    · rfl
theorem wrap_i64_in {x : Int} (h : 0 ≤ x ∧ x ≤ 9223372036854775807) : IntKind.wrap .i64 x = x := i64_in (by omega)
theorem cNum_le (ho : 0 ≤ ord ∧ ord ≤ 10) (hw : 0 ≤ own ∧ own ≤ 18446744073709551615 ∧ nx ≤ 9223372036854775807) : ∀ i, i < cRec.length → cNum ord own nx i ≤ 18446744073709551615 := by
  intro i _
  unfold cNum
  split
  · decide
  · split
    · omega
    · split <;> omega
/-- What was written is read. -/
theorem wrc_read (h : wrcE m at_ ord own nx = 0) (hw : 0 ≤ own ∧ own ≤ 18446744073709551615 ∧ nx ≤ 9223372036854775807) :
    ((rdAt (wrcM m at_ ord own nx) at_ = at_ ∧ rdOrd (wrcM m at_ ord own nx) at_ = ord) ∧ (rdOwn (wrcM m at_ ord own nx) at_ = own ∧ rdNx (wrcM m at_ ord own nx) at_ = nx)) ∧ rdE (wrcM m at_ ord own nx) at_ = 0 := by
  obtain ⟨hb, ht, hp, hm⟩ := wrc_good h
  obtain ⟨b1, b2, b3, b4, b5, b6⟩ := badC_in hb
  have hc := wrcM_com m at_ ord own nx
  have ht2 : thr (wrcM m at_ ord own nx) at_ 32 = true := (thr_same hc.1 hc.2 _ _).trans ht
  have hg := field_back0 (rec_c ht) (cNum_le ⟨b5, b6⟩ hw) hp
  have g0 : rdN (wrcM m at_ ord own nx) at_ 0 = 1263421507 := by rw [hm]; exact hg 0 (by decide)
  have g1 : rdN (wrcM m at_ ord own nx) at_ 1 = ord := by rw [hm]; exact (hg 1 (by decide)).trans (Int.toNat_of_nonneg b5)
  have g2 : rdN (wrcM m at_ ord own nx) at_ 2 = own := by rw [hm]; exact (hg 2 (by decide)).trans (Int.toNat_of_nonneg hw.1)
  have g3 : rdN (wrcM m at_ ord own nx) at_ 3 = nx := by rw [hm]; exact (hg 3 (by decide)).trans (Int.toNat_of_nonneg b3)
  have hbr : badR (wrcM m at_ ord own nx) at_ = false := by
    unfold badR
    rw [g0, g1, g3, wrap_i64_in (by omega), wrap_i64_in (by omega)]
    simp [b2, b4, b3]
  have hok := rdOk_yes ht2 hbr
  have hy := rd_yes hok.1
  rw [g1, g2, g3, wrap_i64_in (by omega), wrap_i64_in (by omega)] at hy
  exact ⟨⟨⟨hy.1.symm, hy.2.1.symm⟩, hy.2.2.1.symm, hy.2.2.2.symm⟩, hok.2⟩
end

theorem putM_com (m : AM) (a : Int) (s : ByteArray) : (putM m a s).cap = m.cap ∧ (putM m a s).com = m.com := by
  unfold putM
  split
  · exact ⟨rfl, rfl⟩
  · exact ⟨rfl, rfl⟩
section
variable {s : ByteArray} {at_ ord own nx : Int}
end
end Go.Proofs.YtnbkafnikpbmbaaDoor.K
