/-
  A chunk's header that is written, read, wiped: plainly.
-/
import Derived.Test.YthgkiieenojcpaaDoorJa
import Derived.Test.YthgkiieenojcpaaDoorGc
import Derived.Test.YthgkiieenojcpaaDoorHa
namespace Go.Proofs.YthgkiieenojcpaaDoor.K
set_option linter.unusedSimpArgs false
set_option linter.unusedVariables false

theorem setM_far {l : List Int} {m : AM} {o z i x : Int} (h : RecV l m o z) {y : Nat} (hy : (y : Int) < o ∨ o + z ≤ (y : Int)) : (setM l m o z i x).mem y = m.mem y := by
  cases hi : hasW l i with
  | false => rw [← set_4 (m := m) (o := o) (z := z) (x := x) hi]
  | true =>
    cases hf : fitW (l.getD i.toNat 0) x with
    | false => rw [← set_5 (m := m) (o := o) (z := z) hf]
    | true =>
      obtain ⟨f1, f2, f3, f4, _⟩ := h.fld hi
      rw [(h.set hi hf).1]
      exact mem_st f1 (h.at_ hi).1 (by omega)
theorem putA_far {l : List Int} {m : AM} {o z : Int} {nums : Nat → Nat} (h : RecV l m o z) {y : Nat} (hy : (y : Int) < o ∨ o + z ≤ (y : Int)) : ∀ k, (putA l o z nums m k).mem y = m.mem y
  | 0 => rfl
  | k + 1 => by
    show (setM l (putA l o z nums m k) o z _ _).mem y = _
    rw [setM_far (h.same (putA_com l o z nums m k).1 (putA_com l o z nums m k).2) hy, putA_far h hy k]
theorem pRM_far {l : List Int} {m : AM} {o z : Int} {nums : Nat → Nat} (h : RecV l m o z) {y : Nat} (hy : (y : Int) < o ∨ o + z ≤ (y : Int)) (nn : Nat) : (pRM l nn nums m o z).mem y = m.mem y := by
  unfold pRM
  split
  · rfl
  · split
    · split
      · exact putA_far h hy _
      · rfl
    · rfl

section
variable {m : AM} {at_ ord own nx : Int}
theorem rec_c (h : thr m at_ 32 = true) : RecV cRec m at_ 32 := ⟨cRec_ok, h, by decide⟩
theorem wrap_i64_in {x : Int} (h : 0 ≤ x ∧ x ≤ 9223372036854775807) : IntKind.wrap .i64 x = x := i64_in (by omega)
end

section
variable {s : ByteArray} {at_ ord own nx : Int}
end
end Go.Proofs.YthgkiieenojcpaaDoor.K
