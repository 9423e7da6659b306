/-
  Bins, plainly.
-/
import Derived.Test.YtefffenljiaioaaDoorHb
import Derived.LoopN
namespace Go.Proofs.YtefffenljiaioaaDoor.K
set_option linter.unusedSimpArgs false
set_option linter.unusedVariables false

theorem rounds_in {P : Program} {c : Code} {Q : Exit → Act → World → Prop} {n : Nat} {a : Act} {w : World} (h : c.wp P (Exit.then (Code.rounds P c Q n) Q) a w) : Code.rounds P c Q (n + 1) a w := h

theorem wrap_u64_rng (x : Int) : 0 ≤ IntKind.u64.wrap x ∧ IntKind.u64.wrap x ≤ 18446744073709551615 := by rw [IntKind.wrap_u64]; omega
theorem wrap_i64_rng (x : Int) : -9223372036854775808 ≤ IntKind.i64.wrap x ∧ IntKind.i64.wrap x ≤ 9223372036854775807 := by
  have e : IntKind.i64.wrap x = if 9223372036854775808 ≤ x % 18446744073709551616 then x % 18446744073709551616 - 18446744073709551616 else x % 18446744073709551616 := by
    simp [IntKind.wrap, IntKind.bits, IntKind.signed]
  rw [e]
  split <;> omega
theorem ldN_rng (s : ByteArray) : ∀ i : Nat, 0 ≤ ldN s i ∧ ldN s i ≤ 18446744073709551615
  | 0 => by unfold ldN; omega
  | i + 1 => by unfold ldN ior; exact wrap_u64_rng _
theorem vldV_rng (m : AM) (o z a k : Int) : 0 ≤ vldV m o z a k ∧ vldV m o z a k ≤ 18446744073709551615 := by
  unfold vldV ldV
  split
  · split
    · split
      · exact ldN_rng _ _
      · omega
    · omega
  · omega
theorem getW_rng (l : List Int) (m : AM) (o z i : Int) : 0 ≤ getW l m o z i ∧ getW l m o z i ≤ 18446744073709551615 := by
  unfold getW
  split
  · exact vldV_rng _ _ _ _ _
  · omega
theorem rdOwn_rng (m : AM) (a : Int) : 0 ≤ rdOwn m a ∧ rdOwn m a ≤ 18446744073709551615 := by
  unfold rdOwn rdN
  split
  · exact getW_rng _ _ _ _ _
  · omega
theorem rdNx_rng (m : AM) (a : Int) : -9223372036854775808 ≤ rdNx m a ∧ rdNx m a ≤ 9223372036854775807 := by
  unfold rdNx
  split
  · exact wrap_i64_rng _
  · omega
theorem rdOrd_rng (m : AM) (a : Int) : 0 ≤ rdOrd m a ∧ rdOrd m a ≤ 10 := by
  unfold rdOrd
  split
  · rename_i h
    unfold rdOk at h
    simp only [Bool.and_eq_true, Bool.not_eq_true'] at h
    have h2 := h.2
    unfold badR at h2
    simp only [Bool.or_eq_false_iff] at h2
    exact span_pos (by simpa using h2.1.2)
  · omega

def bnE (z : Int) : Int := if z < 40 then 3 else 0
def bnN (m : AM) (o z k : Int) : Int := if (k < 0 ∨ 4 < k) ∨ z < 40 then 0 else IntKind.wrap .i64 (vldV m o z (8 * k) 8)
theorem bnN_rng (m : AM) (o z k : Int) : -9223372036854775808 ≤ bnN m o z k ∧ bnN m o z k ≤ 9223372036854775807 := by
  unfold bnN
  split
  · omega
  · exact wrap_i64_rng _
theorem bnN_in {m : AM} {o z k : Int} (h : bnN m o z k ≠ 0) : 0 ≤ k ∧ k ≤ 4 ∧ 40 ≤ z := by
  unfold bnN at h
  split at h
  · exact absurd rfl h
  · omega
/-- What Push makes of an arena, and answers. -/
def bpBad (m : AM) (z a : Int) : Bool := ((decide (z < 40) || rdE m a != 0) || decide (4 < rdOrd m a)) || rdOwn m a != 0
def bpE (m : AM) (o z a : Int) : Int := if z < 40 then 3 else if rdE m a ≠ 0 then rdE m a else if 4 < rdOrd m a then 2 else if rdOwn m a ≠ 0 then 11 else vstE (wrcM m (rdAt m a) (rdOrd m a) (rdOwn m a) (bnN m o z (rdOrd m a))) o z (8 * rdOrd m a) 8
def bpM (m : AM) (o z a : Int) : AM := if bpBad m z a then m else vstM (wrcM m (rdAt m a) (rdOrd m a) (rdOwn m a) (bnN m o z (rdOrd m a))) o z (8 * rdOrd m a) 8 (IntKind.wrap .u64 a)
theorem bp_1 {m : AM} {o z a : Int} (h : z < 40) : 3 = bpE m o z a ∧ m = bpM m o z a := by
  have e : bpBad m z a = true := by unfold bpBad; simp [h]
  unfold bpE bpM; rw [if_pos h, e]; exact ⟨rfl, rfl⟩
theorem bp_2 {m : AM} {o z a : Int} (h : ¬ z < 40) (h2 : rdE m a ≠ 0) : rdE m a = bpE m o z a ∧ m = bpM m o z a := by
  have e : bpBad m z a = true := by unfold bpBad; simp [h2]
  unfold bpE bpM; rw [if_neg h, if_pos h2, e]; exact ⟨rfl, rfl⟩
theorem bp_3 {m : AM} {o z a : Int} (h : ¬ z < 40) (h2 : ¬ rdE m a ≠ 0) (h3 : 4 < rdOrd m a) : 2 = bpE m o z a ∧ m = bpM m o z a := by
  have e : bpBad m z a = true := by unfold bpBad; simp [h3]
  unfold bpE bpM; rw [if_neg h, if_neg h2, if_pos h3, e]; exact ⟨rfl, rfl⟩
theorem bp_4 {m : AM} {o z a : Int} (h : ¬ z < 40) (h2 : ¬ rdE m a ≠ 0) (h3 : ¬ 4 < rdOrd m a) (h4 : rdOwn m a ≠ 0) : 11 = bpE m o z a ∧ m = bpM m o z a := by
  have e : bpBad m z a = true := by unfold bpBad; simp [h4]
  unfold bpE bpM; rw [if_neg h, if_neg h2, if_neg h3, if_pos h4, e]; exact ⟨rfl, rfl⟩
theorem bp_5 {m : AM} {o z a : Int} (h : ¬ z < 40) (h2 : ¬ rdE m a ≠ 0) (h3 : ¬ 4 < rdOrd m a) (h4 : ¬ rdOwn m a ≠ 0) : vstE (wrcM m (rdAt m a) (rdOrd m a) (rdOwn m a) (bnN m o z (rdOrd m a))) o z (8 * rdOrd m a) 8 = bpE m o z a ∧ vstM (wrcM m (rdAt m a) (rdOrd m a) (rdOwn m a) (bnN m o z (rdOrd m a))) o z (8 * rdOrd m a) 8 (IntKind.wrap .u64 a) = bpM m o z a := by
  have e : bpBad m z a = false := by
    unfold bpBad
    have h2' : rdE m a = 0 := Decidable.not_not.1 h2
    have h4' : rdOwn m a = 0 := Decidable.not_not.1 h4
    simp [h, h2', h3, h4']
  unfold bpE bpM; rw [if_neg h, if_neg h2, if_neg h3, if_neg h4, e]; exact ⟨rfl, rfl⟩
/-- What Pop makes of an arena, and answers. -/
def bqOk (m : AM) (o z k : Int) : Bool := bnN m o z k != 0
def bqM (m : AM) (o z k : Int) : AM := if bqOk m o z k then wrcM (vstM m o z (8 * k) 8 (IntKind.wrap .u64 (rdNx m (bnN m o z k)))) (rdAt m (bnN m o z k)) (rdOrd m (bnN m o z k)) (rdOwn m (bnN m o z k)) 0 else m
def bqAt (m : AM) (o z k : Int) : Int := if bqOk m o z k then rdAt m (bnN m o z k) else 0
def bqOrd (m : AM) (o z k : Int) : Int := if bqOk m o z k then rdOrd m (bnN m o z k) else 0
def bqOwn (m : AM) (o z k : Int) : Int := if bqOk m o z k then rdOwn m (bnN m o z k) else 0
theorem bq_no {m : AM} {o z k : Int} (h : bnN m o z k = 0) : (0 = bqAt m o z k ∧ 0 = bqOrd m o z k ∧ 0 = bqOwn m o z k ∧ false = bqOk m o z k) ∧ m = bqM m o z k := by
  have e : bqOk m o z k = false := by unfold bqOk; rw [h]; rfl
  unfold bqAt bqOrd bqOwn bqM; rw [e]; exact ⟨⟨rfl, rfl, rfl, rfl⟩, rfl⟩
theorem bq_yes {m : AM} {o z k : Int} (h : bnN m o z k ≠ 0) : (rdAt m (bnN m o z k) = bqAt m o z k ∧ rdOrd m (bnN m o z k) = bqOrd m o z k ∧ rdOwn m (bnN m o z k) = bqOwn m o z k ∧ true = bqOk m o z k) ∧ wrcM (vstM m o z (8 * k) 8 (IntKind.wrap .u64 (rdNx m (bnN m o z k)))) (rdAt m (bnN m o z k)) (rdOrd m (bnN m o z k)) (rdOwn m (bnN m o z k)) 0 = bqM m o z k := by
  have e : bqOk m o z k = true := by unfold bqOk; simpa using h
  unfold bqAt bqOrd bqOwn bqM; rw [e]; exact ⟨⟨rfl, rfl, rfl, rfl⟩, rfl⟩
end Go.Proofs.YtefffenljiaioaaDoor.K
