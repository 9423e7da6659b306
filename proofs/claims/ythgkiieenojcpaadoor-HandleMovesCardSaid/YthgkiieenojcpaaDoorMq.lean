/-
  A handle that is moved.
-/
import Derived.Test.YthgkiieenojcpaaDoorMp
import Derived.Test.YthgkiieenojcpaaDoorQa
namespace Go.Proofs.YthgkiieenojcpaaDoor.K
set_option linter.unusedSimpArgs false
set_option linter.unusedVariables false

section
variable {t : List Sl}
theorem rAll_at {k : Nat} (h : k < (rAll t).length) : ∃ i, i < t.length ∧ rOn t i = true ∧ gtD (rAll t) k = rHv t i := allH_mem h
theorem rHv_inj (hok : OkT t) {i j : Nat} (hi : i < t.length) (hj : j < t.length) (e : rHv t i = rHv t j) : i = j := by
  have := hok.1
  unfold rHv at e; omega
theorem rFind_hv (hok : OkT t) {i : Nat} (hi : i < t.length) (ho : rOn t i = true) : rFind t (rHv t i) = (i : Int) := by
  have h256 := hok.1
  refine fIx_only hi ?_ fun j hj hp => ?_
  · unfold rNm; unfold rOn at ho; rw [ho]; unfold rHv; simp
  · unfold rNm at hp
    simp only [Bool.and_eq_true, beq_iff_eq] at hp
    unfold rHv at hp; omega
theorem rGet_hv (hok : OkT t) {i : Nat} (hi : i < t.length) (ho : rOn t i = true) : rGetA t (rHv t i) = (gtD t i).1 ∧ rGetE t (rHv t i) = 0 := by
  unfold rGetA rGetE
  rw [rFind_hv hok hi ho, if_neg (by omega), if_neg (by omega), Int.toNat_natCast]; exact ⟨rfl, rfl⟩
theorem rMov_at (hok : OkT t) {i : Nat} (hi : i < t.length) (ho : rOn t i = true) {a : Int} (ha : ¬ a < 1) (j : Nat) : gtD (rMovT t (rHv t i) a) j = if j = i then (a, (gtD t i).2) else gtD t j := by
  unfold rMovT
  rw [if_neg ha, rFind_hv hok hi ho, Int.toNat_natCast, rSet_at (by omega) (by omega)]
  by_cases e : j = i
  · rw [if_pos (by omega), if_pos e]
  · rw [if_neg (by omega), if_neg e]
theorem rMov_len (t : List Sl) (h a : Int) : (rMovT t h a).length = t.length := by unfold rMovT; split; rfl; exact rSet_len _ _ _ _
theorem rMov_hv (hok : OkT t) {i : Nat} (hi : i < t.length) (ho : rOn t i = true) {a : Int} (ha : ¬ a < 1) (j : Nat) : rHv (rMovT t (rHv t i) a) j = rHv t j ∧ rOn (rMovT t (rHv t i) a) j = rOn t j ∧ rFree (rMovT t (rHv t i) a) j = rFree t j := by
  unfold rHv rOn rFree
  have e := rMov_at hok hi ho ha j
  unfold rHv at e
  rw [e]
  by_cases q : j = i
  · subst q
    unfold rOn at ho
    have h0 : 0 < (gtD t j).1 := by simpa using ho
    rw [if_pos rfl]
    refine ⟨rfl, ?_, ?_⟩
    · show decide (0 < a) = _; rw [decide_eq_true (by omega), decide_eq_true h0]
    · show ((a == 0) && _) = _
      rw [show (a == 0) = false from beq_eq_false_iff_ne.2 (by omega), show ((gtD t j).1 == 0) = false from beq_eq_false_iff_ne.2 (by omega)]
  · rw [if_neg q]; exact ⟨rfl, rfl, rfl⟩
/-- All handles are what they were. -/
theorem mv_all (hok : OkT t) {k : Nat} (hk : k < (rAll t).length) {a : Int} (ha : ¬ a < 1) : rAll (rMovT t (gtD (rAll t) k) a) = rAll t := by
  obtain ⟨i, hi, ho, e⟩ := rAll_at hk
  rw [e]
  unfold rAll
  rw [rMov_len]
  exact allH_cg (fun j _ => (rMov_hv hok hi ho ha j).2.1) (fun j _ _ => (rMov_hv hok hi ho ha j).1)
/-- The one that was moved names the other address; all others what they named. -/
theorem mv_get (hok : OkT t) {k x : Nat} (hk : k < (rAll t).length) (hx : x < (rAll t).length) {a : Int} (ha : ¬ a < 1) (ha2 : a ≤ 9223372036854775807) : rGetE (rMovT t (gtD (rAll t) k) a) (gtD (rAll t) x) = 0 ∧ rGetA (rMovT t (gtD (rAll t) k) a) (gtD (rAll t) x) = if gtD (rAll t) x = gtD (rAll t) k then a else rGetA t (gtD (rAll t) x) := by
  obtain ⟨i, hi, ho, e⟩ := rAll_at hk
  obtain ⟨j, hj, hoj, ej⟩ := rAll_at hx
  rw [e, ej]
  have hm := rMov_hv hok hi ho ha j
  have hok2 : OkT (rMovT t (rHv t i) a) := hok.mov ha2
  have hg := rGet_hv hok2 (i := j) (by rw [rMov_len]; exact hj) (by rw [hm.2.1]; exact hoj)
  rw [hm.1] at hg
  rw [hg.1, hg.2, rMov_at hok hi ho ha]
  refine ⟨rfl, ?_⟩
  by_cases q : j = i
  · subst q; rw [if_pos rfl, if_pos rfl]
  · rw [if_neg q, if_neg (fun q2 => q (rHv_inj hok hj hi q2)), (rGet_hv hok hj hoj).1]
/-- The next one is what it would have been. -/
theorem mv_next (hok : OkT t) {k : Nat} (hk : k < (rAll t).length) {a : Int} (ha : ¬ a < 1) : rNewV (rMovT t (gtD (rAll t) k) a) 1 = rNewV t 1 ∧ rNewE (rMovT t (gtD (rAll t) k) a) 1 = rNewE t 1 := by
  obtain ⟨i, hi, ho, e⟩ := rAll_at hk
  rw [e]
  have hI : rNewI (rMovT t (rHv t i) a) = rNewI t := by
    unfold rNewI
    rw [rMov_len]
    exact fIx_cg fun j _ => (rMov_hv hok hi ho ha j).2.2
  have hG : (gtD (rMovT t (rHv t i) a) (rNewI t).toNat).2 = (gtD t (rNewI t).toNat).2 := by
    rw [rMov_at hok hi ho ha]
    split
    · rename_i q; rw [q]
    · rfl
  unfold rNewV rNewE
  rw [hI, hG]; exact ⟨rfl, rfl⟩
theorem mv_is (hok : OkT t) {k : Nat} (hk : k < (rAll t).length) (a : Int) : rMovE t (gtD (rAll t) k) a = if a < 1 then 2 else 0 := by
  obtain ⟨i, hi, ho, e⟩ := rAll_at hk
  unfold rMovE
  rw [e, (rGet_hv hok hi ho).2]
theorem al_get (hok : OkT t) {k : Nat} (hk : k < (rAll t).length) : rGetE t (gtD (rAll t) k) = 0 := by
  obtain ⟨i, hi, ho, e⟩ := rAll_at hk
  rw [e]; exact (rGet_hv hok hi ho).2
end
theorem mp_step {L : List Int} {f : Int → Option Int} {g : Int → Int} {x : Int} (h : ∀ k : Nat, (k : Int) < x → k < L.length → f (gtD L k) = some (g (gtD L k))) (h0 : 0 ≤ x) : ∀ k : Nat, (k : Int) < x + 1 → k < L.length → updO f (gtD L x.toNat) (g (gtD L x.toNat)) (gtD L k) = some (g (gtD L k)) := fun k hk hl => by
  unfold updO
  split
  · rename_i q; rw [q]
  · rename_i q
    rcases Int.lt_or_le (k : Int) x with h1 | h1
    · exact h k h1 hl
    · exact absurd (by rw [show k = x.toNat by omega]) q
theorem mv_was {t : List Sl} (hok : OkT t) {k0 : Nat} (hk : k0 < (rAll t).length) {a : Int} (ha : ¬ a < 1) (ha2 : a ≤ 9223372036854775807) {f : Int → Option Int} {x : Int} (hx : ((rAll t).length : Int) ≤ x) (h : ∀ k : Nat, (k : Int) < x → k < (rAll t).length → f (gtD (rAll t) k) = some (rGetA t (gtD (rAll t) k))) :
    ∀ k : Nat, k < (rAll t).length → rGetE (rMovT t (gtD (rAll t) k0) a) (gtD (rAll t) k) = 0 ∧ updO f (gtD (rAll t) k0) a (gtD (rAll t) k) = some (rGetA (rMovT t (gtD (rAll t) k0) a) (gtD (rAll t) k)) := fun k hl => by
  obtain ⟨e1, e2⟩ := mv_get hok hk hl ha ha2
  refine ⟨e1, ?_⟩
  rw [e2]
  unfold updO
  split
  · rfl
  · exact h k (by omega) hl
theorem mv_was0 {t : List Sl} (hok : OkT t) {h0 a : Int} (ha : a < 1) {f : Int → Option Int} {x : Int} (hx : ((rAll t).length : Int) ≤ x) (h : ∀ k : Nat, (k : Int) < x → k < (rAll t).length → f (gtD (rAll t) k) = some (rGetA t (gtD (rAll t) k))) :
    ∀ k : Nat, k < (rAll t).length → rGetE (rMovT t h0 a) (gtD (rAll t) k) = 0 ∧ f (gtD (rAll t) k) = some (rGetA (rMovT t h0 a) (gtD (rAll t) k)) := fun k hl => by
  have e : rMovT t h0 a = t := by unfold rMovT; rw [if_pos ha]
  rw [e]; exact ⟨al_get hok hl, h k (by omega) hl⟩
theorem mv_end {t : List Sl} (hok : OkT t) {k0 : Nat} (hk : k0 < (rAll t).length) (a : Int) : rNewV (rMovT t (gtD (rAll t) k0) a) 1 = rNewV t 1 ∧ rNewE (rMovT t (gtD (rAll t) k0) a) 1 = rNewE t 1 ∧ rAll (rMovT t (gtD (rAll t) k0) a) = rAll t := by
  by_cases ha : a < 1
  · have e : rMovT t (gtD (rAll t) k0) a = t := by unfold rMovT; rw [if_pos ha]
    rw [e]; exact ⟨rfl, rfl, rfl⟩
  · obtain ⟨e1, e2⟩ := mv_next hok hk ha
    exact ⟨e1, e2, mv_all hok hk ha⟩
/-- The slots that memory holds. -/
def rdT (m : AM) (o z : Int) : List Sl := (List.range (hLen z).toNat).map fun (i : Nat) => (hAt m o z (i : Int), hGn m o z (i : Int))
theorem HRep.canon {m : AM} {o z : Int} {t : List Sl} (h : HRep m o z t) : HRep m o z (rdT m o z) := by
  have hl := h.len
  have e : rdT m o z = t := by
    unfold rdT
    refine List.ext_getElem (by simp; omega) fun j h1 h2 => ?_
    obtain ⟨e1, e2⟩ := h.at_ j h2
    rw [List.getElem_map, List.getElem_range, e1, e2, gtD_lt h2]
  rw [e]; exact h
end Go.Proofs.YthgkiieenojcpaaDoor.K
