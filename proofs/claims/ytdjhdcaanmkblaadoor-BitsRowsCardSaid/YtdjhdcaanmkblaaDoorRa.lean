/-
  Lists to be cleaned, as the document's lists.
-/
import Derived.Test.YtdjhdcaanmkblaaDoorM5
import Derived.Test.YtdjhdcaanmkblaaDoorQz
namespace Go.Proofs.YtdjhdcaanmkblaaDoor.K
set_option linter.unusedSimpArgs false
set_option linter.unusedVariables false

theorem split_at {α : Type} [Inhabited α] (L : List α) {k : Nat} (h : k < L.length) : L = L.take k ++ gtD L k :: L.drop (k + 1) := by
  rw [gtD_lt h, ← List.drop_eq_getElem_cons h, List.take_append_drop]
theorem fIx_neg {p : Nat → Bool} {n : Nat} (h : fIx p n < 0) {j : Nat} (hj : j < n) : p j = false := by
  unfold fIx at h
  cases hq : fstN p n with
  | none => unfold fstN at hq; rw [List.find?_range_eq_none] at hq; simpa using hq j hj
  | some i => rw [hq] at h; exact absurd h (by show ¬ (i : Int) < 0; omega)
theorem gtD_mem {α : Type} [Inhabited α] {L : List α} {j : Nat} (h : j < L.length) : gtD L j ∈ L := by rw [gtD_lt h]; exact List.getElem_mem h
theorem mem_gtD {α : Type} [Inhabited α] {L : List α} {x : α} (h : x ∈ L) : ∃ j, j < L.length ∧ gtD L j = x := by
  obtain ⟨j, hj, e⟩ := List.mem_iff_getElem.1 h
  exact ⟨j, hj, by rw [gtD_lt hj]; exact e⟩

/-! ## The document's lists -/
def eIs (L : List Ent) (id : Int) (i : Nat) : Bool := (gtD L i).1 == id
def eIx (L : List Ent) (id : Int) : Int := fIx (eIs L id) L.length
def eAddE (L : List Ent) (sl id : Int) : Int := if id = 0 ∨ 281474976710655 < id then 2 else if 0 ≤ eIx L id then 9 else if sl ≤ (L.length : Int) then 10 else 0
def eAddL (L : List Ent) (sl id kd lv ar : Int) : List Ent := if eAddE L sl id = 0 then L ++ [(id, kd, lv, ar)] else L
theorem eIx_rng (L : List Ent) (id : Int) : -1 ≤ eIx L id ∧ eIx L id < (L.length : Int) := fIx_rng _ _
theorem eAdd_1 {L : List Ent} {sl id kd lv ar : Int} (q : id = 0 ∨ 281474976710655 < id) : L = eAddL L sl id kd lv ar ∧ 2 = eAddE L sl id := by
  have e : eAddE L sl id = 2 := by unfold eAddE; rw [if_pos q]
  unfold eAddL; rw [e]; exact ⟨rfl, rfl⟩
theorem eAdd_2 {L : List Ent} {sl id kd lv ar : Int} (q : ¬ (id = 0 ∨ 281474976710655 < id)) (q2 : 0 ≤ eIx L id) : L = eAddL L sl id kd lv ar ∧ 9 = eAddE L sl id := by
  have e : eAddE L sl id = 9 := by unfold eAddE; rw [if_neg q, if_pos q2]
  unfold eAddL; rw [e]; exact ⟨rfl, rfl⟩
theorem eAdd_3 {L : List Ent} {sl id kd lv ar : Int} (q : ¬ (id = 0 ∨ 281474976710655 < id)) (q2 : ¬ 0 ≤ eIx L id) (q3 : sl ≤ (L.length : Int)) : L = eAddL L sl id kd lv ar ∧ 10 = eAddE L sl id := by
  have e : eAddE L sl id = 10 := by unfold eAddE; rw [if_neg q, if_neg q2, if_pos q3]
  unfold eAddL; rw [e]; exact ⟨rfl, rfl⟩
theorem eAdd_4 {L : List Ent} {sl id kd lv ar : Int} (q : ¬ (id = 0 ∨ 281474976710655 < id)) (q2 : ¬ 0 ≤ eIx L id) (q3 : ¬ sl ≤ (L.length : Int)) : L ++ [(id, kd, lv, ar)] = eAddL L sl id kd lv ar ∧ 0 = eAddE L sl id := by
  have e : eAddE L sl id = 0 := by unfold eAddE; rw [if_neg q, if_neg q2, if_neg q3]
  unfold eAddL; rw [e]; exact ⟨rfl, rfl⟩
/-! ## The list in memory -/
def UnqL (L : List Ent) : Prop := ∀ i j, i < L.length → j < L.length → (gtD L i).1 = (gtD L j).1 → i = j
structure HLU (m : AM) (o z : Int) (L : List Ent) : Prop where
  hl : HL m o z L
  unq : UnqL L
  o0 : 0 ≤ o
  z0 : 0 ≤ z
section
variable {m : AM} {o z : Int} {L : List Ent}
theorem HLU.len (h : HLU m o z L) : (L.length : Int) ≤ z / 24 := h.hl.len
theorem HLU.cases (h : HLU m o z L) (id : Int) : (eIx L id < 0 ∧ cFind m o z id < 0 ∧ ∀ e, e ∈ L → e.1 ≠ id) ∨ (¬ eIx L id < 0 ∧ (gtD L (eIx L id).toNat).1 = id ∧ (eIx L id).toNat < L.length ∧ (∀ x, x ∈ L.take (eIx L id).toNat → x.1 ≠ (gtD L (eIx L id).toNat).1)) := by
  have hr := eIx_rng L id
  rcases Int.lt_or_le (eIx L id) 0 with h0 | h0
  · left
    have hf : ∀ e, e ∈ L → e.1 ≠ id := fun e he => by
      obtain ⟨j, hj, rfl⟩ := mem_gtD he
      have := fIx_neg (p := eIs L id) h0 hj
      unfold eIs at this
      exact beq_eq_false_iff_ne.1 this
    exact ⟨h0, by rw [h.hl.fresh hf]; decide, hf⟩
  · right
    have hy := fIx_yes (p := eIs L id) (n := L.length) h0
    unfold eIs at hy
    have hid : (gtD L (eIx L id).toNat).1 = id := beq_iff_eq.1 hy
    refine ⟨by omega, hid, by omega, fun x hx => ?_⟩
    obtain ⟨j, hj, rfl⟩ := mem_gtD hx
    rw [List.length_take] at hj
    have e : gtD (L.take (eIx L id).toNat) j = gtD L j := by
      unfold gtD; rw [List.getD_eq_getElem?_getD, List.getD_eq_getElem?_getD, List.getElem?_take_of_lt (by omega)]
    rw [e]
    intro q
    have := h.unq _ _ (by omega) (by omega) q
    omega
theorem HLU.add (h : HLU m o z L) {id kd lv ar : Int} (he : (0 ≤ id ∧ id ≤ 18446744073709551615) ∧ (0 ≤ kd ∧ kd ≤ 255) ∧ (0 ≤ lv ∧ lv ≤ 255) ∧ 0 ≤ ar ∧ ar ≤ 18446744073709551615) : addE m o z id = eAddE L (z / 24) id ∧ HLU (addM m o z id kd lv ar) o z (eAddL L (z / 24) id kd lv ar) := by
  have hl := h.len
  by_cases h1 : id = 0 ∨ 281474976710655 < id
  · obtain ⟨a1, a2⟩ := add_1 (m := m) (o := o) (z := z) (kd := kd) (lv := lv) (ar := ar) h1
    obtain ⟨e1, e2⟩ := eAdd_1 (L := L) (sl := z / 24) (kd := kd) (lv := lv) (ar := ar) h1
    rw [← a1, ← a2, ← e1, ← e2]; exact ⟨rfl, h⟩
  · rcases h.cases id with ⟨q1, q2, q3⟩ | ⟨q1, q2, q3, q4⟩
    · by_cases h3 : z / 24 ≤ (L.length : Int)
      · obtain ⟨a1, a2⟩ := add_3 (m := m) (o := o) (z := z) (kd := kd) (lv := lv) (ar := ar) h1 (by omega) (by rw [h.hl.cnt]; unfold cSl; omega)
        obtain ⟨e1, e2⟩ := eAdd_3 (L := L) (sl := z / 24) (kd := kd) (lv := lv) (ar := ar) h1 (by omega) h3
        rw [← a1, ← a2, ← e1, ← e2]; exact ⟨rfl, h⟩
      · obtain ⟨e1, e2⟩ := eAdd_4 (L := L) (sl := z / 24) (kd := kd) (lv := lv) (ar := ar) h1 (by omega) h3
        obtain ⟨a1, a2⟩ := h.hl.add (id := id) (kd := kd) (lv := lv) (ar := ar) ⟨⟨by omega, by omega⟩, he.2.1, he.2.2.1, he.2.2.2⟩ (by omega) q3 (by unfold cSl; omega)
        rw [← e1, ← e2, a1]
        refine ⟨rfl, a2, fun i j hi hj e => ?_, h.o0, h.z0⟩
        simp only [List.length_append, List.length_singleton] at hi hj
        rw [gtD_app, gtD_app] at e
        split at e <;> split at e
        · exact h.unq _ _ (by omega) (by omega) e
        · rename_i a b
          rw [show j - L.length = 0 by omega] at e
          exact absurd e (q3 _ (gtD_mem a))
        · rename_i a b
          rw [show i - L.length = 0 by omega] at e
          exact absurd e.symm (q3 _ (gtD_mem b))
        · omega
    · obtain ⟨e1, e2⟩ := eAdd_2 (L := L) (sl := z / 24) (kd := kd) (lv := lv) (ar := ar) h1 (by omega)
      have hf := h.hl.found (split_at L q3) q4
      rw [q2] at hf
      obtain ⟨a1, a2⟩ := add_2 (m := m) (o := o) (z := z) (kd := kd) (lv := lv) (ar := ar) h1 (by rw [hf]; omega)
      rw [← a1, ← a2, ← e1, ← e2]; exact ⟨rfl, h⟩
theorem HLU.zero (ht : thr m o z = true) (hz : ∀ x, m.mem x = 0) (o0 : 0 ≤ o) (z0 : 0 ≤ z) : HLU m o z [] := by
  refine ⟨⟨⟨ht, fun j hj => ?_⟩, by unfold cSl; simp; omega, fun e he => nomatch he⟩, fun i j hi => absurd hi (by simp), o0, z0⟩
  have hR := oRec_at ht (by omega) hj
  have n0 : cN0 m o j = 0 := hR.zero hz (i := 0) (by decide)
  have n1 : cN1 m o j = 0 := hR.zero hz (i := 1) (by decide)
  unfold cEnt cId cKd cLv
  rw [n0, n1]; rfl
end
end Go.Proofs.YtdjhdcaanmkblaaDoor.K
