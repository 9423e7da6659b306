/-
  Lists of what is to be done, as lists.
-/
import Derived.Test.YtnbkafnikpbmbaaDoorJb
import Derived.Test.YtnbkafnikpbmbaaDoorHf
namespace Go.Proofs.YtnbkafnikpbmbaaDoor.K
set_option linter.unusedSimpArgs false
set_option linter.unusedVariables false

abbrev Ent := Int × Int × Int × Int
def Ent.ok (e : Ent) : Prop := (0 ≤ e.1 ∧ e.1 ≤ 281474976710655) ∧ (0 ≤ e.2.1 ∧ e.2.1 ≤ 255) ∧ (0 ≤ e.2.2.1 ∧ e.2.2.1 ≤ 255) ∧ 0 ≤ e.2.2.2 ∧ e.2.2.2 ≤ 18446744073709551615
theorem eN0_eq {id kd lv : Int} (h : (0 ≤ id ∧ id ≤ 281474976710655) ∧ (0 ≤ kd ∧ kd ≤ 255) ∧ (0 ≤ lv ∧ lv ≤ 255)) : eN0 id kd lv = id * 65536 + lv * 256 + kd := by
  obtain ⟨⟨h1, h2⟩, ⟨h3, h4⟩, h5, h6⟩ := h
  obtain ⟨a, rfl⟩ := Int.eq_ofNat_of_zero_le h1
  obtain ⟨b, rfl⟩ := Int.eq_ofNat_of_zero_le h3
  obtain ⟨c, rfl⟩ := Int.eq_ofNat_of_zero_le h5
  have e1 : IntKind.wrap .u64 ((a : Int) * 2 ^ 16) = ((2 ^ 16 * a : Nat) : Int) := by rw [u64_in (by omega)]; omega
  have e2 : IntKind.wrap .u64 ((c : Int) * 2 ^ 8) = ((2 ^ 8 * c : Nat) : Int) := by rw [u64_in (by omega)]; omega
  have ea : a ≤ 281474976710655 := by omega
  have eb : b ≤ 255 := by omega
  have ec : c ≤ 255 := by omega
  unfold eN0
  rw [e1, e2, ior_u (by omega) (by omega), ← Nat.two_pow_add_eq_or_of_lt (by omega) a]
  have e3 : 2 ^ 16 * a + 2 ^ 8 * c = 2 ^ 8 * (2 ^ 8 * a + c) := by omega
  rw [e3, ior_u (by omega) (by omega), ← Nat.two_pow_add_eq_or_of_lt (by omega) (2 ^ 8 * a + c)]
  omega
theorem eN0_parts {id kd lv : Int} (h : (0 ≤ id ∧ id ≤ 281474976710655) ∧ (0 ≤ kd ∧ kd ≤ 255) ∧ (0 ≤ lv ∧ lv ≤ 255)) : eN0 id kd lv / 65536 = id ∧ IntKind.wrap .u8 (eN0 id kd lv) = kd ∧ IntKind.wrap .u8 (eN0 id kd lv / 256) = lv := by
  rw [eN0_eq h, IntKind.wrap_u8, IntKind.wrap_u8]
  omega
theorem getW_mem {l : List Int} {m m' : AM} {o z : Int} (h : RecV l m o z) (hc : m'.cap = m.cap) (hm : m'.com = m.com) (hy : ∀ y : Nat, o ≤ (y : Int) → (y : Int) < o + z → m'.mem y = m.mem y) (i : Int) : getW l m' o z i = getW l m o z i := by
  cases hi : hasW l i with
  | false => unfold getW; rw [hi, if_neg Bool.false_ne_true, if_neg Bool.false_ne_true]
  | true =>
    obtain ⟨f1, f2, f3, f4, f5⟩ := h.fld hi
    rw [h.get hi, (h.same hc hm).get hi]
    exact ld_mem hc hm fun y h1 h2 => hy y (by omega) (by omega)
theorem oRec_fit (nums : Nat → Nat) : fitA oRec nums oRec.length = true := by
  show ((true && fitW 8 _) && fitW 8 _) = true
  unfold fitW; rfl
section
variable {m : AM} {o z i : Int}
theorem oRec_at (ht : thr m o z = true) (h0 : 0 ≤ i) (h1 : i < cSl z) : RecV oRec m (o + i * 24) 24 := ⟨oRec_ok, thr_sub ht (by omega) (by unfold cSl at h1; omega) (by decide), by decide⟩
theorem oRec_pE (ht : thr m o z = true) (h0 : 0 ≤ i) (h1 : i < cSl z) (nums : Nat → Nat) : pRE oRec oRec.length nums m (o + i * 24) 24 = 0 := by
  unfold pRE
  rw [if_neg (fun q => q rfl), oRec_fit, if_pos rfl]
  exact (oRec_at ht h0 h1).vb0 (Int.le_refl _)
theorem cPutM_ent (ht : thr m o z = true) (h0 : 0 ≤ i) (h1 : i < cSl z) {e : Ent} (he : e.ok) {j : Nat} (hj : (j : Int) < cSl z) : cEnt (cPutM m o i e.1 e.2.1 e.2.2.1 e.2.2.2) o j = if (j : Int) = i then e else cEnt m o j := by
  obtain ⟨q1, q2, q3, q4⟩ := he
  split
  · rename_i hji
    have hle : ∀ k, k < oRec.length → eNum e.1 e.2.1 e.2.2.1 e.2.2.2 k ≤ 18446744073709551615 := by
      intro k _
      have := eN0_rng e.1 e.2.1 e.2.2.1
      unfold eNum
      split <;> omega
    have hg := field_back0 (oRec_at ht h0 h1) hle (oRec_pE ht h0 h1 _)
    have n0 : cN0 (cPutM m o i e.1 e.2.1 e.2.2.1 e.2.2.2) o j = eN0 e.1 e.2.1 e.2.2.1 := by rw [hji]; exact (hg 0 (by decide)).trans (Int.toNat_of_nonneg (eN0_rng _ _ _).1)
    have n1 : cN1 (cPutM m o i e.1 e.2.1 e.2.2.1 e.2.2.2) o j = e.2.2.2 := by rw [hji]; exact (hg 1 (by decide)).trans (Int.toNat_of_nonneg q4.1)
    obtain ⟨p1, p2, p3⟩ := eN0_parts ⟨q1, q2, q3⟩
    unfold cEnt cId cKd cLv
    rw [n0, n1, p1, p2, p3]
  · rename_i hji
    have hR := oRec_at (i := (j : Int)) ht (by omega) hj
    have hfar := oRec_at ht h0 h1
    have hs : ∀ k, getW oRec (cPutM m o i e.1 e.2.1 e.2.2.1 e.2.2.2) (o + (j : Int) * 24) 24 k = getW oRec m (o + (j : Int) * 24) 24 k := getW_mem hR (pRM_com _ _ _ _ _ _).1 (pRM_com _ _ _ _ _ _).2 fun y y1 y2 => pRM_far hfar (by omega) _
    unfold cEnt cId cKd cLv cN0 cN1
    rw [hs, hs]
end

/-- Slots that hold what a function tells. -/
structure Slots (m : AM) (o z : Int) (f : Nat → Ent) : Prop where
  there : thr m o z = true
  all : ∀ j : Nat, (j : Int) < cSl z → cEnt m o j = f j
theorem Slots.put {m : AM} {o z : Int} {f : Nat → Ent} (h : Slots m o z f) {i : Nat} (hi : (i : Int) < cSl z) {e : Ent} (he : e.ok) : Slots (cPutM m o (i : Int) e.1 e.2.1 e.2.2.1 e.2.2.2) o z (fun j => if j = i then e else f j) := by
  refine ⟨(cPutM_thr _ _ _ _ _ _ _ _ _).trans h.there, fun j hj => ?_⟩
  rw [cPutM_ent h.there (by omega) hi he hj]
  by_cases hji : j = i
  · rw [if_pos (by omega), if_pos hji]
  · rw [if_neg (by omega), if_neg hji]; exact h.all j hj
def noEnt : Ent := (0, 0, 0, 0)
/-- A list's entries. -/
structure HL (m : AM) (o z : Int) (L : List Ent) : Prop where
  slots : Slots m o z (fun i => L.getD i noEnt)
  len : (L.length : Int) ≤ cSl z
  good : ∀ e, e ∈ L → e.ok ∧ e.1 ≠ 0
section
variable {m : AM} {o z : Int} {L : List Ent}
theorem HL.id (h : HL m o z L) {j : Nat} (hj : (j : Int) < cSl z) : cId m o (j : Int) = (L.getD j noEnt).1 := congrArg Prod.fst (h.slots.all j hj)
theorem getD_in {L : List Ent} {j : Nat} (h : j < L.length) : L.getD j noEnt ∈ L := by
  rw [List.getD_eq_getElem?_getD, List.getElem?_eq_getElem h]; exact List.getElem_mem h
theorem getD_out {L : List Ent} {j : Nat} (h : L.length ≤ j) : L.getD j noEnt = noEnt := by
  rw [List.getD_eq_getElem?_getD, List.getElem?_eq_none h]; rfl
theorem HL.ids (h : HL m o z L) {j : Nat} (hj : j < L.length) : cId m o (j : Int) ≠ 0 := by
  rw [h.id (by have := h.len; omega)]; exact (h.good _ (getD_in hj)).2
theorem HL.noUp (h : HL m o z L) : NoUp (cNo m o) ((L.length : Nat) : Int) := fun j hj => by
  unfold cNo
  have := h.ids (j := j) (by omega)
  simpa using this
theorem HL.cnt (h : HL m o z L) : cCnt m o z = L.length := by
  have hl := h.len
  rcases Int.lt_or_le (L.length : Int) (cSl z) with h1 | h1
  · have := cCnt_at h.noUp (by omega) h1 (by rw [h.id h1, getD_out (Nat.le_refl _)]; rfl)
    rw [this]; omega
  · have := cCnt_end h.noUp (by omega) hl (by omega)
    rw [this]; omega
theorem HL.fresh (h : HL m o z L) {id : Int} (hid : ∀ e, e ∈ L → e.1 ≠ id) : cFind m o z id = -1 := by
  refine (cFind_no (x := ((L.length : Nat) : Int)) (fun j hj => ?_) (by rw [h.cnt]; omega)).symm
  unfold cIs
  rw [h.id (by have := h.len; omega)]
  have := hid _ (getD_in (L := L) (j := j) (by omega))
  simpa using this
theorem HL.found (h : HL m o z L) {L1 L2 : List Ent} {e : Ent} (hL : L = L1 ++ e :: L2) (hid : ∀ x, x ∈ L1 → x.1 ≠ e.1) : cFind m o z e.1 = ((L1.length : Nat) : Int) := by
  have hlen : L.length = L1.length + (L2.length + 1) := by rw [hL]; simp
  have hl := h.len
  refine (cFind_at (x := ((L1.length : Nat) : Int)) (fun j hj => ?_) (by omega) (by rw [h.cnt]; omega) ?_).symm
  · unfold cIs
    rw [h.id (by omega), hL]
    have hj' : j < L1.length := by omega
    have e2 : (L1 ++ e :: L2).getD j noEnt = L1.getD j noEnt := by
      rw [List.getD_eq_getElem?_getD, List.getD_eq_getElem?_getD, List.getElem?_append_left hj']
    rw [e2]
    simpa using hid _ (getD_in hj')
  · rw [h.id (by omega), hL]
    rw [List.getD_eq_getElem?_getD, List.getElem?_append_right (Nat.le_refl _)]; simp
theorem HL.at_ (h : HL m o z L) {L1 L2 : List Ent} {e : Ent} (hL : L = L1 ++ e :: L2) : cEnt m o L1.length = e := by
  have hlen : L.length = L1.length + (L2.length + 1) := by rw [hL]; simp
  have hl := h.len
  rw [h.slots.all _ (by omega), hL]
  rw [List.getD_eq_getElem?_getD, List.getElem?_append_right (Nat.le_refl _)]; simp
/-- An entry more. -/
theorem HL.add (h : HL m o z L) {id kd lv ar : Int} (he : Ent.ok (id, kd, lv, ar)) (h0 : id ≠ 0) (hid : ∀ e, e ∈ L → e.1 ≠ id) (hl : (L.length : Int) < cSl z) : addE m o z id = 0 ∧ HL (addM m o z id kd lv ar) o z (L ++ [(id, kd, lv, ar)]) := by
  have hc := h.cnt
  have hA := add_4 (m := m) (o := o) (z := z) (id := id) (kd := kd) (lv := lv) (ar := ar) (by have := he.1; simp at this; omega) (by rw [h.fresh hid]; omega) (by rw [hc]; omega)
  refine ⟨hA.1.symm, ?_⟩
  rw [← hA.2, hc]
  have hp := h.slots.put (i := L.length) hl he
  refine ⟨⟨hp.there, fun j hj => (hp.all j hj).trans ?_⟩, by simp; omega, fun e hm => ?_⟩
  · show (if j = L.length then (id, kd, lv, ar) else L.getD j noEnt) = _
    rw [List.getD_eq_getElem?_getD, List.getD_eq_getElem?_getD]
    rcases Nat.lt_trichotomy j L.length with h1 | h1 | h1
    · rw [if_neg (by omega), List.getElem?_append_left h1]
    · rw [if_pos h1, h1, List.getElem?_append_right (Nat.le_refl _)]; simp
    · rw [if_neg (by omega), List.getElem?_eq_none (by omega), List.getElem?_eq_none (by simp; omega)]
  · rcases List.mem_append.1 hm with h1 | h1
    · exact h.good e h1
    · rw [List.mem_singleton.1 h1]; exact ⟨he, h0⟩
end
end Go.Proofs.YtnbkafnikpbmbaaDoor.K
