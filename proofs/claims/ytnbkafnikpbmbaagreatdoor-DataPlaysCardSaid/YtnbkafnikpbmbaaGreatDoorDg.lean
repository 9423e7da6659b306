/-
  Keys and their numbers: the document's answer.
-/
import Derived.Test.YtnbkafnikpbmbaaGreatDoorDv
import Derived.Test.YtnbkafnikpbmbaaGreatDoorUa
namespace Go.Proofs.YtnbkafnikpbmbaaGreatDoor.K
set_option linter.unusedSimpArgs false
set_option linter.unusedVariables false

def rSt (k : ByteArray) (v : Int) (y : It) : It := if (y.1.toList == k.toList) = true then (k, v) else y
def rKp (k : ByteArray) (y : It) : Bool := !(y.1.toList == k.toList)
section
variable {s v : Int} {L l items : List It} {k : ByteArray} {x : Int}
theorem ms_yes {lq : List It} (i1 : lq = (L.take x.toNat).map (rSt k v)) (h0 : 0 ≤ x) (h1 : x < ((L.length : Nat) : Int)) (hn : ((gtD L x.toNat).1.toList == k.toList) = true) : lq ++ [(k, v)] = (L.take (x + 1).toNat).map (rSt k v) := by
  rw [show (x + 1).toNat = x.toNat + 1 by omega, List.take_add_one, List.map_append, ← i1, List.getElem?_eq_getElem (show x.toNat < L.length by omega)]
  rw [gtD_lt (show x.toNat < L.length by omega)] at hn
  show _ = lq ++ [rSt k v L[x.toNat]]
  unfold rSt
  rw [if_pos hn]
theorem ms_no {lq : List It} (i1 : lq = (L.take x.toNat).map (rSt k v)) (h0 : 0 ≤ x) (h1 : x < ((L.length : Nat) : Int)) (hn : ((gtD L x.toNat).1.toList == k.toList) = false) : lq ++ [((gtD L x.toNat).1, (gtD L x.toNat).2)] = (L.take (x + 1).toNat).map (rSt k v) := by
  rw [show (x + 1).toNat = x.toNat + 1 by omega, List.take_add_one, List.map_append, ← i1, List.getElem?_eq_getElem (show x.toNat < L.length by omega)]
  rw [gtD_lt (show x.toNat < L.length by omega)] at hn ⊢
  show _ = lq ++ [rSt k v L[x.toNat]]
  unfold rSt
  rw [if_neg (by rw [hn]; decide)]
theorem rSt_set (h : OkD s L) (h0 : 0 ≤ dOf L k) : L.map (rSt k v) = L.set (dOf L k).toNat (k, v) := by
  have hr := dOf_rng L k
  refine List.ext_getElem (by simp) fun i h1 h2 => ?_
  have hi : i < L.length := by simpa using h1
  have e := gtD_set L (dOf L k).toNat ((k, v) : It) i (by omega)
  rw [gtD_lt h2] at e
  rw [e, List.getElem_map]
  unfold rSt
  by_cases q : i = (dOf L k).toNat
  · have := dOf_at h0
    rw [← q, gtD_lt hi] at this
    rw [if_pos q, if_pos (by rw [this]; exact beq_self_eq_true _)]
  · rw [if_neg q, gtD_lt hi, if_neg]
    intro q2
    have := h.one_of (key := k) hi (by rw [gtD_lt hi]; exact toList_inj (beq_iff_eq.1 q2))
    omega
theorem rSt_none (h0 : ¬ 0 ≤ dOf L k) : L.map (rSt k v) = L := by
  refine List.ext_getElem (by simp) fun i h1 h2 => ?_
  rw [List.getElem_map]
  unfold rSt
  rw [if_neg]
  intro q2
  exact dOf_no h0 i h2 (by rw [gtD_lt h2]; exact toList_inj (beq_iff_eq.1 q2))
theorem rs_e {e : Int} (h : dWith s L (k, v) = (([] : List It), e)) (he : e ≠ 0) : L = dPutL s L [(k, v)] ∧ e = (dPutT s L [(k, v)]).2 := by
  unfold dPutL
  rw [dPut_one, h]
  exact ⟨(if_neg he).symm, rfl⟩
theorem rs_1 (h : (ByteArray.toList k == ByteArray.toList (⟨#[]⟩ : ByteArray)) = true) : L = dPutL s L [(k, v)] ∧ 17 = (dPutT s L [(k, v)]).2 := rs_e (dW_1 h).symm (by decide)
theorem rs_2 (h : (ByteArray.toList k == ByteArray.toList (⟨#[]⟩ : ByteArray)) = false) (h2 : (16 : Int) < ((k.size : Nat) : Int)) : L = dPutL s L [(k, v)] ∧ 16 = (dPutT s L [(k, v)]).2 := rs_e (dW_2 h h2).symm (by decide)
theorem rs_3 (h : (ByteArray.toList k == ByteArray.toList (⟨#[]⟩ : ByteArray)) = false) (h2 : ¬ (16 : Int) < ((k.size : Nat) : Int)) (h3 : ¬ 0 ≤ dOf L k) (h4 : s ≤ ((L.length : Nat) : Int)) : L = dPutL s L [(k, v)] ∧ 10 = (dPutT s L [(k, v)]).2 := rs_e (dW_4 h h2 h3 h4).symm (by decide)
theorem rs_4 (hO : OkD s L) (h : (ByteArray.toList k == ByteArray.toList (⟨#[]⟩ : ByteArray)) = false) (h2 : ¬ (16 : Int) < ((k.size : Nat) : Int)) (h3 : 0 ≤ dOf L k) : L.map (rSt k v) = dPutL s L [(k, v)] ∧ 0 = (dPutT s L [(k, v)]).2 := by
  have := dW_3 (s := s) (L := L) (v := v) h h2 h3
  unfold dPutL
  rw [dPut_one, ← this, if_pos rfl]
  exact ⟨rSt_set hO h3, rfl⟩
theorem rs_5 (h : (ByteArray.toList k == ByteArray.toList (⟨#[]⟩ : ByteArray)) = false) (h2 : ¬ (16 : Int) < ((k.size : Nat) : Int)) (h3 : ¬ 0 ≤ dOf L k) (h4 : ¬ s ≤ ((L.length : Nat) : Int)) : L.map (rSt k v) ++ [(k, v)] = dPutL s L [(k, v)] ∧ 0 = (dPutT s L [(k, v)]).2 := by
  have := dW_5 (s := s) (L := L) (v := v) h h2 h3 h4
  unfold dPutL
  rw [dPut_one, ← this, if_pos rfl, rSt_none h3]
  exact ⟨rfl, rfl⟩
theorem rp_ok {lo : List It} (hO : OkD s lo) {y : It} (hy : 0 ≤ y.2 ∧ y.2 ≤ 18446744073709551615) : OkD s (dPutL s lo [y]) := by
  unfold dPutL
  rw [dPut_one]
  split
  · rename_i q; exact hO.with_ hy q
  · exact hO
theorem rp_step {lo : List It} (i1 : (lo, (0 : Int)) = dPutT s L (l.take x.toNat)) (h0 : 0 ≤ x) (h1 : x < ((l.length : Nat) : Int)) (he : (dPutT s lo [((gtD l x.toNat).1, (gtD l x.toNat).2)]).2 = 0) : (dPutL s lo [((gtD l x.toNat).1, (gtD l x.toNat).2)], (0 : Int)) = dPutT s L (l.take (x + 1).toNat) := by
  have h := dPut_at i1 h0 h1
  unfold dPutL
  rw [if_pos he, ← h, dPut_one]
  rw [dPut_one] at he
  show ((dWith s lo (gtD l x.toNat)).1, (0 : Int)) = dWith s lo (gtD l x.toNat)
  exact Prod.ext rfl he.symm
theorem rp_err {lo : List It} (i1 : (lo, (0 : Int)) = dPutT s L (l.take x.toNat)) (h0 : 0 ≤ x) (h1 : x < ((l.length : Nat) : Int)) (he : (dPutT s lo [((gtD l x.toNat).1, (gtD l x.toNat).2)]).2 ≠ 0) : L = dPutL s L l ∧ (dPutT s lo [((gtD l x.toNat).1, (gtD l x.toNat).2)]).2 = (dPutT s L l).2 := by
  rw [dPut_one] at he ⊢
  have := dPut_err (L := L) (l := l) (e := (dWith s lo (gtD l x.toNat)).2) (L2 := (dWith s lo (gtD l x.toNat)).1) i1 h0 h1 rfl he
  refine ⟨?_, this⟩
  unfold dPutL
  rw [← this]
  exact (if_neg he).symm
theorem rp_end {lo : List It} (i1 : (lo, (0 : Int)) = dPutT s L (l.take x.toNat)) (h1 : ((l.length : Nat) : Int) ≤ x) : lo = dPutL s L l ∧ 0 = (dPutT s L l).2 := by
  rw [List.take_of_length_le (by omega)] at i1
  unfold dPutL
  rw [← i1, if_pos rfl]; exact ⟨rfl, rfl⟩
theorem rg_hit (hx : x = dOf L k) (h0 : 0 ≤ x) : (gtD L x.toNat).2 = dGetV L k ∧ true = dGetB L k := by
  subst hx; exact dGet_1 h0
theorem rg_none (hx : -1 = dOf L k) : 0 = dGetV L k ∧ false = dGetB L k := dGet_2 (by omega)
theorem rdr_no (h : ¬ 0 ≤ dOf L k) : L = dDroL L k ∧ 8 = dDroE L k := by
  unfold dDroL dDroE
  rw [if_pos (by omega), if_pos (by omega)]; exact ⟨rfl, rfl⟩
theorem rdr_yes (hO : OkD s L) (h : 0 ≤ dOf L k) : L.filter (rKp k) = dDroL L k ∧ 0 = dDroE L k := by
  have hr := dOf_rng L k
  unfold dDroL dDroE
  rw [if_neg (by omega), if_neg (by omega)]
  refine ⟨?_, rfl⟩
  have hk : ∀ j, j < L.length → j ≠ (dOf L k).toNat → rKp k (gtD L j) = true := fun j hj hne => by
    unfold rKp
    rw [Bool.not_eq_true']
    refine beq_eq_false_iff_ne.2 fun q => ?_
    have := hO.one_of (key := k) hj (toList_inj q)
    omega
  conv => lhs; rw [← List.take_append_drop (dOf L k).toNat L]
  rw [List.filter_append, List.eraseIdx_eq_take_drop_succ, List.drop_eq_getElem_cons (show (dOf L k).toNat < L.length by omega), List.filter_cons_of_neg]
  · congr 1
    · refine List.filter_eq_self.2 fun y hy => ?_
      obtain ⟨j, hj, e⟩ := List.mem_iff_getElem.1 hy
      rw [List.length_take] at hj
      rw [List.getElem_take] at e
      rw [← e, ← gtD_lt (show j < L.length by omega)]
      exact hk j (by omega) (by omega)
    · refine List.filter_eq_self.2 fun y hy => ?_
      obtain ⟨j, hj, e⟩ := List.mem_iff_getElem.1 hy
      rw [List.length_drop] at hj
      rw [List.getElem_drop] at e
      rw [← e, ← gtD_lt (show (dOf L k).toNat + 1 + j < L.length by omega)]
      exact hk _ (by omega) (by omega)
  · rw [← gtD_lt (show (dOf L k).toNat < L.length by omega)]
    unfold rKp
    rw [dOf_at h]
    simp
end
end Go.Proofs.YtnbkafnikpbmbaaGreatDoor.K
