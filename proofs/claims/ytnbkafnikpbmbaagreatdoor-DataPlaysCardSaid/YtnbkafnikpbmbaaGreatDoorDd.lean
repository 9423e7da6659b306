/-
  Keys and their numbers: the list that is told.
-/
import Derived.Test.YtnbkafnikpbmbaaGreatDoorDb
namespace Go.Proofs.YtnbkafnikpbmbaaGreatDoor.K
set_option linter.unusedSimpArgs false
set_option linter.unusedVariables false

def dPutL (s : Int) (L items : List It) : List It := if (dPutT s L items).2 = 0 then (dPutT s L items).1 else L
section
variable {m : AM} {o z s : Int} {L l items : List It} {key : ByteArray} {x : It}
theorem dOf_at (h : 0 ≤ dOf L key) : (gtD L (dOf L key).toNat).1 = key := by
  have := fIx_yes (p := dIs L key) (n := L.length) h
  unfold dIs at this
  exact toList_inj (beq_iff_eq.1 this)
theorem dOf_no (h : ¬ 0 ≤ dOf L key) : ∀ i, i < L.length → (gtD L i).1 ≠ key := fun i hi e => by
  have h1 : fstN (dIs L key) L.length = none := by
    cases hq : fstN (dIs L key) L.length with
    | none => rfl
    | some j => exact absurd (by unfold dOf fIx; rw [hq]; show 0 ≤ (j : Int); omega) h
  unfold fstN at h1
  rw [List.find?_range_eq_none] at h1
  have := h1 i hi
  unfold dIs at this
  rw [e] at this
  simp at this
theorem OkD.one_of (h : OkD s L) {i : Nat} (hi : i < L.length) (e : (gtD L i).1 = key) : dOf L key = (i : Int) := by
  have h0 : 0 ≤ dOf L key := by
    rcases Int.lt_or_le (dOf L key) 0 with h1 | h1
    · exact absurd e (dOf_no (by omega) i hi)
    · exact h1
  have hr := dOf_rng L key
  have := h.one i (dOf L key).toNat hi (by omega) (by rw [e, dOf_at h0])
  omega
theorem OkD.with_ (h : OkD s L) (hx : 0 ≤ x.2 ∧ x.2 ≤ 18446744073709551615) (he : (dWith s L x).2 = 0) : OkD s (dWith s L x).1 := by
  have hr := dOf_rng L x.1
  unfold dWith at he ⊢
  split at he
  · exact absurd (show (17 : Int) = 0 from he) (by decide)
  · rename_i h1
    rw [if_neg h1]
    split at he
    · exact absurd (show (16 : Int) = 0 from he) (by decide)
    · rename_i h2
      rw [if_neg h2]
      split at he
      · rename_i h3
        rw [if_pos h3]
        have hat := dOf_at h3
        refine ⟨by simpa using h.len, fun i hi => ?_, fun i j hi hj e => ?_⟩
        · rw [List.length_set] at hi
          rw [gtD_set L _ x i (by omega)]
          split
          · exact ⟨by omega, by omega, hx⟩
          · exact h.ok i hi
        · rw [List.length_set] at hi hj
          rw [gtD_set L _ x i (by omega), gtD_set L _ x j (by omega)] at e
          split at e
          · rename_i q1
            split at e
            · rename_i q2; omega
            · rename_i q2
              exact absurd (h.one_of hj e.symm) (by omega)
          · rename_i q1
            split at e
            · rename_i q2
              exact absurd (h.one_of hi e) (by omega)
            · exact h.one i j hi hj e
      · rename_i h3
        rw [if_neg h3]
        split at he
        · exact absurd (show (10 : Int) = 0 from he) (by decide)
        · rename_i h4
          rw [if_neg h4]
          have hno := dOf_no h3
          refine ⟨by show (((L ++ [x]).length : Nat) : Int) ≤ s; rw [List.length_append]; show ((L.length + 1 : Nat) : Int) ≤ s; omega, fun i hi => ?_, fun i j hi hj e => ?_⟩
          · rw [List.length_append] at hi
            have hi : i < L.length + 1 := hi
            rw [gtD_app]
            split
            · rename_i q; exact h.ok i q
            · rw [show i - L.length = 0 by omega]
              exact ⟨by show 0 < x.1.size; omega, by show x.1.size ≤ 16; omega, hx⟩
          · rw [List.length_append] at hi hj
            have hi : i < L.length + 1 := hi
            have hj : j < L.length + 1 := hj
            rw [gtD_app, gtD_app] at e
            split at e
            · rename_i q1
              split at e
              · rename_i q2; exact h.one i j q1 q2 e
              · rename_i q2
                rw [show j - L.length = 0 by omega] at e
                exact absurd e (hno i q1)
            · rename_i q1
              split at e
              · rename_i q2
                rw [show i - L.length = 0 by omega] at e
                exact absurd e.symm (hno j q2)
              · omega
theorem OkD.put : ∀ items : List It, (∀ x, x ∈ items → 0 ≤ x.2 ∧ x.2 ≤ 18446744073709551615) → ∀ L, OkD s L → (items.foldl (fun p x => if p.2 = 0 then dWith s p.1 x else p) (L, (0 : Int))).2 = 0 → OkD s (items.foldl (fun p x => if p.2 = 0 then dWith s p.1 x else p) (L, (0 : Int))).1
  | [], _, L, h, _ => h
  | x :: r, hx, L, h, he => by
    rw [List.foldl_cons, if_pos rfl] at he ⊢
    by_cases q : (dWith s L x).2 = 0
    · obtain ⟨⟨L2, e⟩, hq⟩ : ∃ p, dWith s L x = p := ⟨_, rfl⟩
      have hq' : dWith s (L, (0 : Int)).1 x = (L2, e) := hq
      rw [hq'] at he ⊢
      rw [hq] at q
      have q : e = 0 := q
      subst q
      have h2 := h.with_ (hx x (List.mem_cons_self ..)) (by rw [hq])
      rw [hq] at h2
      exact OkD.put r (fun y hy => hx y (List.mem_cons_of_mem _ hy)) L2 h2 he
    · exact absurd ((congrArg Prod.snd (dPut_same q r)).symm.trans he) q
theorem DtR.put (h : DtR m o z L) (hx : ∀ x, x ∈ items → 0 ≤ x.2 ∧ x.2 ≤ 18446744073709551615) : DtR (dPutM m o z L items) o z (dPutL (z / 32) L items) := by
  unfold dPutM dPutL
  by_cases q : (dPutT (z / 32) L items).2 = 0
  · rw [if_pos q, if_pos q]
    exact h.lay (OkD.put items hx L h.okd q)
  · rw [if_neg q, if_neg q]; exact h
theorem OkD.erase (h : OkD s L) (i : Nat) : OkD s (L.eraseIdx i) := by
  have hl := List.length_eraseIdx_le L i
  have hg : ∀ j, j < (L.eraseIdx i).length → gtD (L.eraseIdx i) j = gtD L (if j < i then j else j + 1) ∧ (if j < i then j else j + 1) < L.length := fun j hj => by
    have hlen := List.length_eraseIdx (l := L) (i := i)
    refine ⟨?_, ?_⟩
    · unfold gtD
      simp only [List.getD_eq_getElem?_getD, List.getElem?_eraseIdx]
      split <;> rfl
    · split
      · omega
      · rw [hlen] at hj
        split at hj <;> omega
  refine ⟨Int.le_trans (by omega) h.len, fun j hj => ?_, fun j k hj hk e => ?_⟩
  · rw [(hg j hj).1]; exact h.ok _ (hg j hj).2
  · rw [(hg j hj).1, (hg k hk).1] at e
    have := h.one _ _ (hg j hj).2 (hg k hk).2 e
    split at this <;> split at this <;> omega
theorem DtR.drop (h : DtR m o z L) (key : ByteArray) : DtR (dDroM m o z L key) o z (dDroL L key) := by
  unfold dDroM dDroL
  split
  · exact h
  · exact h.lay (h.okd.erase _)
theorem dPut_one : dPutT s L [x] = dWith s L x := by
  unfold dPutT
  rw [List.foldl_cons, List.foldl_nil, if_pos rfl]
end
end Go.Proofs.YtnbkafnikpbmbaaGreatDoor.K
