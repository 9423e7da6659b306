/-
  Keys and their numbers, and a map.
-/
import Derived.Test.YtnbkafnikpbmbaaDoorDv
import Derived.Test.YtnbkafnikpbmbaaDoorMu
namespace Go.Proofs.YtnbkafnikpbmbaaDoor.K
set_option linter.unusedSimpArgs false
set_option linter.unusedVariables false

def dMap (L : List It) (k : ByteArray) : Option Int := if 0 ≤ dOf L k then some (dGetV L k) else none
section
variable {m : AM} {o z s : Int} {L : List It} {key k : ByteArray} {v : Int}
theorem dGetV_at {i : Nat} (h : OkD s L) (hi : i < L.length) (e : (gtD L i).1 = key) : dMap L key = some (gtD L i).2 := by
  have e1 := h.one_of hi e
  unfold dMap dGetV
  rw [if_pos (by omega), if_neg (by omega), e1, Int.toNat_natCast]
theorem dMap_no (h : ∀ i, i < L.length → (gtD L i).1 ≠ key) : dMap L key = none := by
  unfold dMap
  by_cases q : 0 ≤ dOf L key
  · have := dOf_rng L key
    exact absurd (dOf_at q) (h _ (by omega))
  · rw [if_neg q]
theorem dMap_none (h : ¬ 0 ≤ dOf L key) : dMap L key = none := by unfold dMap; rw [if_neg h]
theorem dMap_some (h : 0 ≤ dOf L key) : ∃ v, dMap L key = some v := ⟨_, by unfold dMap; rw [if_pos h]⟩
theorem dMap_nil : (fun _ => none : ByteArray → Option Int) = dMap [] := funext fun k => (dMap_no (fun i hi => absurd hi (by simp))).symm
/-- A key that goes. -/
theorem dm_drop (h : OkD s L) (key : ByteArray) : delN L.length (dMap L) key = (dDroL L key).length ∧ updD (dMap L) key = dMap (dDroL L key) := by
  have hr := dOf_rng L key
  by_cases q : dOf L key < 0
  · have e : dDroL L key = L := by unfold dDroL; rw [if_pos q]
    have e2 : dMap L key = none := dMap_none (by omega)
    rw [e]
    refine ⟨by unfold delN; rw [e2], funext fun x => ?_⟩
    unfold updD
    split
    · rename_i q2; rw [q2, e2]
    · rfl
  · have q0 : 0 ≤ dOf L key := by omega
    have e : dDroL L key = L.eraseIdx (dOf L key).toNat := by unfold dDroL; rw [if_neg q]
    obtain ⟨v, e2⟩ := dMap_some q0
    have hat := dOf_at q0
    have hE := h.erase (dOf L key).toNat
    have hlen : (L.eraseIdx (dOf L key).toNat).length = L.length - 1 := List.length_eraseIdx_of_lt (by omega)
    have hg : ∀ j, j < L.length - 1 → gtD (L.eraseIdx (dOf L key).toNat) j = gtD L (if j < (dOf L key).toNat then j else j + 1) := fun j hj => by
      unfold gtD
      simp only [List.getD_eq_getElem?_getD, List.getElem?_eraseIdx]
      split <;> rfl
    rw [e]
    refine ⟨by unfold delN; rw [e2, hlen], funext fun x => ?_⟩
    unfold updD
    by_cases qx : x = key
    · rw [if_pos qx]
      refine (dMap_no fun i hi e3 => ?_).symm
      rw [hlen] at hi
      rw [hg i hi] at e3
      have := h.one_of (key := x) (by split <;> omega) e3
      rw [qx] at this
      split at this <;> omega
    · rw [if_neg qx]
      by_cases qo : 0 ≤ dOf L x
      · have hrx := dOf_rng L x
        have hx := dOf_at qo
        have hne : (dOf L x).toNat ≠ (dOf L key).toNat := fun q3 => qx (by rw [← hx, q3, hat])
        rw [dGetV_at h (i := (dOf L x).toNat) (by omega) hx]
        rcases Nat.lt_or_ge (dOf L x).toNat (dOf L key).toNat with q4 | q4
        · have := hg (dOf L x).toNat (by omega)
          rw [if_pos q4] at this
          rw [dGetV_at hE (i := (dOf L x).toNat) (by omega) (by rw [this]; exact hx), this]
        · have := hg ((dOf L x).toNat - 1) (by omega)
          rw [if_neg (by omega), show (dOf L x).toNat - 1 + 1 = (dOf L x).toNat by omega] at this
          rw [dGetV_at hE (i := (dOf L x).toNat - 1) (by omega) (by rw [this]; exact hx), this]
      · rw [dMap_none qo]
        refine (dMap_no fun i hi e3 => ?_).symm
        rw [hlen] at hi
        rw [hg i hi] at e3
        exact dOf_no qo _ (by split <;> omega) e3
/-- A key that is set. -/
theorem dm_set (h : OkD s L) (hv : 0 ≤ v ∧ v ≤ 18446744073709551615) (he : (dPutT s L [(k, v)]).2 = 0) : updN L.length (dMap L) k = (dPutL s L [(k, v)]).length ∧ updO (dMap L) k v = dMap (dPutL s L [(k, v)]) := by
  have hr := dOf_rng L k
  have hO : OkD s (dPutL s L [(k, v)]) := by
    unfold dPutL
    rw [if_pos he, dPut_one]
    rw [dPut_one] at he
    exact h.with_ hv he
  by_cases q : 0 ≤ dOf L k
  · have e : dPutL s L [(k, v)] = L.set (dOf L k).toNat (k, v) := by
      unfold dPutL
      rw [if_pos he, dPut_one]
      rw [dPut_one] at he
      unfold dWith at he ⊢
      split at he
      · exact absurd (show (17 : Int) = 0 from he) (by decide)
      · rename_i h1
        rw [if_neg h1]
        split at he
        · exact absurd (show (16 : Int) = 0 from he) (by decide)
        · rename_i h2
          rw [if_neg h2, if_pos q]
    have hat := dOf_at q
    obtain ⟨u, e2⟩ := dMap_some q
    rw [e] at hO ⊢
    have hg := fun j => gtD_set L (dOf L k).toNat ((k, v) : It) j (by omega)
    refine ⟨by unfold updN; rw [e2, List.length_set], funext fun x => ?_⟩
    unfold updO
    by_cases qx : x = k
    · rw [if_pos qx, dGetV_at hO (i := (dOf L k).toNat) (by rw [List.length_set]; omega) (by rw [hg, if_pos rfl, qx]), hg, if_pos rfl]
    · rw [if_neg qx]
      by_cases qo : 0 ≤ dOf L x
      · have hrx := dOf_rng L x
        have hx := dOf_at qo
        have hne : (dOf L x).toNat ≠ (dOf L k).toNat := fun q3 => qx (by rw [← hx, q3, hat])
        rw [dGetV_at h (i := (dOf L x).toNat) (by omega) hx, dGetV_at hO (i := (dOf L x).toNat) (by rw [List.length_set]; omega) (by rw [hg, if_neg hne]; exact hx), hg, if_neg hne]
      · rw [dMap_none qo]
        refine (dMap_no fun i hi e3 => ?_).symm
        rw [List.length_set] at hi
        rw [hg] at e3
        split at e3
        · exact qx e3.symm
        · exact dOf_no qo _ hi e3
  · have e : dPutL s L [(k, v)] = L ++ [(k, v)] := by
      unfold dPutL
      rw [if_pos he, dPut_one]
      rw [dPut_one] at he
      unfold dWith at he ⊢
      split at he
      · exact absurd (show (17 : Int) = 0 from he) (by decide)
      · rename_i h1
        rw [if_neg h1]
        split at he
        · exact absurd (show (16 : Int) = 0 from he) (by decide)
        · rename_i h2
          rw [if_neg h2, if_neg q]
          split at he
          · exact absurd (show (10 : Int) = 0 from he) (by decide)
          · rename_i h4
            rw [if_neg h4]
    rw [e] at hO ⊢
    refine ⟨by unfold updN; rw [dMap_none q, List.length_append]; rfl, funext fun x => ?_⟩
    unfold updO
    have hl : (L ++ [((k, v) : It)]).length = L.length + 1 := by rw [List.length_append]; rfl
    by_cases qx : x = k
    · rw [if_pos qx, dGetV_at hO (i := L.length) (by omega) (by rw [gtD_app, if_neg (by omega), Nat.sub_self, qx]; rfl), gtD_app, if_neg (by omega), Nat.sub_self]; rfl
    · rw [if_neg qx]
      by_cases qo : 0 ≤ dOf L x
      · have hrx := dOf_rng L x
        have hx := dOf_at qo
        rw [dGetV_at h (i := (dOf L x).toNat) (by omega) hx, dGetV_at hO (i := (dOf L x).toNat) (by omega) (by rw [gtD_app, if_pos (by omega)]; exact hx), gtD_app, if_pos (by omega)]
      · rw [dMap_none qo]
        refine (dMap_no fun i hi e3 => ?_).symm
        rw [gtD_app] at e3
        split at e3
        · rename_i q5; exact dOf_no qo _ q5 e3
        · rw [show i - L.length = 0 by omega] at e3; exact qx e3.symm
theorem dm_bad (he : (dPutT s L [(k, v)]).2 ≠ 0) : k.size = 0 ∨ 16 < k.size ∨ s ≤ (L.length : Int) := by
  rw [dPut_one] at he
  unfold dWith at he
  by_cases h1 : k.size = 0
  · exact .inl h1
  · by_cases h2 : 16 < k.size
    · exact .inr (.inl h2)
    · rw [if_neg h1, if_neg h2] at he
      split at he
      · exact absurd rfl he
      · split at he
        · rename_i h4; exact .inr (.inr h4)
        · exact absurd rfl he
theorem dm_get {u : Int} (h : dMap L key = some u) : dGetB L key = true ∧ dGetV L key = u := by
  unfold dMap at h
  split at h
  · rename_i q
    cases h
    exact ⟨by unfold dGetB; exact decide_eq_true q, rfl⟩
  · cases h
theorem dm_is : ((dDroE L key == 0) != (dMap L key).isSome) = false := by
  unfold dDroE dMap
  by_cases q : dOf L key < 0
  · rw [if_pos q, if_neg (show ¬ 0 ≤ dOf L key by omega)]; rfl
  · rw [if_neg q, if_pos (show 0 ≤ dOf L key by omega)]; rfl
end
end Go.Proofs.YtnbkafnikpbmbaaDoor.K
