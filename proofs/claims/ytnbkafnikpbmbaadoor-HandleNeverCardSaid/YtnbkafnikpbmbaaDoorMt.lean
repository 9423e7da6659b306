/-
  Handles that are told, and dropped.
-/
import Derived.Test.YtnbkafnikpbmbaaDoorMq
import Derived.Test.YtnbkafnikpbmbaaDoorMs
import Derived.Test.YtnbkafnikpbmbaaDoorGe
namespace Go.Proofs.YtnbkafnikpbmbaaDoor.K
set_option linter.unusedSimpArgs false
set_option linter.unusedVariables false

theorem allH_succ (p : Nat → Bool) (V : Nat → Int) (n : Nat) : allH p V (n + 1) = allH p V n ++ if p n = true then [V n] else [] := by
  unfold allH
  rw [List.range_succ, List.filter_append, List.map_append]
  by_cases h : p n = true
  · simp [h]
  · simp [h]
theorem allH_add {p p' : Nat → Bool} {V V' : Nat → Int} {n i : Nat} (hi : i < n) (h1 : p i = false) (h2 : p' i = true) (h : ∀ j, j < n → j ≠ i → p j = p' j ∧ (p j = true → V j = V' j)) : (allH p V n ++ [V' i]).Perm (allH p' V' n) := by
  induction n with
  | zero => omega
  | succ n ih =>
    rw [allH_succ, allH_succ]
    by_cases e : i = n
    · subst e
      rw [h1, h2, if_pos rfl, if_neg (by simp), List.append_nil, allH_cg (p := p) (q := p') (V := V) (W := V') (fun j hj => (h j (by omega) (by omega)).1) (fun j hj hq => (h j (by omega) (by omega)).2 (by rw [(h j (by omega) (by omega)).1]; exact hq))]
    · have ih := ih (by omega) (fun j hj hne => h j (by omega) hne)
      have hn := h n (by omega) (fun q => e q.symm)
      have e9 : (if p n = true then [V n] else []) = if p' n = true then [V' n] else [] := by
        rw [hn.1]
        by_cases q : p' n = true
        · rw [if_pos q, if_pos q, hn.2 (by rw [hn.1]; exact q)]
        · rw [if_neg q, if_neg q]
      rw [e9, List.append_assoc]
      refine List.Perm.trans (List.Perm.append_left _ (List.perm_append_comm)) ?_
      rw [← List.append_assoc]
      exact List.Perm.append_right _ ih

section
variable {t : List Sl} {fT fG : Int → Option Int} {L : List Int}
def NvI (t : List Sl) (fT fG : Int → Option Int) : Prop :=
  (∀ h v, fT h = some v → v = 1 ∧ ∃ (i : Nat) (g : Int), i < t.length ∧ h = 256 * g + (i : Int) ∧ 0 ≤ g ∧ g ≤ (gtD t i).2 ∧ ((fG h = none ∧ rOn t i = true ∧ g = (gtD t i).2) ∨ (fG h = some 1 ∧ (rOn t i = false ∨ g < (gtD t i).2)))) ∧
  (∀ i, i < t.length → rOn t i = true → fT (rHv t i) = some 1) ∧ (∀ h v, fG h = some v → ∃ v', fT h = some v') ∧ ∀ h v, fT h = some v → 0 ≤ h ∧ h ≤ 18446744073709551615
theorem NvI.start {n : Nat} : NvI (List.replicate n ((0, 0) : Sl)) (fun _ => none) (fun _ => none) := by
  refine ⟨fun h v e => (by cases e), fun i hi ho => ?_, fun h v e => (by cases e), fun h v e => (by cases e)⟩
  unfold rOn at ho
  rw [gtD_rep (by simpa using hi)] at ho
  exact absurd ho (by decide)
theorem rFind_no (h : Int) (hn : ∀ j, j < t.length → rNm t h j = false) : rFind t h = -1 := fIx_no hn
/-- What is told of one that was told once. -/
theorem NvI.get (H : NvI t fT fG) (hok : OkT t) {h v : Int} (hh : fT h = some v) : (rGetE t h = 0 ∧ (fG h).getD 0 = 0) ∨ (rGetE t h = 6 ∧ rGetA t h = 0 ∧ (fG h).getD 0 = 1) := by
  have h256 := hok.1
  obtain ⟨_, i, g, hi, rfl, g0, g1, hc⟩ := H.1 h v hh
  rcases hc with ⟨e1, e2, rfl⟩ | ⟨e1, e2⟩
  · left
    exact ⟨(rGet_hv hok hi e2).2, by rw [e1]; rfl⟩
  · right
    have hf : rFind t (256 * g + (i : Int)) = -1 := rFind_no _ fun j hj => by
      unfold rNm
      by_cases q : 256 * g + (i : Int) = 256 * (gtD t j).2 + (j : Int)
      · have hij : i = j := by omega
        subst hij
        rcases e2 with e2 | e2
        · unfold rOn at e2; rw [e2]; rfl
        · omega
      · rw [show ((256 * g + (i : Int) == 256 * (gtD t j).2 + (j : Int))) = false from beq_eq_false_iff_ne.2 q, Bool.and_false]
    unfold rGetE rGetA
    rw [hf, e1]
    exact ⟨rfl, rfl, rfl⟩
theorem rNew_at {a : Int} (ha : ¬ a < 1) (he : rNewE t a = 0) : 0 ≤ rNewI t ∧ rNewI t < (t.length : Int) ∧ rNewV t a = 256 * ((gtD t (rNewI t).toNat).2 + 1) + rNewI t ∧ rNewT t a = rSet t (rNewI t) a ((gtD t (rNewI t).toNat).2 + 1) := by
  unfold rNewE at he
  rw [if_neg ha] at he
  have h0 : ¬ rNewI t < 0 := fun q => by rw [if_pos q] at he; exact absurd he (by decide)
  refine ⟨by omega, (rNewI_rng t).2, ?_, ?_⟩
  · unfold rNewV; rw [if_neg ha, if_neg h0]
  · unfold rNewT; rw [if_neg ha]
theorem NvI.new (H : NvI t fT fG) (hok : OkT t) {a : Int} (he : rNewE t a = 0) :
    (fT (rNewV t a)).getD 0 = 0 ∧ NvI (rNewT t a) (updO fT (rNewV t a) ((fT (rNewV t a)).getD 0 + 1)) fG ∧ (L.Perm (rAll t) → (L ++ [rNewV t a]).Perm (rAll (rNewT t a))) := by
  have ha : ¬ a < 1 := fun q => by unfold rNewE at he; rw [if_pos q] at he; exact absurd he (by decide)
  have h256 := hok.1
  obtain ⟨h0, h1, eV, eT⟩ := rNew_at ha he
  obtain ⟨f1, f2⟩ := rNewI_free h0
  obtain ⟨i, hi⟩ : ∃ i : Nat, rNewI t = (i : Int) := ⟨(rNewI t).toNat, by omega⟩
  simp only [hi, Int.toNat_natCast] at h0 h1 eV eT f1 f2
  have hil : i < t.length := by omega
  have hgi := (hok.2 i hil).2
  have hat : ∀ j, gtD (rNewT t a) j = if j = i then (a, (gtD t i).2 + 1) else gtD t j := fun j => by
    rw [eT, rSet_at h0 h1]
    by_cases e : j = i
    · rw [if_pos (by omega), if_pos e]
    · rw [if_neg (by omega), if_neg e]
  have hlen : (rNewT t a).length = t.length := by rw [eT]; exact rSet_len _ _ _ _
  have hnone : fT (rNewV t a) = none := by
    cases hq : fT (rNewV t a) with
    | none => rfl
    | some v =>
      exfalso
      obtain ⟨_, j, g, hj, e, g0, g1, _⟩ := H.1 _ v hq
      rw [eV] at e
      have : j = i := by omega
      subst this
      omega
  have hnG : fG (rNewV t a) = none := by
    cases hq : fG (rNewV t a) with
    | none => rfl
    | some v => obtain ⟨v', e⟩ := H.2.2.1 _ v hq; rw [hnone] at e; cases e
  refine ⟨by rw [hnone]; rfl, ⟨fun h v hh => ?_, fun j hj ho => ?_, fun h v hh => ?_, fun h v hh => ?_⟩, fun hL => ?_⟩
  · rw [hnone] at hh
    unfold updO at hh
    by_cases e : h = rNewV t a
    · rw [if_pos e] at hh
      cases hh
      refine ⟨rfl, i, (gtD t i).2 + 1, by omega, by rw [e, eV], by omega, by rw [hat, if_pos rfl]; omega, .inl ⟨by rw [e]; exact hnG, ?_, by rw [hat, if_pos rfl]⟩⟩
      unfold rOn; rw [hat, if_pos rfl]; exact decide_eq_true (by show 0 < a; omega)
    · rw [if_neg e] at hh
      obtain ⟨ev, j, g, hj, e1, g0, g1, hc⟩ := H.1 h v hh
      refine ⟨ev, j, g, by omega, e1, g0, ?_, ?_⟩
      · rw [hat]; split
        · rename_i q; subst q; show g ≤ (gtD t j).2 + 1; omega
        · exact g1
      · by_cases q : j = i
        · subst q
          rcases hc with ⟨_, c2, _⟩ | ⟨c1, _⟩
          · unfold rOn at c2; rw [f1] at c2; exact absurd c2 (by decide)
          · exact .inr ⟨c1, .inr (by rw [hat, if_pos rfl]; show g < (gtD t j).2 + 1; omega)⟩
        · have e9 : rOn (rNewT t a) j = rOn t j := by unfold rOn; rw [hat, if_neg q]
          rw [e9, hat, if_neg q]; exact hc
  · rw [hnone]
    unfold updO
    by_cases q : j = i
    · subst q
      have : rHv (rNewT t a) j = rNewV t a := by unfold rHv; rw [hat, if_pos rfl, eV]
      rw [if_pos this]; rfl
    · have e9 : rOn t j = true := by unfold rOn at ho ⊢; rw [hat, if_neg q] at ho; exact ho
      have e8 : rHv (rNewT t a) j = rHv t j := by unfold rHv; rw [hat, if_neg q]
      rw [e8]
      have e7 := H.2.1 j (by omega) e9
      rw [if_neg (fun x => by rw [x, hnone] at e7; cases e7)]; exact e7
  · obtain ⟨v', e⟩ := H.2.2.1 h v hh
    unfold updO
    split
    · exact ⟨_, rfl⟩
    · exact ⟨v', e⟩
  · unfold updO at hh
    split at hh
    · rename_i q; rw [q, eV]; omega
    · exact H.2.2.2 h v hh
  · refine List.Perm.trans (List.Perm.append_right _ hL) ?_
    unfold rAll
    rw [hlen, show rNewV t a = rHv (rNewT t a) i by unfold rHv; rw [hat, if_pos rfl, eV]]
    refine allH_add hil (by unfold rOn; rw [f1]; decide) (by unfold rOn; rw [hat, if_pos rfl]; exact decide_eq_true (by show 0 < a; omega)) fun j hj hne => ⟨by unfold rOn; rw [hat, if_neg hne], fun _ => by unfold rHv; rw [hat, if_neg hne]⟩
theorem NvI.new0 {a : Int} (he : ¬ rNewE t a = 0) : rNewT t a = t := by
  unfold rNewT rNewE at *
  split
  · rfl
  · rename_i q
    rw [if_neg q] at he
    by_cases h0 : rNewI t < 0
    · unfold rSet; rw [if_pos h0]
    · rw [if_neg h0] at he; exact absurd rfl he
theorem NvI.drop (H : NvI t fT fG) (hok : OkT t) (hL : L.Perm (rAll t)) {k : Nat} (hk : k < L.length) :
    rGetE t (gtD L k) = 0 ∧ (fG (gtD L k)).getD 0 = 0 ∧ NvI (rDroT t (gtD L k)) fT (updO fG (gtD L k) ((fG (gtD L k)).getD 0 + 1)) ∧ (L.take k ++ L.drop (k + 1)).Perm (rAll (rDroT t (gtD L k))) ∧ 0 ≤ gtD L k ∧ gtD L k ≤ 18446744073709551615 := by
  have h256 := hok.1
  have hm : gtD L k ∈ rAll t := hL.mem_iff.1 (by rw [gtD_lt hk]; exact List.getElem_mem _)
  obtain ⟨i, hi, ho, e⟩ : ∃ i, i < t.length ∧ rOn t i = true ∧ gtD L k = rHv t i := by
    obtain ⟨q, hq, e⟩ := List.mem_iff_getElem.1 hm
    obtain ⟨i, h1, h2, h3⟩ := rAll_at (t := t) (k := q) hq
    exact ⟨i, h1, h2, by rw [← e, ← gtD_lt hq, h3]⟩
  have eL : L = L.take k ++ (gtD L k :: L.drop (k + 1)) := by
    rw [gtD_lt hk, ← List.drop_eq_getElem_cons hk, List.take_append_drop]
  generalize gtD L k = h at *
  subst e
  have hT := H.2.1 i hi ho
  have hb := H.2.2.2 _ _ hT
  obtain ⟨_, j, g, hj, e, g0, g1, hc⟩ := H.1 _ _ hT
  have hij : j = i := by unfold rHv at e; omega
  subst hij
  have hgg : g = (gtD t j).2 := by unfold rHv at e; omega
  have hG : fG (rHv t j) = none := by
    rcases hc with ⟨c, _⟩ | ⟨_, c | c⟩
    · exact c
    · rw [ho] at c; exact absurd c (by decide)
    · omega
  have hf := rFind_hv hok hi ho
  have hat : ∀ x, gtD (rDroT t (rHv t j)) x = if x = j then (0, (gtD t j).2) else gtD t x := fun x => by
    unfold rDroT
    rw [hf, rSet_at (by omega) (by omega), Int.toNat_natCast]
    by_cases q : x = j
    · rw [if_pos (by omega), if_pos q]
    · rw [if_neg (by omega), if_neg q]
  have hlen : (rDroT t (rHv t j)).length = t.length := by unfold rDroT; exact rSet_len _ _ _ _
  have hoff : rOn (rDroT t (rHv t j)) j = false := by unfold rOn; rw [hat, if_pos rfl]; rfl
  have hsame : ∀ x, x ≠ j → rOn (rDroT t (rHv t j)) x = rOn t x ∧ rHv (rDroT t (rHv t j)) x = rHv t x := fun x hx => ⟨by unfold rOn; rw [hat, if_neg hx], by show 256 * (gtD (rDroT t (rHv t j)) x).2 + (x : Int) = 256 * (gtD t x).2 + (x : Int); rw [hat, if_neg hx]⟩
  refine ⟨(rGet_hv hok hi ho).2, by rw [hG]; rfl, ⟨fun h v hh => ?_, fun x hx hox => ?_, fun h v hh => ?_, H.2.2.2⟩, ?_, hb⟩
  · obtain ⟨ev, x, g', hx, e1, g0', g1', hc'⟩ := H.1 h v hh
    have hg' : (gtD (rDroT t (rHv t j)) x).2 = (gtD t x).2 := by
      rw [hat]; split
      · rename_i q; rw [q]
      · rfl
    refine ⟨ev, x, g', by omega, e1, g0', by rw [hg']; exact g1', ?_⟩
    rw [hG, hg']
    unfold updO
    by_cases q : h = rHv t j
    · rw [if_pos q]
      right
      have hxj : x = j := by rw [q] at e1; unfold rHv at e1; omega
      subst hxj
      exact ⟨rfl, .inl hoff⟩
    · rw [if_neg q]
      rcases hc' with ⟨c1, c2, c3⟩ | ⟨c1, c2⟩
      · left
        refine ⟨c1, ?_, c3⟩
        by_cases hxj : x = j
        · subst hxj; exact absurd (by rw [e1, c3]; rfl) q
        · rw [(hsame x hxj).1]; exact c2
      · right
        refine ⟨c1, ?_⟩
        by_cases hxj : x = j
        · subst hxj; exact .inl hoff
        · rw [(hsame x hxj).1]; exact c2
  · have hxj : x ≠ j := fun q => by subst q; rw [hoff] at hox; exact absurd hox (by decide)
    rw [(hsame x hxj).2]
    exact H.2.1 x (by omega) (by rw [← (hsame x hxj).1]; exact hox)
  · unfold updO at hh
    split at hh
    · rename_i q; rw [q]; exact ⟨_, hT⟩
    · exact H.2.2.1 h v hh
  · have h1 : (rAll (rDroT t (rHv t j)) ++ [rHv t j]).Perm (rAll t) := by
      unfold rAll
      rw [hlen]
      exact allH_add (V' := rHv t) hi hoff ho fun x hx hne => ⟨(hsame x hne).1, fun _ => (hsame x hne).2⟩
    have h2 : ((L.take k ++ L.drop (k + 1)) ++ [rHv t j]).Perm L := by
      conv => rhs; rw [eL]
      rw [List.append_assoc]
      exact List.Perm.append_left _ (by
        have := List.perm_append_comm (l₁ := L.drop (k + 1)) (l₂ := [rHv t j])
        exact this)
    exact (List.perm_append_right_iff [rHv t j]).1 (h2.trans (hL.trans h1.symm))
end
end Go.Proofs.YtnbkafnikpbmbaaDoor.K
