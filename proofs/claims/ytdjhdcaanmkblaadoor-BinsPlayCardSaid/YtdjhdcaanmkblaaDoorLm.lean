/-
  Lists of lists: the lists in them as something that a walk holds; what the document says of lists.
-/
import Derived.Test.YtdjhdcaanmkblaaDoorSy
import Derived.Test.YtdjhdcaanmkblaaDoorGf
import Derived.Test.YtdjhdcaanmkblaaDoorNd
namespace Go.Proofs.YtdjhdcaanmkblaaDoor.K
set_option linter.unusedSimpArgs false
set_option linter.unusedVariables false

/-- A list in a list lies where it is said to lie. -/
def rgH (w : World) (h : HdI) : Prop := h.2.2.length = 0 ∨ ∃ g o, h.1 = some ⟨g, o, none⟩ ∧ HE.holds w g (.fn o (o + h.2.2.length) (ints h.2.2 o))
theorem rgH.keep {w w' : World} {h : HdI} {D' : Nat → Prop} (q : rgH w h) (hf : Fr w w' no D') : rgH w' h := by
  rcases q with q | ⟨g, o, h1, h2⟩
  · exact .inl q
  · exact .inr ⟨g, o, h1, h2.congr (hf.block _ h2.lt (fun q => q))⟩
theorem rgH.open {w : World} {h : HdI} (q : rgH w h) {b lo hi : Nat} {f : Nat → Value} (hk : HE.holds w b (.fn lo hi f)) : ∃ g o, (h.2.2.length = 0 ∨ h.1 = some ⟨g, o, none⟩) ∧ HE.holds w g (.fn o (o + h.2.2.length) (ints h.2.2 o)) := by
  rcases q with q | ⟨g, o, h1, h2⟩
  · exact ⟨b, 0, .inl q, HE.fn_none hk q⟩
  · exact ⟨g, o, .inr h1, h2⟩
section
variable {P : Program} {c : Cx} {n : Nat} {E : Env} {H : Heap} {A : List Res} {a : Act} {w : World}
end

theorem ints_app1 (L : List Int) (a : Int) : ∀ x, x < (L.length + 1) * 1 → appF (ints L 0) (L.length * 1) [vi a] x = ints (L ++ [a]) 0 x := by
  intro x hx
  unfold appF ints
  simp only [Nat.mul_one, Nat.sub_zero]
  by_cases h : x < L.length
  · rw [if_pos h, List.getD_eq_getElem?_getD, List.getD_eq_getElem?_getD, List.getElem?_append_left h]
  · rw [if_neg h]
    rw [List.getD_eq_getElem?_getD, List.getD_eq_getElem?_getD, List.getElem?_append_right (by omega)]
    obtain q : x - L.length = 0 := by omega
    rw [q]; rfl

/-! ## What the document says of lists -/
def Qf (l : List HdI) (k : Nat) : List Int := (gtD l k).2.2
theorem Qf_out {l : List HdI} {k : Nat} (h : l.length ≤ k) : Qf l k = [] := by
  unfold Qf gtD; rw [List.getD_eq_getElem?_getD, List.getElem?_eq_none h]; rfl
theorem Qf_set (l : List HdI) (k : Nat) (h : HdI) (hk : k < l.length) : Qf (l.set k h) = updQ (Qf l) k h.2.2 := by
  funext i
  unfold updQ Qf gtD
  rw [List.getD_eq_getElem?_getD, List.getD_eq_getElem?_getD]
  by_cases e : i = k
  · subst e; rw [if_pos rfl, List.getElem?_set_self hk]; rfl
  · rw [if_neg e, List.getElem?_set_ne (fun q => e q.symm)]
def rchk (l : List HdI) (k : Int) : Int := if k < 0 ∨ (l.length : Int) ≤ k then 3 else 0
theorem rchk_in {l : List HdI} {k : Int} (h : rchk l k = 0) : 0 ≤ k ∧ k < (l.length : Int) := by unfold rchk at h; split at h <;> omega
theorem rchk_out {l : List HdI} {k : Int} (h : rchk l k ≠ 0) : rchk l k = 3 ∧ (k < 0 ∨ (l.length : Int) ≤ k) := by unfold rchk at h ⊢; split at h <;> simp_all
def hasM (L : List Int) (a : Int) : Bool := decide (a ∈ L)
theorem hasM_yes {L : List Int} {a x : Int} (h0 : 0 ≤ x) (hx : x < (L.length : Int)) (h : L.getD x.toNat 0 = a) : true = hasM L a := by
  symm; unfold hasM; rw [decide_eq_true_iff, ← h]; exact getD_mem0 (by omega)
theorem hasM_no {L : List Int} {a x : Int} (hx : (L.length : Int) ≤ x) (h : ∀ j : Nat, (j : Int) < x → L.getD j 0 ≠ a) : false = hasM L a := by
  symm; unfold hasM; rw [decide_eq_false_iff_not]
  intro hm
  obtain ⟨j, hj, e⟩ := List.mem_iff_getElem.1 hm
  exact h j (by omega) (by rw [List.getD_eq_getElem?_getD, List.getElem?_eq_getElem hj]; exact e)
theorem hasM_step {L : List Int} {a x : Int} (h : ∀ j : Nat, (j : Int) < x → L.getD j 0 ≠ a) (h0 : 0 ≤ x) (hn : L.getD x.toNat 0 ≠ a) : ∀ j : Nat, (j : Int) < x + 1 → L.getD j 0 ≠ a := fun j hj => by
  rcases (by omega : (j : Int) < x ∨ j = x.toNat) with q | rfl
  · exact h j q
  · exact hn
def rHas (l : List HdI) (k a : Int) : Bool := if rchk l k = 0 then hasM (Qf l k.toNat) a else false
theorem rHas_in {l : List HdI} {k a : Int} (h : rchk l k = 0) : rHas l k a = hasM (Qf l k.toNat) a := by unfold rHas; rw [if_pos h]
def rAddE (l : List HdI) (k a : Int) (th : Bool) : Int := if rchk l k ≠ 0 then 3 else if a < 1 then 2 else if th = false then 3 else if hasM (Qf l k.toNat) a = true then 9 else 0
def rAddN (l : List HdI) (k a : Int) (th : Bool) : List Int := if rAddE l k a th = 0 then insL (Qf l k.toNat) a else []
def rRemE (l : List HdI) (k a : Int) : Int := if rchk l k ≠ 0 then 3 else if hasM (Qf l k.toNat) a = true then 0 else 8
def rRemN (l : List HdI) (k a : Int) : List Int := if rRemE l k a = 0 then (Qf l k.toNat).filter (fun x => decide (x ≠ a)) else []
def rSetL (l : List HdI) (k e : Int) (h : HdI) : List HdI := if e = 0 then l.set k.toNat h else l
theorem rSetL_no {l : List HdI} {k e : Int} {h : HdI} (he : e ≠ 0) : l = rSetL l k e h := by unfold rSetL; rw [if_neg he]
theorem rSetL_yes {l : List HdI} {k e : Int} {h : HdI} (he : e = 0) : l.set k.toNat h = rSetL l k e h := by unfold rSetL; rw [if_pos he]
/-- Of members that rise: what is left where one goes. -/
theorem fil_rem : ∀ {L : List Int} {a : Int}, L.Pairwise (· < ·) → a ∈ L → L.filter (fun y => decide (y ≠ a)) = remL L a
  | [], a, _, h => by cases h
  | y :: L, a, hp, h => by
    rw [List.pairwise_cons] at hp
    by_cases e : y = a
    · subst e
      have hc : cntL (y :: L) y = 0 := by unfold cntL; rw [List.takeWhile_cons]; simp
      unfold remL
      rw [hc]
      simp only [List.filter_cons, ne_eq, not_true_eq_false, decide_false, if_false, List.take_zero, List.nil_append, Nat.zero_add, List.drop_succ_cons, List.drop_zero, Bool.false_eq_true]
      exact List.filter_eq_self.2 fun x hx => by have := hp.1 x hx; simp; omega
    · have hm : a ∈ L := (List.mem_cons.1 h).resolve_left (fun q => e q.symm)
      have hlt := hp.1 a hm
      have hc : cntL (y :: L) a = cntL L a + 1 := by unfold cntL; rw [List.takeWhile_cons]; simp [hlt]
      have ih := fil_rem hp.2 hm
      unfold remL at ih ⊢
      rw [hc, List.filter_cons, if_pos (by simpa using e), ih]
      simp
theorem hasM_has {L : List Int} {a : Int} (hr : L.Pairwise (· < ·)) (hp : ∀ a, a ∈ L → 0 < a ∧ a ≤ 4611686018427387904) : hasL L a = hasM L a := by
  unfold hasM
  cases hb : hasL L a with
  | true => rw [eq_comm, decide_eq_true_iff]; exact (hasL_iff hr hp).1 hb
  | false => rw [eq_comm, decide_eq_false_iff_not]; exact fun q => by rw [(hasL_iff hr hp).2 q] at hb; cases hb

/-! ## The play -/
structure LsT (m : AM) (z : Int) (l : List HdI) (b : Nat) : Prop where
  lq : LQ m 64 z l.length (Qf l)
  hz : z = 8 * (l.length : Int) + 3
  n12 : l.length ≤ 12
  cap : m.cap = lBase.cap
  com : m.com = lBase.com
  at16 : ∀ k a, a ∈ Qf l k → ∃ t : Nat, a = 4096 + 16 * (t : Int)
  len : ∀ k, (Qf l k).length ≤ b
def qAddE (m : AM) (z : Int) (l : List HdI) (k a : Int) : Int := if lchE z k = 0 then lsaE m (Qf l k.toNat) a else lchE z k
def qAddM (m : AM) (z : Int) (l : List HdI) (k a : Int) : AM := if lchE z k = 0 then lsaM m 64 z k (Qf l k.toNat) a else m
def qRemE (z : Int) (l : List HdI) (k a : Int) : Int := if lchE z k = 0 then lsrE (Qf l k.toNat) a else lchE z k
def qRemM (m : AM) (z : Int) (l : List HdI) (k a : Int) : AM := if lchE z k = 0 then lsrM m 64 z k (Qf l k.toNat) a else m
def qHas (z : Int) (l : List HdI) (k a : Int) : Bool := if lchE z k = 0 then hasL (Qf l k.toNat) a else false
section
variable {m : AM} {z : Int} {l : List HdI} {b : Nat}
theorem LsT.chk (h : LsT m z l b) (k : Int) : lchE z k = rchk l k := by
  have := h.hz; unfold lchE rchk
  by_cases e : k < 0 ∨ z / 8 ≤ k
  · rw [if_pos e, if_pos (by omega)]
  · rw [if_neg e, if_neg (by omega)]
theorem LsT.thr (h : LsT m z l b) {a n : Int} (q : 0 ≤ a ∧ 0 ≤ n ∧ a + n ≤ 8192) : thr m a n = true := (thr_same h.cap h.com a n).trans (lBase_thr q)
theorem LsT.ch (h : LsT m z l b) {k : Int} (hk : 0 ≤ k ∧ k < (l.length : Int)) : ChainL m 64 z k (Qf l k.toNat) := by
  have := h.lq.chain k.toNat (by omega); rwa [Int.toNat_of_nonneg hk.1] at this
theorem LsT.ps (h : LsT m z l b) (k : Int) : ∀ a, a ∈ Qf l k.toNat → 0 < a ∧ a ≤ 4611686018427387904 := fun a ha => by
  rcases Nat.lt_or_ge k.toNat l.length with q | q
  · exact h.lq.ps q a ha
  · rw [Qf_out q] at ha; cases ha
theorem LsT.rise (h : LsT m z l b) (k : Int) : (Qf l k.toNat).Pairwise (· < ·) := by
  rcases Nat.lt_or_ge k.toNat l.length with q | q
  · exact h.lq.rise _ q
  · rw [Qf_out q]; exact List.Pairwise.nil
theorem LsT.has (h : LsT m z l b) (k a : Int) : qHas z l k a = rHas l k a := by
  unfold qHas rHas; rw [h.chk, hasM_has (h.rise k) (h.ps k)]
theorem lThr_no (t : Nat) (h : ¬ (4096 + 16 * (t : Int) < 8192)) (ht : t < 512) : Go.Proofs.YtdjhdcaanmkblaaDoor.K.thr lBase (4096 + 16 * (t : Int)) 16 = false := by
  have e1 : pg0 (4096 + 16 * (t : Int)) = 2 := by unfold pg0; omega
  have e2 : pgN (4096 + 16 * (t : Int)) 16 = 1 := by unfold pgN; omega
  have e : cntR lBase.com 2 1 = 0 := by decide +kernel
  unfold Go.Proofs.YtdjhdcaanmkblaaDoor.K.thr
  rw [e1, e2, e]
  simp
theorem LsT.more (h : LsT m z l b) {b' : Nat} (hb : b ≤ b') : LsT m z l b' := ⟨h.lq, h.hz, h.n12, h.cap, h.com, h.at16, fun k => Nat.le_trans (h.len k) hb⟩
theorem LsT.zero {n : Nat} (hn : n ≤ 12) : LsT lBase (8 * (n : Int) + 3) (List.replicate n ((none, 0, []) : HdI)) 0 := by
  have hQ : Qf (List.replicate n ((none, 0, []) : HdI)) = fun _ => [] := by
    funext k; unfold Qf gtD; rw [List.getD_eq_getElem?_getD]
    rcases Nat.lt_or_ge k n with q | q
    · rw [List.getElem?_replicate, if_pos q]; rfl
    · rw [List.getElem?_eq_none (by simpa using q)]; rfl
  refine ⟨?_, by rw [List.length_replicate], by rw [List.length_replicate]; exact hn, rfl, rfl, fun k a ha => ?_, fun k => ?_⟩
  · rw [hQ, List.length_replicate]; exact lq_zero (by omega)
  · rw [hQ] at ha; cases ha
  · rw [hQ]; exact Nat.le_refl _
/-- A member goes. -/
theorem LsT.rem (h : LsT m z l b) (k a : Int) (ao : Option Addr) (cp : Nat) : qRemE z l k a = rRemE l k a ∧ LsT (qRemM m z l k a) z (rSetL l k (rRemE l k a) (ao, cp, rRemN l k a)) b := by
  unfold qRemE qRemM rRemN rRemE
  rw [h.chk]
  by_cases hk : rchk l k = 0
  · have hki := rchk_in hk
    simp only [hk, if_true, ne_eq, not_true_eq_false, if_false]
    have hd := h.lq.del (k := k.toNat) (by omega) a
    rw [Int.toNat_of_nonneg hki.1] at hd
    have hc := lsrM_com m 64 z k (Qf l k.toNat) a
    have hh : hasM (Qf l k.toNat) a = (lsrE (Qf l k.toNat) a == 0) := by rw [← hasM_has (h.rise k) (h.ps k), lsr_has]
    by_cases e : lsrE (Qf l k.toNat) a = 0
    · have hm : hasM (Qf l k.toNat) a = true := by rw [hh, e]; rfl
      rw [if_pos hm, e]
      refine ⟨rfl, ?_⟩
      rw [← rSetL_yes rfl, if_pos rfl]
      have hf := fil_rem (h.rise k) (of_decide_eq_true hm)
      have hQ := Qf_set l k.toNat (ao, cp, (Qf l k.toNat).filter fun x => decide (x ≠ a)) (by omega)
      have hdl : delL (Qf l k.toNat) a = remL (Qf l k.toNat) a := by unfold delL; rw [if_pos e]
      refine ⟨?_, by rw [List.length_set]; exact h.hz, by rw [List.length_set]; exact h.n12, hc.1.trans h.cap, hc.2.trans h.com, fun k' x hx => ?_, fun k' => ?_⟩
      · rw [hQ, List.length_set]
        rw [hdl] at hd
        simp only [hf]
        exact hd
      · rw [hQ] at hx
        unfold updQ at hx
        split at hx
        · exact h.at16 _ x (List.mem_filter.1 hx).1
        · exact h.at16 _ x hx
      · rw [hQ]; unfold updQ; split
        · exact Nat.le_trans (List.length_filter_le _ _) (h.len _)
        · exact h.len _
    · have hm : hasM (Qf l k.toNat) a = false := by rw [hh]; simpa using e
      have h8 : lsrE (Qf l k.toNat) a = 8 := by unfold lsrE at e ⊢; split at e <;> simp_all
      have hM : lsrM m 64 z k (Qf l k.toNat) a = m := by unfold lsrM; rw [if_neg e]
      rw [hm, h8, hM]
      refine ⟨rfl, ?_⟩
      rw [if_neg (by decide), ← rSetL_no (by decide)]
      exact h
  · obtain ⟨e, _⟩ := rchk_out hk
    rw [if_neg hk, if_neg hk, if_pos hk, ← rSetL_no (by decide)]
    exact ⟨e, h⟩
/-- A member comes, that is in no other list. -/
theorem LsT.add (h : LsT m z l b) (k : Int) {a : Int} {t : Nat} (ha : a = 4096 + 16 * (t : Int)) (ht : t < 512) (hel : ∀ k' : Nat, k' < l.length → (k' : Int) ≠ k → rHas l (k' : Int) a = false) (ao : Option Addr) (cp : Nat) :
    qAddE m z l k a = rAddE l k a (decide (a < 8192)) ∧ LsT (qAddM m z l k a) z (rSetL l k (rAddE l k a (decide (a < 8192))) (ao, cp, rAddN l k a (decide (a < 8192)))) (b + 1) := by
  unfold qAddE qAddM rAddN rAddE
  rw [h.chk]
  by_cases hk : rchk l k = 0
  · have hki := rchk_in hk
    simp only [hk, if_true, ne_eq, not_true_eq_false, if_false]
    rw [if_neg (show ¬ a < 1 by omega)]
    by_cases hth : a < 8192
    · rw [decide_eq_true hth, if_neg (show ¬ (true = false) by decide)]
      have hz := h.hz; have h12 := h.n12
      obtain ⟨e1, e2⟩ := h.lq.put (k := k.toNat) (at_ := a) (by omega) ⟨by omega, h.thr (by omega), by omega, by omega⟩ (fun k' hk' x hx => by
        by_cases e : k' = k.toNat
        · by_cases e2 : x = a
          · exact .inl ⟨e2, e⟩
          · obtain ⟨s, hs⟩ := h.at16 _ x hx; right; omega
        · right
          obtain ⟨s, hs⟩ := h.at16 _ x hx
          have hne : x ≠ a := fun q => by
            subst q
            have h1 := hel k' hk' (by omega)
            rw [rHas_in (show rchk l (k' : Int) = 0 by unfold rchk; rw [if_neg (by omega)])] at h1
            have h2 : hasM (Qf l (k' : Int).toNat) x = true := by unfold hasM; rw [decide_eq_true_iff]; exact hx
            rw [h2] at h1; cases h1
          omega)
      rw [Int.toNat_of_nonneg hki.1] at e2
      have hc := lj1_com2 m 64 z k (Qf l k.toNat) a
      have hms : hasM (Qf l k.toNat) a = true ↔ (Qf l k.toNat).getD (cntL (Qf l k.toNat) a) 0 = a := by
        rw [← hasM_has (h.rise k) (h.ps k)]; unfold hasL; simp; omega
      rw [e1]
      by_cases hm : (Qf l k.toNat).getD (cntL (Qf l k.toNat) a) 0 = a
      · rw [if_pos hm, if_pos (hms.2 hm)]
        refine ⟨rfl, ?_⟩
        rw [if_neg (by decide), ← rSetL_no (by decide)]
        have hM : lsaM m 64 z k (Qf l k.toNat) a = m := by
          have : lsaE m (Qf l k.toNat) a = 9 := by rw [e1, if_pos hm]
          unfold lsaM; rw [if_neg (by rw [this]; decide)]
        rw [hM]
        exact h.more (by omega)
      · rw [if_neg hm, if_neg (fun q => hm (hms.1 q))]
        refine ⟨rfl, ?_⟩
        rw [if_pos rfl, ← rSetL_yes rfl]
        have hQ := Qf_set l k.toNat (ao, cp, insL (Qf l k.toNat) a) (by omega)
        have hal : addL (Qf l k.toNat) a = insL (Qf l k.toNat) a := by unfold addL; rw [if_neg hm]
        refine ⟨?_, by rw [List.length_set]; exact h.hz, by rw [List.length_set]; exact h.n12, hc.1.trans h.cap, hc.2.trans h.com, fun k' x hx => ?_, fun k' => ?_⟩
        · rw [hQ, List.length_set]; rw [hal] at e2; exact e2
        · rw [hQ] at hx
          unfold updQ at hx
          split at hx
          · rcases insL_mem hx with q | q
            · exact ⟨t, q.trans ha⟩
            · exact h.at16 _ x q
          · exact h.at16 _ x hx
        · rw [hQ]; unfold updQ; split
          · rw [insL_len]; exact Nat.succ_le_succ (h.len _)
          · exact Nat.le_trans (h.len _) (Nat.le_succ _)
    · rw [decide_eq_false hth, if_pos rfl]
      have h3 : chkE m a 16 = 3 := by
        have : Go.Proofs.YtdjhdcaanmkblaaDoor.K.thr m a 16 = false := by
          rw [thr_same h.cap h.com a 16, ha]
          exact lThr_no t (by rw [← ha]; exact hth) ht
        exact chk_three this
      have hE : lsaE m (Qf l k.toNat) a = 3 := by unfold lsaE; rw [if_neg (by omega), if_pos (by rw [h3]; decide), h3]
      have hM : lsaM m 64 z k (Qf l k.toNat) a = m := by unfold lsaM; rw [if_neg (by rw [hE]; decide)]
      rw [hE, hM, if_neg (by decide), ← rSetL_no (by decide)]
      exact ⟨rfl, h.more (by omega)⟩
  · obtain ⟨e, _⟩ := rchk_out hk
    rw [if_neg hk, if_neg hk, if_pos hk, ← rSetL_no (by decide)]
    exact ⟨e, h.more (by omega)⟩
end
section
variable {m : AM} {z : Int} {l : List HdI} {b : Nat}
theorem LsT.hB (h : LsT m z l b) (hb : b ≤ 4294967290) : ∀ k, (gtD l k).2.2.length ≤ 4294967290 := fun k => Nat.le_trans (h.len k) hb
theorem LsT.hki (h : LsT m z l b) {k : Int} (hc : lchE z k = 0) : (0 ≤ k ∧ k < (l.length : Int)) ∧ (0 ≤ k ∧ 8 * k + 8 ≤ z) := by
  have h1 := rchk_in ((h.chk k).symm.trans hc)
  have h2 := h.hz
  exact ⟨h1, by omega⟩
end
end Go.Proofs.YtdjhdcaanmkblaaDoor.K
