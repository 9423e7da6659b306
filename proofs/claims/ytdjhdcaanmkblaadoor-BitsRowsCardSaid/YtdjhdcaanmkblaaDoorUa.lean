/-
  Chunks' headers, as the document's list.
-/
import Derived.Test.YtdjhdcaanmkblaaDoorTa
import Derived.Test.YtdjhdcaanmkblaaDoorJg
namespace Go.Proofs.YtdjhdcaanmkblaaDoor.K
set_option linter.unusedSimpArgs false
set_option linter.unusedVariables false

section
variable {c : Cx} {H : Heap} {A : List Res} {w : World}
end

/-! ## The document's headers -/
abbrev Chk := Int × Int × Int × Int
def cAt (a : Int) (c : Chk) : Bool := c.1 != a
def cWo (h : List Chk) (a : Int) : List Chk := h.filter (cAt a)
def cIs2 (h : List Chk) (a : Int) (i : Nat) : Bool := (gtD h i).1 == a
def cIx (h : List Chk) (a : Int) : Int := fIx (cIs2 h a) h.length
def crE (M : AM) (h : List Chk) (a : Int) : Int := if thr M a 32 then (if cIx h a < 0 then 7 else 0) else 3
def crV (M : AM) (h : List Chk) (a : Int) : Chk := if crE M h a = 0 then gtD h (cIx h a).toNat else (0, 0, 0, 0)
def cwE (M : AM) (a ord nx : Int) : Int := if badC a ord nx then 2 else if thr M a 32 then 0 else 3
def cwH (M : AM) (h : List Chk) (a ord own nx : Int) : List Chk := if cwE M a ord nx = 0 then cWo h a ++ [(a, ord, own, nx)] else h
section
variable {M : AM} {h : List Chk} {a ord own nx : Int}
theorem cr_1 (q : thr M a 32 = false) : (0, 0, 0, 0) = crV M h a ∧ 3 = crE M h a := by
  have e : crE M h a = 3 := by unfold crE; rw [q]; rfl
  unfold crV; rw [e]; exact ⟨rfl, rfl⟩
theorem cr_2 (q : thr M a 32 = true) (q2 : -1 = cIx h a) : (0, 0, 0, 0) = crV M h a ∧ 7 = crE M h a := by
  have e : crE M h a = 7 := by unfold crE; rw [q, ← q2]; rfl
  unfold crV; rw [e]; exact ⟨rfl, rfl⟩
theorem cr_3 {x : Int} (q : thr M a 32 = true) (q2 : x = cIx h a) (h0 : 0 ≤ x) : gtD h x.toNat = crV M h a ∧ 0 = crE M h a := by
  have e : crE M h a = 0 := by unfold crE; rw [q, ← q2, if_pos rfl, if_neg (by omega)]
  unfold crV; rw [e, ← q2]; exact ⟨rfl, rfl⟩
theorem cw_1 (q : badC a ord nx = true) : h = cwH M h a ord own nx ∧ 2 = cwE M a ord nx := by
  have e : cwE M a ord nx = 2 := by unfold cwE; rw [q]; rfl
  unfold cwH; rw [e]; exact ⟨rfl, rfl⟩
theorem cw_2 (q : badC a ord nx = false) (q2 : thr M a 32 = false) : h = cwH M h a ord own nx ∧ 3 = cwE M a ord nx := by
  have e : cwE M a ord nx = 3 := by unfold cwE; rw [q, q2]; rfl
  unfold cwH; rw [e]; exact ⟨rfl, rfl⟩
theorem cw_3 (q : badC a ord nx = false) (q2 : thr M a 32 = true) : cWo h a ++ [(a, ord, own, nx)] = cwH M h a ord own nx ∧ 0 = cwE M a ord nx := by
  have e : cwE M a ord nx = 0 := by unfold cwE; rw [q, q2]; rfl
  unfold cwH; rw [e]; exact ⟨rfl, rfl⟩
theorem cIx_rng (h : List Chk) (a : Int) : -1 ≤ cIx h a ∧ cIx h a < (h.length : Int) := fIx_rng _ _
end
/-- Where an address stands, if it does. -/
theorem cIx_neg {h : List Chk} {a : Int} : cIx h a < 0 ↔ ∀ c, c ∈ h → c.1 ≠ a := by
  constructor
  · intro q c hc e
    obtain ⟨j, hj, rfl⟩ := mem_gtD hc
    have := fIx_neg (p := cIs2 h a) q hj
    unfold cIs2 at this
    exact beq_eq_false_iff_ne.1 this e
  · intro q
    have := fIx_no (p := cIs2 h a) (n := h.length) (fun j hj => by unfold cIs2; exact beq_eq_false_iff_ne.2 (q _ (gtD_mem hj)))
    unfold cIx; omega
theorem cIx_pos {h : List Chk} {a : Int} (q : 0 ≤ cIx h a) : (gtD h (cIx h a).toNat).1 = a ∧ gtD h (cIx h a).toNat ∈ h := by
  have hr := cIx_rng h a
  have hy := fIx_yes (p := cIs2 h a) (n := h.length) q
  unfold cIs2 at hy
  exact ⟨beq_iff_eq.1 hy, gtD_mem (by omega)⟩

/-! ## Headers in memory -/
/-- What is read there. -/
def rdV (m : AM) (a : Int) : Chk := (rdAt m a, rdOrd m a, rdOwn m a, rdNx m a)
structure ChR (M m : AM) (h : List Chk) : Prop where
  cap : m.cap = M.cap
  com : m.com = M.com
  al : ∀ c, c ∈ h → c.1 % 4096 = 0
  unq : ∀ c d, c ∈ h → d ∈ h → c.1 = d.1 → c = d
  rd : ∀ a, rdV m a = crV M h a ∧ rdE m a = crE M h a
theorem rd_bad {m : AM} {a : Int} (ht : thr m a 32 = true) (hb : badR m a = true) : rdV m a = (0, 0, 0, 0) ∧ rdE m a = 7 := by
  obtain ⟨h1, h2⟩ := rdOk_no2 ht hb
  obtain ⟨k1, k2, k3, k4⟩ := rd_no h1
  unfold rdV; rw [← k1, ← k2, ← k3, ← k4]; exact ⟨rfl, h2⟩
theorem rd_out {m : AM} {a : Int} (ht : thr m a 32 = false) : rdV m a = (0, 0, 0, 0) ∧ rdE m a = 3 := by
  obtain ⟨h1, h2⟩ := rdOk_no1 ht
  obtain ⟨k1, k2, k3, k4⟩ := rd_no h1
  unfold rdV; rw [← k1, ← k2, ← k3, ← k4]; exact ⟨rfl, h2⟩
theorem rd_un {m : AM} {a : Int} (ht : thr m a 32 = true) (ha : a % 4096 ≠ 0) : badR m a = true := by
  unfold badR
  rw [show (a % 4096 != 0) = true from bne_iff_ne.2 ha]
  simp
theorem rdV_same {m m' : AM} {a : Int} (ht : thr m a 32 = true) (hc : m'.cap = m.cap) (hm : m'.com = m.com) (hy : ∀ y : Nat, a ≤ (y : Int) → (y : Int) < a + 32 → m'.mem y = m.mem y) : rdV m' a = rdV m a ∧ rdE m' a = rdE m a := by
  obtain ⟨⟨h1, h2⟩, ⟨h3, h4⟩, h5⟩ := rd_same ht hc hm hy
  unfold rdV; rw [h1, h2, h3, h4]; exact ⟨rfl, h5⟩
section
variable {M m : AM} {h : List Chk}
theorem ChR.thr (q : ChR M m h) (a n : Int) : thr m a n = Go.Proofs.YtdjhdcaanmkblaaDoor.K.thr M a n := thr_same q.cap q.com a n
theorem crE_of {M : AM} {h h' : List Chk} {a : Int} (q : cIx h a < 0 ↔ cIx h' a < 0) (q2 : ∀ c, c.1 = a → (c ∈ h ↔ c ∈ h')) (u : ∀ c d, c ∈ h' → d ∈ h' → c.1 = d.1 → c = d) : crV M h a = crV M h' a ∧ crE M h a = crE M h' a := by
  have e : crE M h a = crE M h' a := by
    unfold crE
    by_cases e : cIx h a < 0
    · rw [if_pos e, if_pos (q.1 e)]
    · rw [if_neg e, if_neg (fun x => e (q.2 x))]
  refine ⟨?_, e⟩
  unfold crV
  rw [← e]
  split
  · rename_i e0
    have hn : ¬ cIx h a < 0 := fun x => by
      unfold crE at e0; rw [if_pos x] at e0; split at e0 <;> omega
    have hn' : ¬ cIx h' a < 0 := fun x => hn (q.2 x)
    obtain ⟨p1, p2⟩ := cIx_pos (h := h) (a := a) (by omega)
    obtain ⟨p3, p4⟩ := cIx_pos (h := h') (a := a) (by omega)
    exact u _ _ ((q2 _ p1).1 p2) p4 (p1.trans p3.symm)
  · rfl
theorem cWo_mem {h : List Chk} {a : Int} {c : Chk} : c ∈ cWo h a ↔ c ∈ h ∧ c.1 ≠ a := by
  unfold cWo cAt; rw [List.mem_filter]; simp
/-- A header is written. -/
theorem ChR.write (q : ChR M m h) {a ord own nx : Int} (ho : 0 ≤ own ∧ own ≤ 18446744073709551615 ∧ nx ≤ 9223372036854775807) : wrcE m a ord own nx = cwE M a ord nx ∧ ChR M (wrcM m a ord own nx) (cwH M h a ord own nx) := by
  have ht := q.thr a 32
  cases hb : badC a ord nx with
  | true =>
    obtain ⟨e1, e2⟩ := cw_1 (M := M) (h := h) (own := own) hb
    have w1 : wrcE m a ord own nx = 2 := by unfold wrcE; rw [hb]; rfl
    rw [← e1, ← e2, w1, wrc_bad (by rw [w1]; decide)]
    exact ⟨rfl, q⟩
  | false =>
    cases hq : Go.Proofs.YtdjhdcaanmkblaaDoor.K.thr M a 32 with
    | false =>
      obtain ⟨e1, e2⟩ := cw_2 (M := M) (h := h) (own := own) hb hq
      have w1 : wrcE m a ord own nx = 3 := by unfold wrcE; rw [hb, ht, hq]; rfl
      rw [← e1, ← e2, w1, wrc_bad (by rw [w1]; decide)]
      exact ⟨rfl, q⟩
    | true =>
      obtain ⟨e1, e2⟩ := cw_3 (M := M) (h := h) (own := own) hb hq
      obtain ⟨b1, b2, b3, b4, b5, b6⟩ := badC_in hb
      have htm : Go.Proofs.YtdjhdcaanmkblaaDoor.K.thr m a 32 = true := ht.trans hq
      have w1 : wrcE m a ord own nx = 0 := wr_ok htm ⟨b1, b2⟩ ⟨b5, b6⟩ b3
      rw [← e1, ← e2, w1]
      refine ⟨rfl, ?_⟩
      have hw := wrc_read w1 ho
      have hcom := wrcM_com m a ord own nx
      have hmem : ∀ c, c ∈ cWo h a ++ [(a, ord, own, nx)] ↔ (c ∈ h ∧ c.1 ≠ a) ∨ c = (a, ord, own, nx) := fun c => by rw [List.mem_append, cWo_mem, List.mem_singleton]
      have hu : ∀ c d, c ∈ cWo h a ++ [(a, ord, own, nx)] → d ∈ cWo h a ++ [(a, ord, own, nx)] → c.1 = d.1 → c = d := fun c d hc hd e => by
        rcases (hmem c).1 hc with ⟨c1, c2⟩ | rfl <;> rcases (hmem d).1 hd with ⟨d1, d2⟩ | rfl
        · exact q.unq c d c1 d1 e
        · exact absurd e c2
        · exact absurd e.symm d2
        · rfl
      refine ⟨hcom.1.trans q.cap, hcom.2.trans q.com, fun c hc => ?_, hu, fun x => ?_⟩
      · rcases (hmem c).1 hc with ⟨c1, c2⟩ | rfl
        · exact q.al c c1
        · exact b2
      · by_cases ex : x = a
        · subst ex
          have hn : ¬ cIx (cWo h x ++ [(x, ord, own, nx)]) x < 0 := fun e => (cIx_neg.1 e) (x, ord, own, nx) ((hmem _).2 (.inr rfl)) rfl
          obtain ⟨p1, p2⟩ := cIx_pos (h := cWo h x ++ [(x, ord, own, nx)]) (a := x) (by omega)
          have p3 := hu _ _ p2 ((hmem _).2 (.inr rfl)) p1
          obtain ⟨k1, k2⟩ := cr_3 (h := cWo h x ++ [(x, ord, own, nx)]) hq rfl (by omega : (0 : Int) ≤ cIx (cWo h x ++ [(x, ord, own, nx)]) x)
          rw [← k1, ← k2, p3]
          obtain ⟨⟨⟨r1, r2⟩, r3, r4⟩, r5⟩ := hw
          unfold rdV
          rw [r1, r2, r3, r4, r5]; exact ⟨rfl, rfl⟩
        · have hcr := crE_of (M := M) (h := h) (h' := cWo h a ++ [(a, ord, own, nx)]) (a := x) ⟨fun e => cIx_neg.2 fun c hc => by
              rcases (hmem c).1 hc with ⟨c1, c2⟩ | rfl
              · exact cIx_neg.1 e c c1
              · exact fun z => ex z.symm, fun e => cIx_neg.2 fun c hc z => cIx_neg.1 e c ((hmem c).2 (.inl ⟨hc, fun y => ex (z.symm.trans y)⟩)) z⟩
            (fun c hc => ⟨fun y => (hmem c).2 (.inl ⟨y, fun z => ex (hc.symm.trans z)⟩), fun y => by
              rcases (hmem c).1 y with ⟨c1, c2⟩ | rfl
              · exact c1
              · exact absurd hc.symm ex⟩) hu
          rw [← hcr.1, ← hcr.2]
          cases htx : Go.Proofs.YtdjhdcaanmkblaaDoor.K.thr m x 32 with
          | false =>
            obtain ⟨o1, o2⟩ := rd_out (m := wrcM m a ord own nx) (a := x) ((thr_same hcom.1 hcom.2 _ _).trans htx)
            obtain ⟨o3, o4⟩ := rd_out (m := m) htx
            rw [o1, o2, ← o3, ← o4]; exact q.rd x
          | true =>
            by_cases hax : x % 4096 = 0
            · obtain ⟨s1, s2⟩ := rdV_same (m := m) (m' := wrcM m a ord own nx) (a := x) htx hcom.1 hcom.2 fun y y1 y2 => wrcM_far (by omega)
              rw [s1, s2]; exact q.rd x
            · have htx2 : Go.Proofs.YtdjhdcaanmkblaaDoor.K.thr (wrcM m a ord own nx) x 32 = true := (thr_same hcom.1 hcom.2 _ _).trans htx
              obtain ⟨o1, o2⟩ := rd_bad htx2 (rd_un htx2 hax)
              obtain ⟨o3, o4⟩ := rd_bad htx (rd_un htx hax)
              rw [o1, o2, ← o3, ← o4]; exact q.rd x
theorem ChR.zero (hm : ∀ x, M.mem x = 0) : ChR M M [] := by
  refine ⟨rfl, rfl, (fun c hc => nomatch hc), (fun c _ hc => nomatch hc), fun a => ?_⟩
  have hn : -1 = cIx [] a := rfl
  cases ht : Go.Proofs.YtdjhdcaanmkblaaDoor.K.thr M a 32 with
  | false =>
    have e2 := cr_1 (h := []) ht
    rw [← e2.1, ← e2.2]; exact rd_out ht
  | true =>
    have e2 := cr_2 (h := []) ht hn
    rw [← e2.1, ← e2.2]
    refine rd_bad ht ?_
    have h0 : rdN M a 0 = 0 := (rec_c ht).zero hm (i := 0) (by decide)
    unfold badR; rw [h0]; rfl
end
end Go.Proofs.YtdjhdcaanmkblaaDoor.K
