/-
  Handles, as a list of slots; what the document answers.
-/
import Derived.Test.YtdjhdcaanmkblaaDoorM5
import Derived.Test.YtdjhdcaanmkblaaDoorNa
namespace Go.Proofs.YtdjhdcaanmkblaaDoor.K
set_option linter.unusedSimpArgs false
set_option linter.unusedVariables false

/-! ## First places, lists of what is so -/
def fIx (p : Nat → Bool) (n : Nat) : Int := match fstN p n with | some i => (i : Int) | none => -1
theorem fIx_none {p : Nat → Bool} {n : Nat} {x : Int} (h : NoUp p x) (hx : (n : Int) ≤ x) : -1 = fIx p n := by
  unfold fIx; rw [fstN_none h hx]
theorem fIx_rng (p : Nat → Bool) (n : Nat) : -1 ≤ fIx p n ∧ fIx p n < (n : Int) := by
  unfold fIx
  cases h : fstN p n with
  | none => show -1 ≤ (-1 : Int) ∧ (-1 : Int) < _; omega
  | some i =>
    unfold fstN at h
    rw [List.find?_range_eq_some] at h
    have := List.mem_range.1 h.2.1
    show -1 ≤ (i : Int) ∧ (i : Int) < _; omega
theorem fIx_yes {p : Nat → Bool} {n : Nat} (h : 0 ≤ fIx p n) : p (fIx p n).toNat = true := by
  unfold fIx at *
  cases hq : fstN p n with
  | none => rw [hq] at h; exact absurd h (by decide)
  | some i =>
    unfold fstN at hq
    rw [List.find?_range_eq_some] at hq
    show p ((i : Int)).toNat = true
    rw [Int.toNat_natCast]; exact hq.1
theorem fIx_cg {p q : Nat → Bool} {n : Nat} (h : ∀ i, i < n → p i = q i) : fIx p n = fIx q n := by
  have e : fstN p n = fstN q n := by
    cases h1 : fstN q n with
    | none => unfold fstN at *; rw [List.find?_range_eq_none] at *; exact fun i hi => by rw [h i hi]; exact h1 i hi
    | some i =>
      unfold fstN at *; rw [List.find?_range_eq_some] at *
      have hi := List.mem_range.1 h1.2.1
      exact ⟨by rw [h i hi]; exact h1.1, h1.2.1, fun j hj => by rw [h j (by omega)]; exact h1.2.2 j hj⟩
  unfold fIx; rw [e]
/-- The only one is the first one. -/
theorem fIx_only {p : Nat → Bool} {n i : Nat} (hi : i < n) (hp : p i = true) (ho : ∀ j, j < n → p j = true → j = i) : fIx p n = (i : Int) := by
  have h1 := fIx_rng p n
  by_cases h0 : 0 ≤ fIx p n
  · have h2 := fIx_yes h0
    have := ho _ (by omega) h2
    omega
  · exfalso
    unfold fIx at h0
    cases hq : fstN p n with
    | none => unfold fstN at hq; rw [List.find?_range_eq_none] at hq; have := hq i hi; rw [hp] at this; exact absurd this (by simp)
    | some j => rw [hq] at h0; exact h0 (by show 0 ≤ (j : Int); omega)
theorem fIx_no {p : Nat → Bool} {n : Nat} (h : ∀ j, j < n → p j = false) : fIx p n = -1 :=
  (fIx_none (p := p) (n := n) (x := (n : Int)) (fun k hk => h k (by omega)) (Int.le_refl _)).symm
def allH (p : Nat → Bool) (V : Nat → Int) (n : Nat) : List Int := ((List.range n).filter p).map V
theorem allH_cg {p q : Nat → Bool} {V W : Nat → Int} {n : Nat} (h : ∀ i, i < n → p i = q i) (h2 : ∀ i, i < n → q i = true → V i = W i) : allH p V n = allH q W n := by
  unfold allH
  rw [List.filter_congr fun i hi => h i (List.mem_range.1 hi)]
  apply List.map_congr_left
  intro i hi
  have := List.mem_filter.1 hi
  exact h2 i (List.mem_range.1 this.1) this.2
/-! ## The document's table -/
abbrev Sl := Int × Int
def OkT (t : List Sl) : Prop := t.length ≤ 256 ∧ ∀ i, i < t.length → (0 ≤ (gtD t i).1 ∧ (gtD t i).1 ≤ 9223372036854775807) ∧ 0 ≤ (gtD t i).2 ∧ (gtD t i).2 ≤ 72057594037927935
def rFree (t : List Sl) (i : Nat) : Bool := (gtD t i).1 == 0 && decide ((gtD t i).2 < 72057594037927935)
def rNm (t : List Sl) (h : Int) (i : Nat) : Bool := decide (0 < (gtD t i).1) && (h == 256 * (gtD t i).2 + (i : Int))
def rHv (t : List Sl) (i : Nat) : Int := 256 * (gtD t i).2 + (i : Int)
def rOn (t : List Sl) (i : Nat) : Bool := decide (0 < (gtD t i).1)
def rAll (t : List Sl) : List Int := allH (rOn t) (rHv t) t.length
def rFind (t : List Sl) (h : Int) : Int := fIx (rNm t h) t.length
def rGetA (t : List Sl) (h : Int) : Int := if rFind t h < 0 then 0 else (gtD t (rFind t h).toNat).1
def rGetE (t : List Sl) (h : Int) : Int := if rFind t h < 0 then 6 else 0
def rSet (t : List Sl) (i a g : Int) : List Sl := if i < 0 then t else t.set i.toNat (a, g)
def rNewI (t : List Sl) : Int := fIx (rFree t) t.length
def rNewT (t : List Sl) (a : Int) : List Sl := if a < 1 then t else rSet t (rNewI t) a ((gtD t (rNewI t).toNat).2 + 1)
def rNewV (t : List Sl) (a : Int) : Int := if a < 1 then 0 else if rNewI t < 0 then 0 else 256 * ((gtD t (rNewI t).toNat).2 + 1) + rNewI t
def rNewE (t : List Sl) (a : Int) : Int := if a < 1 then 2 else if rNewI t < 0 then 10 else 0
theorem rSet_len (t : List Sl) (i a g : Int) : (rSet t i a g).length = t.length := by unfold rSet; split <;> simp
theorem rSet_at {t : List Sl} {i a g : Int} (h0 : 0 ≤ i) (h1 : i < (t.length : Int)) (j : Nat) : gtD (rSet t i a g) j = if (j : Int) = i then (a, g) else gtD t j := by
  unfold rSet
  rw [if_neg (by omega), gtD_set _ _ _ _ (by omega)]
  by_cases e : (j : Int) = i
  · rw [if_pos e, if_pos (by omega)]
  · rw [if_neg e, if_neg (by omega)]
theorem OkT.set {t : List Sl} (h : OkT t) {i a g : Int} (ha : 0 ≤ a ∧ a ≤ 9223372036854775807) (hg : i < 0 ∨ (0 ≤ g ∧ g ≤ 72057594037927935)) (hi : i < (t.length : Int)) : OkT (rSet t i a g) := by
  refine ⟨by rw [rSet_len]; exact h.1, fun j hj => ?_⟩
  rw [rSet_len] at hj
  rcases Int.lt_or_le i 0 with h0 | h0
  · unfold rSet; rw [if_pos h0]; exact h.2 j hj
  · rw [rSet_at h0 hi]
    split
    · exact ⟨ha, hg.resolve_left (by omega)⟩
    · exact h.2 j hj
theorem rNewI_rng (t : List Sl) : -1 ≤ rNewI t ∧ rNewI t < (t.length : Int) := fIx_rng _ _
theorem rNewI_free {t : List Sl} (h0 : 0 ≤ rNewI t) : (gtD t (rNewI t).toNat).1 = 0 ∧ (gtD t (rNewI t).toNat).2 < 72057594037927935 := by
  have h := fIx_yes (p := rFree t) (n := t.length) h0
  unfold rFree at h
  simp only [Bool.and_eq_true, beq_iff_eq, decide_eq_true_eq] at h
  exact h
theorem OkT.new {t : List Sl} (h : OkT t) {a : Int} (ha : a ≤ 9223372036854775807) : OkT (rNewT t a) := by
  unfold rNewT
  split
  · exact h
  · have hf := rNewI_rng t
    refine h.set (by omega) ?_ hf.2
    rcases Int.lt_or_le (rNewI t) 0 with h0 | h0
    · exact .inl h0
    · have := rNewI_free h0
      have := (h.2 (rNewI t).toNat (by omega)).2
      exact .inr (by omega)
/-! ## The table in memory -/
def hVl (g i : Int) : Int := IntKind.wrap .u64 ((IntKind.wrap .u64 (g * 256)) + (IntKind.wrap .u64 i))
def hOn (m : AM) (o z : Int) (i : Nat) : Bool := hAt m o z (i : Int) != 0
def hHv (m : AM) (o z : Int) (i : Nat) : Int := hVl (hGn m o z (i : Int)) (i : Int)
def hAll (m : AM) (o z : Int) : List Int := allH (hOn m o z) (hHv m o z) (hLen z).toNat
structure HRep (m : AM) (o z : Int) (t : List Sl) : Prop where
  there : thr m o z = true
  o0 : 0 ≤ o
  z0 : 0 ≤ z
  len : (t.length : Int) = hLen z
  at_ : ∀ i, i < t.length → hAt m o z (i : Int) = (gtD t i).1 ∧ hGn m o z (i : Int) = (gtD t i).2
  ok : OkT t
section
variable {m : AM} {o z : Int} {t : List Sl}
theorem HRep.room (h : HRep m o z t) {i : Int} (h0 : 0 ≤ i) (h1 : i < (t.length : Int)) : 0 ≤ i * 16 ∧ i * 16 + 16 ≤ z ∧ thr m (o + i * 16) 8 = true ∧ thr m (o + (i * 16 + 8)) 8 = true := by
  have hl := hLen_bd h.z0
  have := h.len
  have := h.o0
  exact ⟨by omega, by omega, thr_sub h.there (by omega) (by omega) (by omega), thr_sub h.there (by omega) (by omega) (by omega)⟩
/-- A slot's number, stored. -/
theorem vld_vst {a a' v : Int} (ht : thr m (o + a) 8 = true) (h0 : 0 ≤ a) (h1 : a ≤ z - 8) (hv : 0 ≤ v ∧ v ≤ 18446744073709551615) (h0' : 0 ≤ a') (h1' : a' ≤ z - 8) (hap : a' = a ∨ a' + 8 ≤ a ∨ a + 8 ≤ a') : vldV (vstM m o z a 8 v) o z a' 8 = if a' = a then v else vldV m o z a' 8 := by
  have hc : vchE z a' 8 = 0 := (vch_yes (by omega)).symm
  rw [(vst_at ht h0 h1).2]
  unfold vldV
  rw [show wholeB 8 = true from rfl, if_pos rfl, if_pos rfl, if_pos hc, if_pos hc]
  by_cases e : a' = a
  · subst e
    rw [if_pos rfl, ld_st rfl ht hv.1]
    show v % 2 ^ 64 = v
    omega
  · rw [if_neg e, ld_far rfl ht (by omega)]
theorem HRep.one (h : HRep m o z t) {i a g : Int} (h0 : 0 ≤ i) (h1 : i < (t.length : Int)) (ha : 0 ≤ a ∧ a ≤ 9223372036854775807) (hg : g = (gtD t i.toNat).2) : HRep (hSetM m o z i a) o z (rSet t i a g) := by
  obtain ⟨r1, r2, r3, r4⟩ := h.room h0 h1
  have hu : IntKind.wrap .u64 a = a := u64_in (by omega)
  have hc := vstM_com m o z (i * 16) 8 a
  unfold hSetM
  rw [hu]
  refine ⟨(thr_same hc.1 hc.2 _ _).trans h.there, h.o0, h.z0, by rw [rSet_len]; exact h.len, fun j hj => ?_, h.ok.set ha (.inr (hg ▸ (h.ok.2 _ (by omega)).2)) h1⟩
  rw [rSet_len] at hj
  obtain ⟨q1, q2, q3, q4⟩ := h.room (i := (j : Int)) (by omega) (by omega)
  obtain ⟨k1, k2⟩ := h.at_ j hj
  rw [rSet_at h0 h1]
  unfold hAt hGn at *
  rw [vld_vst r3 r1 (by omega) (by omega) q1 (by omega) (by omega), vld_vst r3 r1 (by omega) (by omega) (by omega) (by omega) (by omega), if_neg (by omega : ¬ (j : Int) * 16 + 8 = i * 16)]
  by_cases e : (j : Int) = i
  · subst e
    rw [if_pos rfl, if_pos rfl]
    exact ⟨wrap_i64_in ha, by rw [k2]; rw [Int.toNat_natCast] at hg; exact hg.symm⟩
  · rw [if_neg (by omega), if_neg e]
    exact ⟨k1, k2⟩
theorem HRep.gen (h : HRep m o z t) {i a g : Int} (h0 : 0 ≤ i) (h1 : i < (t.length : Int)) (hg : 0 ≤ g ∧ g ≤ 72057594037927935) (ha : a = (gtD t i.toNat).1) : HRep (vstM m o z (i * 16 + 8) 8 g) o z (rSet t i a g) := by
  obtain ⟨r1, r2, r3, r4⟩ := h.room h0 h1
  have hc := vstM_com m o z (i * 16 + 8) 8 g
  refine ⟨(thr_same hc.1 hc.2 _ _).trans h.there, h.o0, h.z0, by rw [rSet_len]; exact h.len, fun j hj => ?_, h.ok.set (ha ▸ (h.ok.2 _ (by omega)).1) (.inr hg) h1⟩
  rw [rSet_len] at hj
  obtain ⟨q1, q2, q3, q4⟩ := h.room (i := (j : Int)) (by omega) (by omega)
  obtain ⟨k1, k2⟩ := h.at_ j hj
  rw [rSet_at h0 h1]
  unfold hAt hGn at *
  rw [vld_vst r4 (by omega) (by omega) (by omega) q1 (by omega) (by omega), vld_vst r4 (by omega) (by omega) (by omega) (by omega) (by omega) (by omega), if_neg (by omega : ¬ (j : Int) * 16 = i * 16 + 8)]
  by_cases e : (j : Int) = i
  · subst e
    rw [if_pos rfl, if_pos rfl]
    exact ⟨by rw [k1]; rw [Int.toNat_natCast] at ha; exact ha.symm, rfl⟩
  · rw [if_neg e, if_neg (by omega : ¬ (j : Int) * 16 + 8 = i * 16 + 8)]
    exact ⟨k1, k2⟩
theorem hVl_in {g i : Int} (hg : 0 ≤ g ∧ g ≤ 72057594037927935) (hi : 0 ≤ i ∧ i < 256) : hVl g i = 256 * g + i := by
  unfold hVl
  rw [u64_in (x := g * 256) (by omega), u64_in (x := i) (by omega), u64_in (by omega)]; omega
theorem HRep.all (h : HRep m o z t) : hAll m o z = rAll t := by
  have hl := h.len
  unfold hAll rAll
  rw [show (hLen z).toNat = t.length by omega]
  have h256 := h.ok.1
  refine allH_cg (fun i hi => ?_) (fun i hi _ => ?_)
  · unfold hOn rOn
    rw [(h.at_ i hi).1]
    have := (h.ok.2 i hi).1
    by_cases e : (gtD t i).1 = 0
    · rw [e]; rfl
    · rw [decide_eq_true (by omega : 0 < (gtD t i).1)]; exact bne_iff_ne.2 e
  · unfold hHv rHv
    rw [(h.at_ i hi).2, hVl_in (h.ok.2 i hi).2 (by omega)]
theorem HRep.find (h : HRep m o z t) {x : Int} (hx : 0 ≤ x ∧ x ≤ 18446744073709551615) : (hfOk m o z x = true ∧ rFind t x = x % 256 ∧ hAt m o z (x % 256) = (gtD t (x % 256).toNat).1) ∨ (hfOk m o z x = false ∧ rFind t x = -1) := by
  have hl := h.len
  have h256 := h.ok.1
  by_cases hq : x % 256 < hLen z
  · obtain ⟨k1, k2⟩ := h.at_ (x % 256).toNat (by omega)
    rw [show (((x % 256).toNat : Nat) : Int) = x % 256 by omega] at k1 k2
    have hr := h.ok.2 (x % 256).toNat (by omega)
    by_cases hy : rNm t x (x % 256).toNat = true
    · left
      refine ⟨?_, ?_, k1⟩
      · unfold rNm at hy
        simp only [Bool.and_eq_true, beq_iff_eq, decide_eq_true_eq] at hy
        unfold hfOk
        rw [decide_eq_true hq, k1, k2, beq_false_of_ne (by omega), show (x / 256 != (gtD t (x % 256).toNat).2) = false from bne_eq_false_iff_eq.2 (by omega)]
        rfl
      · have := fIx_only (p := rNm t x) (n := t.length) (i := (x % 256).toNat) (by omega) hy (fun j hj hp => by
          unfold rNm at hp
          simp only [Bool.and_eq_true, beq_iff_eq, decide_eq_true_eq] at hp
          have := (h.ok.2 j hj).2
          omega)
        unfold rFind; omega
    · right
      have hy : rNm t x (x % 256).toNat = false := by simpa using hy
      refine ⟨?_, ?_⟩
      · unfold hfOk
        rw [decide_eq_true hq, k1, k2]
        unfold rNm at hy
        cases e : ((gtD t (x % 256).toNat).1 == 0 || x / 256 != (gtD t (x % 256).toNat).2) with
        | true => rfl
        | false =>
          exfalso
          simp only [Bool.or_eq_false_iff, beq_eq_false_iff_ne, bne_eq_false_iff_eq] at e
          rw [decide_eq_true (by omega), Bool.true_and, beq_eq_false_iff_ne] at hy
          exact hy (by omega)
      · refine fIx_no fun j hj => ?_
        by_cases ej : j = (x % 256).toNat
        · rw [ej]; exact hy
        · unfold rNm
          have := (h.ok.2 j hj).2
          rw [beq_false_of_ne (by omega), Bool.and_false]
  · right
    refine ⟨by unfold hfOk; rw [decide_eq_false hq]; rfl, fIx_no fun j hj => ?_⟩
    unfold rNm
    have := (h.ok.2 j hj).2
    rw [beq_false_of_ne (by omega), Bool.and_false]
theorem HRep.get (h : HRep m o z t) {x : Int} (hx : 0 ≤ x ∧ x ≤ 18446744073709551615) : hfA m o z x = rGetA t x ∧ hfE m o z x = rGetE t x := by
  unfold hfA hfE rGetA rGetE
  rcases h.find hx with ⟨h1, h2, h3⟩ | ⟨h1, h2⟩
  · rw [h1, h2, if_pos rfl, if_pos rfl, if_neg (by omega), if_neg (by omega), h3]; exact ⟨rfl, rfl⟩
  · rw [h1, h2]; exact ⟨rfl, rfl⟩
theorem HRep.free (h : HRep m o z t) : (match hNxO m o z with | some i => (i : Int) | none => -1) = rNewI t := by
  have hl := h.len
  show fIx (hFree m o z) (hLen z).toNat = rNewI t
  unfold rNewI
  rw [show (hLen z).toNat = t.length by omega]
  refine fIx_cg fun i hi => ?_
  unfold hFree rFree
  rw [(h.at_ i hi).1, (h.at_ i hi).2]
theorem HRep.next (h : HRep m o z t) : hNxV m o z = rNewV t 1 ∧ hNxE m o z = rNewE t 1 := by
  have hf := h.free
  have h256 := h.ok.1
  have hr := rNewI_rng t
  unfold hNxV hNxE rNewV rNewE
  cases hq : hNxO m o z with
  | none =>
    rw [hq] at hf
    rw [← hf]; exact ⟨rfl, rfl⟩
  | some i =>
    rw [hq] at hf
    have hf : (i : Int) = rNewI t := hf
    have hfr := rNewI_free (t := t) (by omega)
    have hgg := (h.ok.2 (rNewI t).toNat (by omega)).2
    have hg := (h.at_ i (by omega)).2
    rw [← hf]
    rw [if_neg (by decide), if_neg (by omega), if_neg (by decide), if_neg (by omega)]
    rw [← hf] at hfr hgg
    refine ⟨?_, rfl⟩
    show hOf (hGn m o z (i : Int)) (i : Int) = _
    rw [hg]
    rw [show i = ((i : Int)).toNat from (Int.toNat_natCast i).symm, hOf_mod (by omega) (by omega)]
    simp only [Int.toNat_natCast]; omega
theorem HRep.new (h : HRep m o z t) {a : Int} (ha : a ≤ 9223372036854775807) : HRep (hNwM m o z a) o z (rNewT t a) ∧ hNwV m o z a = rNewV t a ∧ hNwE m o z a = rNewE t a := by
  obtain ⟨n1, n2⟩ := h.next
  have h256 := h.ok.1
  have hr := rNewI_rng t
  unfold hNwM hNwV hNwE rNewT
  by_cases h1 : a < 1
  · rw [if_pos h1, if_pos h1, if_pos h1, if_pos h1]
    unfold rNewV rNewE
    rw [if_pos h1, if_pos h1]; exact ⟨h, rfl, rfl⟩
  · rw [if_neg h1, if_neg h1, if_neg h1, if_neg h1, n1, n2]
    unfold rNewV rNewE
    rw [if_neg (by decide : ¬ (1 : Int) < 1), if_neg (by decide : ¬ (1 : Int) < 1), if_neg h1, if_neg h1]
    by_cases h2 : rNewI t < 0
    · rw [if_pos h2, if_pos h2, if_neg (by decide)]
      unfold rSet
      rw [if_pos h2]; exact ⟨h, rfl, rfl⟩
    · rw [if_neg h2, if_neg h2, if_pos rfl]
      refine ⟨?_, rfl, rfl⟩
      have hfr := rNewI_free (t := t) (by omega)
      have hgg := (h.ok.2 (rNewI t).toNat (by omega)).2
      rw [show (256 * ((gtD t (rNewI t).toNat).2 + 1) + rNewI t) % 256 = rNewI t by omega, show (256 * ((gtD t (rNewI t).toNat).2 + 1) + rNewI t) / 256 = (gtD t (rNewI t).toNat).2 + 1 by omega]
      have s1 := h.one (i := rNewI t) (a := a) (g := (gtD t (rNewI t).toNat).2) (by omega) (by omega) (by omega) rfl
      have s2 := s1.gen (i := rNewI t) (a := a) (g := (gtD t (rNewI t).toNat).2 + 1) (by omega) (by rw [rSet_len]; omega) (by omega) (by rw [rSet_at (by omega) (by omega), if_pos (by omega)])
      have e : rSet (rSet t (rNewI t) a (gtD t (rNewI t).toNat).2) (rNewI t) a ((gtD t (rNewI t).toNat).2 + 1) = rSet t (rNewI t) a ((gtD t (rNewI t).toNat).2 + 1) := by
        unfold rSet
        rw [if_neg h2, if_neg h2, if_neg h2, List.set_set]
      rw [e] at s2
      exact s2
/-- A new one. -/
theorem HRep.zero (hm : ∀ x, m.mem x = 0) (ht : thr m o z = true) (o0 : 0 ≤ o) (z0 : 0 ≤ z) {t : List Sl} (hl : (t.length : Int) = hLen z) (hz : ∀ i, i < t.length → gtD t i = (0, 0)) : HRep m o z t := by
  have h1 : ∀ a, vldV m o z a 8 = 0 := fun a => by
    unfold vldV
    rw [ld_zero hm]; split <;> (try split) <;> rfl
  have hb := hLen_bd z0
  refine ⟨ht, o0, z0, hl, fun i hi => ?_, by omega, fun i hi => ?_⟩
  · unfold hAt hGn
    rw [h1, h1, hz i hi]; exact ⟨rfl, rfl⟩
  · rw [hz i hi]; exact ⟨by decide, by decide⟩
theorem HRep.same (h : HRep m o z t) : HRep m o z t := h
end
end Go.Proofs.YtdjhdcaanmkblaaDoor.K
