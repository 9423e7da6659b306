/-
  An arena as the document's; objects' headers, plainly.
-/
import Derived.Test.YtindbpffbjhfaaaDoorRa
import Derived.Test.YtindbpffbjhfaaaDoorM3
namespace Go.Proofs.YtindbpffbjhfaaaDoor.K
set_option linter.unusedSimpArgs false
set_option linter.unusedVariables false

theorem thr_mk {m : AM} {a k : Int} (hi : inB m a k = true) (hu : ∀ i : Nat, a / 4096 ≤ (i : Int) → (i : Int) ≤ (a + k - 1) / 4096 → m.com i = true) : thr m a k = true := by
  unfold thr
  rw [hi]
  obtain ⟨h1, h2, h3, h4⟩ := inB_facts hi
  by_cases hk : k = 0
  · simp [hk]
  · have hc := cntR_all (b := true) (p := m.com) (pgN a k) (pg0 a) (fun i q1 q2 => hu i (by unfold pg0 at q1; omega) (by unfold pg0 at q2; unfold pgN at q2; omega))
    simp only [if_true] at hc
    simp [hc]
theorem page_one {m : AM} {i : Nat} (h : i < m.cap) (hc : m.com i = true) : thr m (4096 * (i : Int)) 4096 = true := by
  refine thr_mk (inB_yes (by omega) (by omega) (by omega) (by omega)) fun j h1 h2 => ?_
  rw [show j = i by omega]; exact hc
/-- An arena's pages, as strings. -/
def pgS (m : AM) (i : Nat) : ByteArray := if m.com i then bs (fun j => m.mem (4096 * i + j)) 4096 else ⟨#[]⟩
def pgU (m : AM) (x i : Nat) : ByteArray := if i < x then pgS m i else ⟨#[]⟩
theorem byt_page {m : AM} {x : Int} (h0 : 0 ≤ x) (h1 : x < (m.cap : Int)) (hc : m.com x.toNat = true) : bytS m (x * 4096) 4096 = pgS m x.toNat ∧ chkE m (x * 4096) 4096 = 0 := by
  have ht : thr m (x * 4096) 4096 = true := by
    have := page_one (m := m) (i := x.toNat) (by omega) hc
    rwa [show 4096 * ((x.toNat : Nat) : Int) = x * 4096 by omega] at this
  refine ⟨?_, chk_thr ht⟩
  unfold bytS pgS
  rw [if_pos ht, if_pos hc, show (x * 4096).toNat = 4096 * x.toNat by omega]
  rfl
theorem pgU_zero (m : AM) : (fun _ => (⟨#[]⟩ : ByteArray)) = pgU m 0 := by funext i; unfold pgU; rw [if_neg (by omega)]
theorem pgU_yes {m : AM} {x : Int} (h0 : 0 ≤ x) (h1 : x < (m.cap : Int)) (hc : m.com x.toNat = true) (o : Nat) : strs (pgU m (x + 1).toNat) 0 o = strs (putS (pgU m x.toNat) x.toNat (bytS m (x * 4096) 4096)) 0 o := by
  unfold strs putS pgU
  rw [Nat.sub_zero, (byt_page h0 h1 hc).1, show (x + 1).toNat = x.toNat + 1 by omega]
  by_cases e : o = x.toNat
  · rw [if_pos e, if_pos (by omega), e]
  · rw [if_neg e]
    by_cases e2 : o < x.toNat
    · rw [if_pos e2, if_pos (by omega)]
    · rw [if_neg e2, if_neg (by omega)]
theorem pgU_no {m : AM} {x : Int} (h0 : 0 ≤ x) (hc : m.com x.toNat = false) (o : Nat) : strs (pgU m (x + 1).toNat) 0 o = strs (pgU m x.toNat) 0 o := by
  unfold strs pgU
  rw [Nat.sub_zero, show (x + 1).toNat = x.toNat + 1 by omega]
  by_cases e : o = x.toNat
  · rw [if_pos (by omega), if_neg (by omega), e]; unfold pgS; rw [hc]; rfl
  · by_cases e2 : o < x.toNat
    · rw [if_pos e2, if_pos (by omega)]
    · rw [if_neg e2, if_neg (by omega)]
theorem pgU_all (m : AM) {n x : Nat} (h : n ≤ x) : ∀ o, o < n → strs (pgU m x) 0 o = strs (pgS m) 0 o := fun o ho => by
  unfold strs pgU; rw [if_pos (by omega)]
theorem size_list {s t : ByteArray} (h : s.toList = t.toList) : s.size = t.size := by rw [toList_inj h]
theorem pgS_size {m : AM} {i : Nat} (h : m.com i = true) : (pgS m i).size = 4096 := by unfold pgS; rw [if_pos h, bs_size]
theorem there_pgS (m : AM) : thereF (pgS m) = m.com := by
  funext i
  unfold thereF
  cases h : m.com i with
  | false => unfold pgS; rw [h]; simp
  | true =>
    have hs := pgS_size h
    cases hb : (ByteArray.toList (pgS m i) == ByteArray.toList (⟨#[]⟩ : ByteArray)) with
    | false => rfl
    | true =>
      have := size_list (beq_iff_eq.1 hb)
      rw [hs] at this
      exact absurd this (by decide)
theorem thr_pgS (m : AM) (a k : Int) : thr (amS (pgS m) m.cap) a k = thr m a k := by
  unfold thr inB amS; rw [there_pgS]
theorem hasV_in {p : Nat → Bool} {n : Nat} {x : Int} (h0 : 0 ≤ x) (h1 : x < (n : Int)) : hasV p n x = p x.toNat := by
  unfold hasV; rw [decide_eq_true h0, decide_eq_true h1]; rfl
theorem capN_of {n : Nat} (h : n ≤ 1048576) : capN (n : Int) = n := by
  unfold capN imax imin; split <;> split <;> omega
theorem byt_size {m : AM} (h : thr m 0 8192 = true) : ByteArray.size (bytS m 0 8192) = 8192 := by rw [byt_all h, bs_size]
section
variable {c : Cx} {H : Heap} {A : List Res} {w : World}
theorem WS.arTell {b : Nat} {F : Nat → Prop} {m m' : AM} (h : WS c H A w) (j : Nat) (e : m = m') (hj : A[j]? = some (arR b F m) := by rfl) : WS c H (A.set j (arR b F m')) w := by
  subst e
  have : A.set j (arR b F m) = A := by
    apply List.ext_getElem?
    intro i
    rw [List.getElem?_set]
    split
    · rename_i e; subst e
      split
      · exact hj.symm
      · rename_i q; rw [List.getElem?_eq_none (by omega)] at hj; cases hj
    · rfl
  rw [this]; exact h
end
/-- Three acts ahead: pages 0, 1 and 3 of four. -/
def am4 : AM := comM (comM (AM.new 4) 0 2) 3 1
theorem am4_cap : am4.cap = 4 := by decide +kernel

/-! ## Objects' headers -/
def obBad (a s p : Int) : Bool := (decide (a < 16) || decide (s < 0)) || decide (p < 0)
def obE (m : AM) (a s p : Int) : Int := if obBad a s p then 2 else if thr m (a - 16) 16 then 0 else 3
def obNum (s p : Int) (i : Nat) : Nat := if i = 0 then s.toNat else p.toNat
def obM (m : AM) (a s p : Int) : AM := if obE m a s p = 0 then pRM oRec 2 (obNum s p) m (a - 16) 16 else m
def orE (m : AM) (a : Int) : Int := if a < 16 then 2 else if thr m (a - 16) 16 then 0 else 3
def orN (m : AM) (a i : Int) : Int := getW oRec m (a - 16) 16 i
def orA (m : AM) (a : Int) : Int := if orE m a = 0 then a else 0
def orS (m : AM) (a : Int) : Int := if orE m a = 0 then IntKind.wrap .i64 (orN m a 0) else 0
def orP (m : AM) (a : Int) : Int := if orE m a = 0 then IntKind.wrap .i64 (orN m a 1) else 0
section
variable {m : AM} {a s p : Int}
theorem ob_rec (h : thr m (a - 16) 16 = true) : RecV oRec m (a - 16) 16 := ⟨oRec_ok, h, by decide⟩
theorem ob_pE (h : thr m (a - 16) 16 = true) (nums : Nat → Nat) : pRE oRec 2 nums m (a - 16) 16 = 0 := by
  unfold pRE
  rw [if_neg (fun q => q rfl), oRec_fit, if_pos rfl]
  exact (ob_rec h).vb0 (Int.le_refl _)
theorem ob_1 (h : obBad a s p = true) : 2 = obE m a s p ∧ m = obM m a s p := by
  have e : obE m a s p = 2 := by unfold obE; rw [h]; rfl
  unfold obM; rw [e]; exact ⟨rfl, rfl⟩
theorem ob_2 (h : obBad a s p = false) (ht : thr m (a - 16) 16 = false) : 3 = obE m a s p ∧ m = obM m a s p := by
  have e : obE m a s p = 3 := by unfold obE; rw [h, ht]; rfl
  unfold obM; rw [e]; exact ⟨rfl, rfl⟩
theorem ob_3 (h : obBad a s p = false) (ht : thr m (a - 16) 16 = true) : pRE oRec 2 (obNum s p) m (a - 16) 16 = obE m a s p ∧ pRM oRec 2 (obNum s p) m (a - 16) 16 = obM m a s p := by
  have e : obE m a s p = 0 := by unfold obE; rw [h, ht]; rfl
  unfold obM; rw [e, ob_pE ht]; exact ⟨rfl, rfl⟩
theorem ob_in (h : obBad a s p = false) : 16 ≤ a ∧ 0 ≤ s ∧ 0 ≤ p := by
  unfold obBad at h
  simp only [Bool.or_eq_false_iff, decide_eq_false_iff_not] at h
  omega
theorem ob_cells (h : obBad a s p = false) : ∀ o, o < 2 → [vu s, vu p][o]? = some (u64s (obNum s p) 0 o) := by
  obtain ⟨h1, h2, h3⟩ := ob_in h
  intro o ho
  rcases (by omega : o = 0 ∨ o = 1) with rfl | rfl
  · exact congrArg (fun x => some (vu x)) (Int.toNat_of_nonneg h2).symm
  · exact congrArg (fun x => some (vu x)) (Int.toNat_of_nonneg h3).symm
theorem or_no (h : orE m a ≠ 0) : 0 = orA m a ∧ 0 = orS m a ∧ 0 = orP m a := by unfold orA orS orP; rw [if_neg h, if_neg h, if_neg h]; exact ⟨rfl, rfl, rfl⟩
theorem or_yes (h : orE m a = 0) : a = orA m a ∧ IntKind.wrap .i64 (orN m a 0) = orS m a ∧ IntKind.wrap .i64 (orN m a 1) = orP m a := by unfold orA orS orP; rw [if_pos h, if_pos h, if_pos h]; exact ⟨rfl, rfl, rfl⟩
theorem orE_1 (h : a < 16) : orE m a = 2 := by unfold orE; rw [if_pos h]
theorem orE_2 (h : ¬ a < 16) (ht : thr m (a - 16) 16 = false) : orE m a = 3 := by unfold orE; rw [if_neg h, ht]; rfl
theorem orE_3 (h : ¬ a < 16) (ht : thr m (a - 16) 16 = true) : orE m a = 0 := by unfold orE; rw [if_neg h, ht]; rfl
/-- What is written is read. -/
theorem ob_good (h : obE m a s p = 0) : obBad a s p = false ∧ thr m (a - 16) 16 = true ∧ obM m a s p = pRM oRec 2 (obNum s p) m (a - 16) 16 := by
  have h2 := h
  unfold obE at h2
  cases hb : obBad a s p with
  | true => rw [hb, if_pos rfl] at h2; exact absurd h2 (by decide)
  | false =>
    cases ht : thr m (a - 16) 16 with
    | false => rw [hb, ht] at h2; exact absurd h2 (by decide)
    | true => exact ⟨rfl, rfl, by unfold obM; rw [if_pos h]⟩
theorem obM_com (m : AM) (a s p : Int) : (obM m a s p).cap = m.cap ∧ (obM m a s p).com = m.com := by
  unfold obM
  split
  · exact pRM_com _ _ _ _ _ _
  · exact ⟨rfl, rfl⟩
theorem ob_read (h : obE m a s p = 0) (hs : s ≤ 9223372036854775807 ∧ p ≤ 9223372036854775807) : orE (obM m a s p) a = 0 ∧ orA (obM m a s p) a = a ∧ orS (obM m a s p) a = s ∧ orP (obM m a s p) a = p := by
  obtain ⟨hb, ht, hm⟩ := ob_good h
  obtain ⟨i1, i2, i3⟩ := ob_in hb
  have ht2 : thr (obM m a s p) (a - 16) 16 = true := (thr_same (obM_com m a s p).1 (obM_com m a s p).2 _ _).trans ht
  have he : orE (obM m a s p) a = 0 := orE_3 (by omega) ht2
  have hg := field_back0 (ob_rec ht) (nums := obNum s p) (fun i _ => by unfold obNum; split <;> omega) (ob_pE ht _)
  have g0 : orN (obM m a s p) a 0 = s := by
    unfold orN; rw [hm]
    exact (hg 0 (by decide)).trans (by show ((s.toNat : Nat) : Int) = s; omega)
  have g1 : orN (obM m a s p) a 1 = p := by
    unfold orN; rw [hm]
    exact (hg 1 (by decide)).trans (by show ((p.toNat : Nat) : Int) = p; omega)
  obtain ⟨r1, r2, r3⟩ := or_yes he
  refine ⟨he, r1.symm, ?_, ?_⟩
  · rw [← r2, g0]; exact wrap_i64_in (by omega)
  · rw [← r3, g1]; exact wrap_i64_in (by omega)
theorem ob_far (h : obE m a s p = 0) {y : Nat} (hy : (y : Int) < a - 16 ∨ a ≤ (y : Int)) : (obM m a s p).mem y = m.mem y := by
  obtain ⟨hb, ht, hm⟩ := ob_good h
  rw [hm]
  exact pRM_far (ob_rec ht) (by omega) _
end
def obW (S : Nat → ByteArray) (n : Nat) (a s p : Int) : Int := if obBad a s p then 2 else if thr (amS S n) (a - 16) 16 then 0 else 3
theorem obW_pgS (m : AM) (a s p : Int) : obW (pgS m) m.cap a s p = obE m a s p := by unfold obW obE; rw [thr_pgS]
theorem ob_same {m : AM} {a s p : Int} (h : obE m a s p ≠ 0) : obM m a s p = m := by unfold obM; rw [if_neg h]
theorem ob_fin {m : AM} {a : Int} : (orE m a = 2 ↔ a < 16) ∧ (orE m a = 0 ∨ (orA m a = 0 ∧ orS m a = 0 ∧ orP m a = 0)) := by
  by_cases h : a < 16
  · have e := orE_1 (m := m) h
    obtain ⟨q1, q2, q3⟩ := or_no (m := m) (a := a) (by omega)
    exact ⟨⟨fun _ => h, fun _ => e⟩, .inr ⟨q1.symm, q2.symm, q3.symm⟩⟩
  · cases ht : thr m (a - 16) 16 with
    | true => have e := orE_3 h ht; exact ⟨⟨fun q => by omega, fun q => absurd q h⟩, .inl e⟩
    | false =>
      have e := orE_2 h ht
      obtain ⟨q1, q2, q3⟩ := or_no (m := m) (a := a) (by omega)
      exact ⟨⟨fun q => by omega, fun q => absurd q h⟩, .inr ⟨q1.symm, q2.symm, q3.symm⟩⟩
theorem ob_fin1 {m : AM} {a : Int} : (((orE m a : Int) == 2) == (decide ((a : Int) < 16))) = true := by
  have h := (ob_fin (m := m) (a := a)).1
  by_cases e : a < 16
  · rw [decide_eq_true e, h.2 e]; rfl
  · rw [decide_eq_false e, beq_false_of_ne (fun q => e (h.1 q))]; rfl
/-- Two pages' bytes ahead of, and behind, a header. -/
theorem ob_cut {m : AM} {a s p : Int} (h : obE m a s p = 0) (h8 : thr m 0 8192 = true) {x y : Nat} (hy : y ≤ 8192) (hxy : (y : Int) ≤ a - 16 ∨ a ≤ (x : Int)) : ByteArray.extract (bytS (obM m a s p) 0 8192) x y = ByteArray.extract (bytS m 0 8192) x y := by
  have h9 : thr (obM m a s p) 0 8192 = true := (thr_same (obM_com m a s p).1 (obM_com m a s p).2 _ _).trans h8
  rw [byt_all h8, byt_all h9]
  exact bs_cut hy fun j h1 h2 => ob_far h (by omega)
end Go.Proofs.YtindbpffbjhfaaaDoor.K
