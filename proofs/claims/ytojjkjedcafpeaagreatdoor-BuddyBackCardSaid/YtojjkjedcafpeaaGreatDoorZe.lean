/-
  All taken runs are freed: acts that don't shrink, nor refuse; how many are taken.
-/
import Derived.Test.YtojjkjedcafpeaaGreatDoorZc
namespace Go.Proofs.YtojjkjedcafpeaaGreatDoor.K
set_option linter.unusedSimpArgs false
set_option linter.unusedVariables false

def NoT (q : List Tg) : Prop := ∀ (j : Nat) (t : Int), gtD q j ≠ (3, t)
theorem NoT.zero (N : Nat) : NoT (List.replicate N ((0, 0) : Tg)) := fun j t => tk_zero N j t
theorem NoT.same {q q2 : List Tg} (ht : ∀ (j : Nat) (t : Int), gtD q2 j = (3, t) ↔ gtD q j = (3, t)) (h : NoT q) : NoT q2 := fun j t h3 => h j t ((ht j t).1 h3)
theorem gwR_m1 (N g : Nat) (k : Int) : gwR N g (-1) k = -1 := by
  unfold gwR; split
  · rw [if_pos (by decide)]
  · rfl
/-- How many pages begin taken runs. -/
def mtk (q : List Tg) (g : Nat) : Nat := countTo (fun p => (gtD q p).1 == 3) g
theorem cnt_le {p p' : Nat → Bool} (h : ∀ i, p' i = true → p i = true) : ∀ n, countTo p' n ≤ countTo p n
  | 0 => Nat.le_refl _
  | n + 1 => by
    have ih := cnt_le h n
    have hn := h n
    unfold countTo
    cases e : p' n with
    | false => simp only [Bool.false_eq_true, if_false]; omega
    | true => rw [hn e]; simp only [if_true]; omega
theorem cnt_less {p p' : Nat → Bool} (h : ∀ i, p' i = true → p i = true) {i : Nat} (h1 : p i = true) (h2 : p' i = false) : ∀ n, i < n → countTo p' n < countTo p n
  | 0, hi => absurd hi (Nat.not_lt_zero _)
  | n + 1, hi => by
    unfold countTo
    by_cases e : i = n
    · subst e
      have := cnt_le h i
      rw [h1, h2]; simp only [Bool.false_eq_true, if_false, if_true]; omega
    · have ih := cnt_less h h1 h2 n (by omega)
      have hn := h n
      cases e : p' n with
      | false => simp only [Bool.false_eq_true, if_false]; omega
      | true => rw [hn e]; simp only [if_true]; omega
section
variable {m m' mo : AM} {N g g2 : Nat} {r r' r2 : Int} {q q' q2 : List Tg} {Q Q' Q2 : Nat → List Int}
/-- An act that doesn't shrink it, nor makes it refuse. -/
theorem bk_step {d k n : Int} (hd : ¬ 5 < d % 8) (h : StepP N g (-1) q d k n g2 r2 q2) : r2 = -1 ∧ (g2 = g ∨ (g < g2 ∧ gwE N g (-1) k = 0 ∧ gwG N g (-1) k = g2)) := by
  have key : gwG N g (-1) k = g ∨ (g < gwG N g (-1) k ∧ gwE N g (-1) k = 0) := by
    by_cases e : gwE N g (-1) k = 0
    · obtain ⟨w1, w2, w3, w4, w5⟩ := gw_ok e
      have := (pw_bd (gr_bad w1)).1
      exact .inr ⟨by omega, e⟩
    · exact .inl (gw_no e).1
  rcases h with ⟨_, h1, h2, _⟩ | ⟨_, h1, h2, _⟩ | ⟨h1, _⟩ | ⟨h1, _⟩ | ⟨_, _, _, _, _, a, e, h⟩
  · exact ⟨h2, .inl h1⟩
  · refine ⟨h2.trans (gwR_m1 _ _ _), ?_⟩
    rcases key with c | c
    · exact .inl (h1.trans c)
    · exact .inr ⟨by omega, c.2, h1.symm⟩
  · omega
  · omega
  · rcases h with h | h | h
    · exact ⟨h.2.2.2.2.1, .inl h.2.2.2.1⟩
    · obtain ⟨_, _, h3, _, _, h6, h7, _⟩ := h
      exact ⟨h7.trans (gwR_m1 _ _ _), .inl (h6.trans (gw_no h3).1)⟩
    · obtain ⟨_, _, gb, rb, qb, i, kk, hb, _, _, _, _, _, hg, hr, _⟩ := h
      rcases hb with ⟨b1, b2, _⟩ | ⟨_, b1, b2, b3, _⟩
      · exact ⟨hr.trans b2, .inl (hg.trans b1)⟩
      · refine ⟨(hr.trans b3).trans (gwR_m1 _ _ _), ?_⟩
        rcases key with c | c
        · exact .inl ((hg.trans b2).trans c)
        · exact .inr ⟨by omega, c.2, (hg.trans b2).symm⟩
theorem bk_up {k : Int} (h : g2 = g ∨ (g < g2 ∧ gwE N g (-1) k = 0 ∧ gwG N g (-1) k = g2)) (h2 : (g : Int) < (g2 : Int)) : gwE N g (-1) k = 0 ∧ gwG N g (-1) k = g2 := by
  rcases h with h | h
  · omega
  · exact h.2
theorem bk_same {k : Int} (h : g2 = g ∨ (g < g2 ∧ gwE N g (-1) k = 0 ∧ gwG N g (-1) k = g2)) (h2 : (g2 : Int) ≤ (g : Int)) : g2 = g := by
  rcases h with h | h
  · exact h
  · omega
theorem bk_c {k : Int} (h : Bdy m N (gwG N g (-1) k) (gwR N g (-1) k) q Q) (e : gwE N g (-1) k = 0 ∧ gwG N g (-1) k = g2) : Bdy m N g2 (-1) q Q := by
  rw [e.2, gwR_m1] at h; exact h
theorem bk_f {k : Int} (h : FullG (gwG N g (-1) k) q) (e : gwE N g (-1) k = 0 ∧ gwG N g (-1) k = g2) : FullG g2 q := e.2 ▸ h
theorem pk_tk (h : Bdy m N g r q Q) {n : Int} (hn : pkA (rnTo q g) n ≠ 0) : tkE q (pkA (rnTo q g) n) = 0 := by
  have hz : ¬ (tkLst (rnTo q g)).length = 0 := fun e => hn (pk_0 e).symm
  obtain ⟨p, p1, p2, p3⟩ := tkL_mem (pk_in (n := n) hz)
  have hl := h.tl.len
  have hpN := h.tl.lt (p := p) (by omega)
  rw [p3]
  have ea : bpA p / 4096 - 1 = (p : Int) := by unfold bpA; omega
  have eg : rgE q (p : Int) = 0 := by unfold rgE; rw [if_neg (by omega)]
  have ev : rgV q (p : Int) = gtD q p := by unfold rgV; rw [if_pos eg, Int.toNat_natCast]
  unfold tkE
  rw [if_neg]
  rw [ea, eg, ev]
  rintro (c | c | c | c)
  · unfold bpA at c; omega
  · unfold bpA at c; omega
  · exact c rfl
  · exact c p2
theorem pk_none (h : Bdy m N g r q Q) {n : Int} (hn : pkA (rnTo q g) n = 0) : NoT q := fun j t hj => by
  have h3 : 2 ≤ (gtD q j).1 := by rw [hj]; show (2 : Int) ≤ 3; decide
  have hjg : j < g := by
    have := (h.tl.st j h3).2.2.2.1
    have hw : 0 < wdQ q j := Nat.pow_pos (by decide)
    omega
  have hm : bpA j ∈ tkLst (rnTo q g) := by
    unfold tkLst
    refine List.mem_map.2 ⟨rnE q j, List.mem_filter.2 ⟨rnTo_in hjg h3, ?_⟩, rfl⟩
    unfold rnE; rw [hj]; rfl
  have hz : ¬ (tkLst (rnTo q g)).length = 0 := fun e => by
    rw [List.eq_nil_of_length_eq_zero e] at hm; cases hm
  obtain ⟨p, p1, p2, p3⟩ := tkL_mem (pk_in (n := n) hz)
  rw [hn] at p3; unfold bpA at p3; omega
theorem mtk_lt (h : Bdy m N g r q Q) {a : Int} (he : tkE q a = 0) (hF : FreeP q a q2) : mtk q2 g < mtk q g := by
  obtain ⟨t1, t2, t3, t4, t5, t6⟩ := h.tk he
  rcases hF with hF | ⟨_, hF, _⟩
  · exact absurd he hF.1
  have h3 : 2 ≤ (gtD q (tkI q a).toNat).1 := by rw [t5]; show (2 : Int) ≤ 3; decide
  have hlt : (tkI q a).toNat < g := by
    have := (h.tl.st _ h3).2.2.2.1
    have hw : 0 < wdQ q (tkI q a).toNat := Nat.pow_pos (by decide)
    omega
  refine cnt_less (i := (tkI q a).toNat) (fun j hj => ?_) (by show ((gtD q _).1 == 3) = true; rw [t5]; rfl) ?_ g hlt
  · have h4 : gtD q2 j = (3, (gtD q2 j).2) := Prod.ext (eq_of_beq hj) rfl
    have := ((hF j _).1 h4).1
    show ((gtD q j).1 == 3) = true
    rw [this]; rfl
  · show ((gtD q2 (tkI q a).toNat).1 == 3) = false
    refine beq_eq_false_iff_ne.2 fun e => ?_
    have h4 : gtD q2 (tkI q a).toNat = (3, (gtD q2 (tkI q a).toNat).2) := Prod.ext e rfl
    exact ((hF _ _).1 h4).2 rfl
theorem sh_0 (h : ShP q g g2 q2) (hn : NoT q) : g2 = 0 := by
  rcases h with ⟨_, ht, h | ⟨s, s1, _⟩⟩
  · exact h
  · exact absurd ((ht s _).1 (Prod.ext s1 rfl)) (hn s _)
theorem NoT.iff (h : NoT q) (h2 : NoT q2) : ∀ (j : Nat) (t : Int), gtD q j = (3, t) ↔ gtD q2 j = (3, t) := fun j t => ⟨fun e => absurd e (h j t), fun e => absurd e (h2 j t)⟩
end
end Go.Proofs.YtojjkjedcafpeaaGreatDoor.K
