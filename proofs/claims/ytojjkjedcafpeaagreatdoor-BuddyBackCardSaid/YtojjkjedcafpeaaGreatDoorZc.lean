/-
  Runs are settled by what it has grown to and by the taken ones.
-/
import Derived.Test.YtojjkjedcafpeaaGreatDoorZa
namespace Go.Proofs.YtojjkjedcafpeaaGreatDoor.K
set_option linter.unusedSimpArgs false
set_option linter.unusedVariables false

section
variable {m m' mo : AM} {N g : Nat} {r r' r2 : Int} {q q' q2 : List Tg} {Q Q' Q2 : Nat → List Int}
/-- The run in which a page is. -/
theorem Bdy.inRun (h : Bdy m N g r q Q) (hf : FullG g q) {x : Nat} (hx : x < g) : ∃ s, s ≤ x ∧ 2 ≤ (gtD q s).1 ∧ x < s + wdQ q s := by
  have hp0 := hf x hx
  have hxN := h.tl.lt hp0
  have hl := h.tl.len
  obtain ⟨r1, r2, r3, r4⟩ := h.bm.tg.rng x (by omega)
  by_cases e : 2 ≤ (gtD q x).1
  · exact ⟨x, Nat.le_refl _, e, by have : 0 < wdQ q x := Nat.pow_pos (by decide); omega⟩
  · obtain ⟨s, s1, s2, s3⟩ := h.tl.ins x (by omega)
    exact ⟨s, by omega, s2, s3⟩
theorem Bdy.tgN (h : Bdy m N g r q Q) {s : Nat} (hs : 2 ≤ (gtD q s).1) : (gtD q s = (2, (((gtD q s).2.toNat : Nat) : Int)) ∨ gtD q s = (3, (((gtD q s).2.toNat : Nat) : Int))) := by
  have hsN := h.tl.lt (p := s) (by omega)
  have hl := h.tl.len
  obtain ⟨t1, t2, t3, t4⟩ := h.bm.tg.rng s (by omega)
  have e2 : (gtD q s).2 = (((gtD q s).2.toNat : Nat) : Int) := by omega
  by_cases e : (gtD q s).1 = 2
  · exact .inl (Prod.ext e e2)
  · exact .inr (Prod.ext (by show (gtD q s).1 = 3; omega) e2)
/-- Two runs that have a page in common are one. -/
theorem Tl.one (h : Tl N g q) {a b x : Nat} (ha : 2 ≤ (gtD q a).1) (hb : 2 ≤ (gtD q b).1) (h1 : a ≤ x) (h2 : x < a + wdQ q a) (h3 : b ≤ x) (h4 : x < b + wdQ q b) : a = b := by
  rcases Nat.lt_trichotomy a b with c | c | c
  · have := h.apart ha hb c; omega
  · exact c
  · have := h.apart hb ha c; omega
/-- A page of a free run is in a free run of the other. -/
theorem FrP.other (h : Bdy m N g r q Q) (h' : Bdy m' N g r' q' Q') (hf' : FullG g q') (ht : ∀ (j : Nat) (t : Int), gtD q j = (3, t) ↔ gtD q' j = (3, t)) {p k x : Nat} (hp : gtD q p = (2, (k : Int))) (h1 : p ≤ x) (h2 : x < p + 2 ^ k) : FrP q' x := by
  obtain ⟨a1, a2, a3, a4, a5⟩ := h.tl.two hp
  obtain ⟨s, s1, s2, s3⟩ := h'.inRun hf' (x := x) (by omega)
  rcases h'.tgN s2 with e | e
  · exact ⟨s, (gtD q' s).2.toNat, e, s1, s3⟩
  · exfalso
    have e4 := (ht s _).2 e
    have e5 : 2 ≤ (gtD q s).1 := by rw [e4]; show (2 : Int) ≤ 3; decide
    have e6 : wdQ q s = wdQ q' s := by
      have : (gtD q s).2 = (gtD q' s).2 := by rw [e4, e]; rfl
      unfold wdQ; rw [this]
    have := h.tl.one a5 e5 h1 (by omega) s1 (by omega)
    subst this
    rw [e4] at hp
    have := congrArg Prod.fst hp
    simp at this
theorem free_same (h : Bdy m N g r q Q) (h' : Bdy m' N g r' q' Q') (hf : FullG g q) (hf' : FullG g q') (ht : ∀ (j : Nat) (t : Int), gtD q j = (3, t) ↔ gtD q' j = (3, t)) {p k : Nat} (hp : gtD q p = (2, (k : Int))) : gtD q' p = (2, (k : Int)) := by
  obtain ⟨a1, a2, a3, a4, a5⟩ := h.tl.two hp
  have hw : 0 < 2 ^ k := Nat.pow_pos (by decide)
  obtain ⟨s, j, j1, j2, j3, j4⟩ := blk h'.tl h'.nf k p a1 a2 (fun x x1 x2 => FrP.other h h' hf' ht hp x1 x2)
  obtain ⟨b1, b2, b3, b4, b5⟩ := h'.tl.two j2
  obtain ⟨s2, i, i1, i2, i3, i4⟩ := blk h.tl h.nf j s b1 b2 (fun x x1 x2 => FrP.other h' h hf (fun j t => (ht j t).symm) j2 x1 x2)
  obtain ⟨c1, c2, c3, c4, c5⟩ := h.tl.two i2
  have e := h.tl.one (x := p) a5 c5 (Nat.le_refl _) (by omega) (by omega) (by omega)
  subst e
  rw [hp] at i2
  have e2 : k = i := by have := congrArg Prod.snd i2; dsimp only at this; omega
  have e3 : s = p := by omega
  have e4 : j = k := by omega
  rw [← e3, ← e4]; exact j2
theorem run_same (h : Bdy m N g r q Q) (h' : Bdy m' N g r' q' Q') (hf : FullG g q) (hf' : FullG g q') (ht : ∀ (j : Nat) (t : Int), gtD q j = (3, t) ↔ gtD q' j = (3, t)) {p : Nat} (hp : 2 ≤ (gtD q p).1) : gtD q' p = gtD q p := by
  rcases h.tgN hp with e | e
  · rw [e]; exact free_same h h' hf hf' ht e
  · rw [e]; exact (ht p _).1 e
theorem rnTo_cg {q q' : List Tg} : ∀ n, (∀ p, p < n → 2 ≤ (gtD q p).1 ∨ 2 ≤ (gtD q' p).1 → gtD q' p = gtD q p) → rnTo q' n = rnTo q n
  | 0, _ => rfl
  | n + 1, h => by
    have ih := rnTo_cg n fun p p1 => h p (by omega)
    unfold rnTo at ih ⊢
    rw [List.range_succ, List.filter_append, List.map_append, List.filter_append, List.map_append, ih]
    congr 1
    by_cases c : 2 ≤ (gtD q n).1 ∨ 2 ≤ (gtD q' n).1
    · have e := h n (by omega) c
      by_cases c2 : 2 ≤ (gtD q n).1
      · have c3 : 2 ≤ (gtD q' n).1 := by rw [e]; exact c2
        have e1 : List.filter (fun p => decide (2 ≤ (gtD q' p).1)) [n] = [n] := List.filter_cons_of_pos (by simpa using c3)
        have e2 : List.filter (fun p => decide (2 ≤ (gtD q p).1)) [n] = [n] := List.filter_cons_of_pos (by simpa using c2)
        rw [e1, e2]
        show [rnE q' n] = [rnE q n]
        unfold rnE; rw [e]
      · rw [e] at c; omega
    · have e1 : List.filter (fun p => decide (2 ≤ (gtD q' p).1)) [n] = [] := List.filter_cons_of_neg (by simp; omega)
      have e2 : List.filter (fun p => decide (2 ≤ (gtD q p).1)) [n] = [] := List.filter_cons_of_neg (by simp; omega)
      rw [e1, e2]; rfl
theorem runs_same (h : Bdy m N g r q Q) (h' : Bdy m' N g r' q' Q') (hf : FullG g q) (hf' : FullG g q') (ht : ∀ (j : Nat) (t : Int), gtD q j = (3, t) ↔ gtD q' j = (3, t)) : rnTo q' g = rnTo q g :=
  rnTo_cg g fun p _ c => by
    rcases c with c | c
    · exact run_same h h' hf hf' ht c
    · exact (run_same h' h hf' hf (fun j t => (ht j t).symm) c).symm
end
end Go.Proofs.YtojjkjedcafpeaaGreatDoor.K
