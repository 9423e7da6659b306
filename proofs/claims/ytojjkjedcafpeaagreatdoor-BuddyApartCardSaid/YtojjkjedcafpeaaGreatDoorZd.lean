import Derived.Test.YtojjkjedcafpeaaGreatDoorZc
namespace Go.Proofs.YtojjkjedcafpeaaGreatDoor.K
set_option linter.unusedSimpArgs false
set_option linter.unusedVariables false
theorem filM_cmr (m : AM) (a n : Int) (c : UInt8) : (filM m a n c).cap = m.cap ∧ (filM m a n c).com = m.com ∧ rfB (filM m a n c) = rfB m := by unfold filM; split <;> exact ⟨rfl, rfl, rfl⟩
theorem filM_frr (m : AM) {a n : Int} {c : UInt8} (h0 : 0 ≤ a) (hn : 0 ≤ n) {y : Nat} (hy : (y : Int) < a ∨ a + n ≤ (y : Int)) : (filM m a n c).mem y = m.mem y := by
  unfold filM filA filF
  split
  · show (if _ then _ else _) = _
    rw [if_neg (by omega)]
  · rfl
theorem putM_frr {m : AM} {b : Int} {t : ByteArray} {y : Nat} (hb : 0 ≤ b) (hy : (y : Int) < b ∨ b + (t.size : Int) ≤ (y : Int)) : (putM m b t).mem y = m.mem y := by
  unfold putM
  split
  · show laidF m.mem b.toNat t.size t y = m.mem y
    unfold laidF
    rw [if_neg (by omega)]
  · rfl
theorem stM8_frr (m : AM) {a x : Int} (h0 : 0 ≤ a) {y : Nat} (hy : (y : Int) < a ∨ a + 8 ≤ (y : Int)) : (stM m a 8 x).mem y = m.mem y := by
  unfold stM
  split
  · refine putM_frr h0 ?_
    rw [bs_size]; exact hy
  · rfl
section
variable {m mo m' : AM} {N g : Nat} {r r2 : Int} {q q0 q2 : List Tg} {Q Q2 : Nat → List Int}
theorem Bdy.poke (h : Bdy m N g r q Q) {p : Nat} {t : Int} (hp : gtD q p = (3, t)) (hc : m'.cap = m.cap) (hm : m'.com = m.com) (hrf : rfB m' = rfB m) (hy : ∀ y : Nat, y < 4096 * (p + 1) ∨ 4096 * (p + 1 + wdQ q p) ≤ y → m'.mem y = m.mem y) : Bdy m' N g r q Q := by
  have b := h.bm;have h3 : 2 ≤ (gtD q p).1 := by rw [hp]; show (2 : Int) ≤ 3; decide
  refine ⟨b.keep hc hm hrf (b.lq.same (fun a k hx => (thr_same hc hm a k).trans hx) fun y hq => hy y ?_) b.mp (fun y _ h2 => hy y (.inl (by omega))), h.fr, h.tl, h.nf⟩
  rcases hq with hq | ⟨k, a, hk, ha, a1, a2⟩
  · exact .inl (by omega)
  · obtain ⟨s, s1, rfl⟩ := (h.fr k hk a).1 ha
    have s2 : 2 ≤ (gtD q s).1 := by rw [s1]; exact Int.le_refl 2
    unfold bpA at a1 a2
    rcases Nat.lt_trichotomy s p with c | c | c
    · exact .inl (by omega)
    · subst c; rw [s1] at hp; have := congrArg Prod.fst hp; simp at this
    · have := h.tl.apart h3 s2 c
      exact .inr (by omega)
theorem Bdy.tkB (h : Bdy m N g r q Q) {p : Nat} {t : Int} (hp : gtD q p = (3, t)) : 0 ≤ t ∧ t ≤ 10 ∧ p + wdQ q p ≤ g ∧ wdQ q p = 2 ^ t.toNat ∧ 0 < wdQ q p ∧ g ≤ 79 := by
  have h3 : 2 ≤ (gtD q p).1 := by rw [hp]; show (2 : Int) ≤ 3; decide
  obtain ⟨a1, a2, a3, a4, a5⟩ := h.tl.st p h3;have hw : 0 < wdQ q p := Nat.pow_pos (by decide);have := h.bm.nb;have := h.bm.cn;rw [hp] at a1 a2;exact ⟨a1, a2, a4, by unfold wdQ; rw [hp], hw, by omega⟩
theorem Bdy.thrT (h : Bdy m N g r q Q) {p : Nat} (hp : p < g) : thr m (bpA p) 8 = true := h.bm.thr (by unfold bpA; omega) (by decide) (by unfold bpA; omega)
theorem bpA_rng (p : Nat) : 0 ≤ bpA p ∧ 4096 ≤ bpA p ∧ bpA p = 4096 * ((p : Int) + 1) := by unfold bpA; omega
theorem Bdy.fillT (h : Bdy m N g r q Q) {p : Nat} {t n : Int} (hp : gtD q p = (3, t)) (hn : n = 4096 * 2 ^ t.toNat) (c : UInt8) : Bdy (filM m (bpA p) n c) N g r q Q ∧ chkE m (bpA p) n = 0 ∧ (∀ y : Nat, y < 4096 * (p + 1) ∨ 4096 * (p + 1 + wdQ q p) ≤ y → (filM m (bpA p) n c).mem y = m.mem y) := by
  obtain ⟨b1, b2, b3, b4, b5, b6⟩ := h.tkB hp;obtain ⟨c1, c2, c3⟩ := filM_cmr m (bpA p) n c;have hn2 : n = 4096 * ((wdQ q p : Nat) : Int) := by rw [hn, b4, Int.natCast_pow]; rfl
  obtain ⟨p1, p2, p3⟩ := bpA_rng p;have hf : ∀ y : Nat, y < 4096 * (p + 1) ∨ 4096 * (p + 1 + wdQ q p) ≤ y → (filM m (bpA p) n c).mem y = m.mem y := fun y hy => filM_frr m (by omega) (by omega) (by omega)
  refine ⟨h.poke hp c1 c2 c3 hf, ?_, hf⟩
  unfold chkE
  rw [if_pos (h.bm.thr (by omega) (by omega) (by omega))]
theorem Bdy.markT (h : Bdy m N g r q Q) {p : Nat} {t : Int} (hp : gtD q p = (3, t)) : Bdy (stM m (bpA p) 8 (bpA p)) N g r q Q ∧ ldV (stM m (bpA p) 8 (bpA p)) (bpA p) 8 = bpA p ∧ (∀ y : Nat, y < 4096 * (p + 1) ∨ 4096 * (p + 1 + wdQ q p) ≤ y → (stM m (bpA p) 8 (bpA p)).mem y = m.mem y) := by
  obtain ⟨b1, b2, b3, b4, b5, b6⟩ := h.tkB hp;obtain ⟨p1, p2, p3⟩ := bpA_rng p;obtain ⟨c1, c2⟩ := stM_com m (bpA p) 8 (bpA p);have hf : ∀ y : Nat, y < 4096 * (p + 1) ∨ 4096 * (p + 1 + wdQ q p) ≤ y → (stM m (bpA p) 8 (bpA p)).mem y = m.mem y := fun y hy => stM8_frr m (by omega) (by omega)
  refine ⟨h.poke hp c1 c2 (stM_rf m _ _ _) hf, ?_, hf⟩;rw [ld_st (by decide) (h.thrT (by omega)) p1];exact Int.emod_eq_of_lt p1 (by show bpA p < 2 ^ (8 * 8); omega)
def TkI (m : AM) (q0 q : List Tg) (L : List Rn) : Prop := ∀ (p : Nat) (t : Int), gtD q p = (3, t) → gtD q0 p = (3, t) ∨ rnE q p ∈ L → ldV m (bpA p) 8 = bpA p
def TkS (m : AM) (q : List Tg) : Prop := ∀ (p : Nat) (t : Int), gtD q p = (3, t) → ldV m (bpA p) 8 = bpA p
theorem TkI.start (hs : TkS m q0) (h0 : Bdy m N g r q0 Q) {g2 : Nat} (h : Bdy mo N g2 r2 q Q2) (hk : KeepB m mo q0 q) : TkI mo q0 q ((rnTo q g2).take 0) := fun p t h3 h4 => by
  rcases h4 with h4 | h4
  · obtain ⟨b1, b2, b3, b4, b5, b6⟩ := h.tkB h3
    obtain ⟨d1, d2, d3, d4, d5, d6⟩ := h0.tkB h4;refine Eq.trans (ldV_keep (h0.thrT (by omega)) (h.thrT (by omega)) fun y y1 y2 => ?_) (hs p t h4)
    unfold bpA at y1 y2
    exact hk p t h4 h3 y (by omega) (by omega)
  · cases h4
theorem TkS.zero (m : AM) (N : Nat) : TkS m (List.replicate N ((0, 0) : Tg)) := fun p t h => absurd h (tk_zero N p t)
theorem TkI.end_ {x : Int} (h : Bdy m N g r q Q) (hi : TkI m q0 q ((rnTo q g).take x.toNat)) (hx : ((rnTo q g).length : Int) ≤ x) : TkS m q := fun p t h3 => by
  obtain ⟨b1, b2, b3, b4, b5, b6⟩ := h.tkB h3;refine hi p t h3 (.inr ?_);rw [List.take_of_length_le (by omega)];exact rnTo_in (by omega) (by rw [h3]; show (2 : Int) ≤ 3; decide)
section
variable {x : Int}
theorem take_1 {L : List Rn} (h0 : 0 ≤ x) (h1 : x < (L.length : Int)) : L.take (x + 1).toNat = L.take x.toNat ++ [gtD L x.toNat] := by
  have hlt : x.toNat < L.length := by omega
  rw [show (x + 1).toNat = x.toNat + 1 by omega, List.take_succ_eq_append_getElem hlt, ← gtD_lt hlt]
theorem TkI.skip {G : Nat} (hi : TkI m q0 q ((rnTo q g).take x.toNat)) (h0 : 0 ≤ x) (h1 : x < ((rnTo q g).length : Int)) (hn : (gtD (rnTo q g) x.toNat).2.2 = false ∨ inR (rnTo q0 G) (gtD (rnTo q g) x.toNat).1 (gtD (rnTo q g) x.toNat).2.1 (gtD (rnTo q g) x.toNat).2.2 = true) : TkI m q0 q ((rnTo q g).take (x + 1).toNat) := fun p t h3 h4 => by
  rcases h4 with h4 | h4
  · exact hi p t h3 (.inl h4)
  · rw [take_1 h0 h1] at h4
    rcases List.mem_append.1 h4 with h5 | h5
    · exact hi p t h3 (.inr h5)
    · have e := List.mem_singleton.1 h5
      rw [← e] at hn;have e3 : (rnE q p).2.2 = true := by unfold rnE; rw [h3]; rfl
      rcases hn with hn | hn
      · rw [e3] at hn; cases hn
      · obtain ⟨s, s1, s2, s3⟩ := rnTo_mem (mem_inR hn)
        have e1 := congrArg Prod.fst s3;have e2 := congrArg (fun z => z.2.1) s3;have e4 := congrArg (fun z => z.2.2) s3;have : p = s := bpA_inj e1;subst this
        have e5 : (gtD q0 p).1 = 3 := by
          have e6 : ((gtD q0 p).1 == 3) = true := by rw [← e3]; exact e4.symm
          exact eq_of_beq e6
        refine hi p t h3 (.inl (Prod.ext e5 ?_))
        show (gtD q0 p).2 = t
        have e7 : (gtD q p).2 = (gtD q0 p).2 := e2;rw [← e7, h3]
theorem TkI.mark (h : Bdy m N g r q Q) (hi : TkI m q0 q ((rnTo q g).take x.toNat)) (h0 : 0 ≤ x) (h1 : x < ((rnTo q g).length : Int)) (hn : (gtD (rnTo q g) x.toNat).2.2 = true) {a n : Int} (ha : a = (gtD (rnTo q g) x.toNat).1) (hn2 : n = 4096 * 2 ^ (gtD (rnTo q g) x.toNat).2.1.toNat) (c : UInt8) :
    Bdy (stM (filM m a n c) a 8 a) N g r q Q ∧ TkI (stM (filM m a n c) a 8 a) q0 q ((rnTo q g).take (x + 1).toNat) ∧ chkE m a n = 0 ∧ 0 ≤ a ∧ a ≤ 1000000 := by
  obtain ⟨s, s1, s2, s3⟩ := rn_at x.toNat (q := q) (g := g) (by omega);rw [s3] at hn ha hn2;have e3 : gtD q s = (3, (gtD q s).2) := Prod.ext (by have h9 : ((gtD q s).1 == 3) = true := hn; exact eq_of_beq h9) rfl;have ha : a = bpA s := ha;subst ha;have hn2 : n = 4096 * 2 ^ (gtD q s).2.toNat := hn2;obtain ⟨f1, f2, f3⟩ := h.fillT e3 hn2 c;obtain ⟨k1, k2, k3⟩ := f1.markT e3;obtain ⟨b1, b2, b3, b4, b5, b6⟩ := h.tkB e3;refine ⟨k1, fun p t h3 h4 => ?_, f2, by unfold bpA; omega, by unfold bpA; omega⟩
  by_cases hp : p = s
  · subst hp; exact k2
  · have h5 : gtD q0 p = (3, t) ∨ rnE q p ∈ (rnTo q g).take x.toNat := by
      rcases h4 with h4 | h4
      · exact .inl h4
      · rw [take_1 h0 h1] at h4
        rcases List.mem_append.1 h4 with h5 | h5
        · exact .inr h5
        · have e := List.mem_singleton.1 h5
          rw [s3] at e;exact absurd (bpA_inj (congrArg Prod.fst e)) hp
    have h6 := hi p t h3 h5;have hp2 : 2 ≤ (gtD q p).1 := by rw [h3]; show (2 : Int) ≤ 3; decide
    obtain ⟨d1, d2, d3, d4, d5, d6⟩ := h.tkB h3;refine Eq.trans (ldV_keep (h.thrT (by omega)) (k1.thrT (by omega)) fun y y1 y2 => ?_) h6
    unfold bpA at y1 y2
    have hy : y < 4096 * (s + 1) ∨ 4096 * (s + 1 + wdQ q s) ≤ y := by
      rcases Nat.lt_or_ge p s with c | c
      · exact .inl (by omega)
      · have := h.tl.apart s2 hp2 (by omega)
        exact .inr (by omega)
    exact (k3 y hy).trans (f3 y hy)
end
structure RnI (q : List Tg) (g : Nat) (x : Int) (y : Nat) : Prop where
  up : rnUp q y
  le : y ≤ g
  tk : (rnTo q g).take x.toNat = rnTo q y
  bk : 0 < x → ∃ s, 2 ≤ (gtD q s).1 ∧ s + wdQ q s = y ∧ gtD (rnTo q g) (x - 1).toNat = rnE q s
theorem rnTo_pre {q : List Tg} (x : Nat) : ∀ n, ∃ L, rnTo q (x + n) = rnTo q x ++ L
  | 0 => ⟨[], by simp⟩
  | n + 1 => by
    obtain ⟨L, e⟩ := rnTo_pre (q := q) x n;rw [← Nat.add_assoc]
    unfold rnTo at e ⊢
    rw [List.range_succ, List.filter_append, List.map_append, e];exact ⟨_, List.append_assoc _ _ _⟩
theorem RnI.zero (q : List Tg) (g : Nat) : RnI q g 0 0 := ⟨rnUp_0 q, Nat.zero_le _, rfl, fun h => absurd h (by decide)⟩
theorem RnI.st (h : Bdy m N g r q Q) (hf : FullG g q) {x : Int} {y : Nat} (hi : RnI q g x y) (h0 : 0 ≤ x) (h1 : x < ((rnTo q g).length : Int)) :
    gtD (rnTo q g) x.toNat = rnE q y ∧ 2 ≤ (gtD q y).1 ∧ y + wdQ q y ≤ g ∧ RnI q g (x + 1) (y + wdQ q y) ∧ y % wdQ q y = 0 := by
  have hyg : y < g := by
    rcases Nat.lt_or_ge y g with c | c
    · exact c
    · exfalso
      have hyg : y = g := by have := hi.le; omega
      have e := congrArg List.length hi.tk;rw [hyg, List.length_take] at e; omega
  have hyN := h.tl.lt (hf y hyg);have hl := h.tl.len;obtain ⟨r1, r2, r3, r4⟩ := h.bm.tg.rng y (by omega);obtain ⟨a1, a2, a3, a4⟩ := rn_step h.tl hyg (hf y hyg) r1 hi.up;obtain ⟨L, eL⟩ := rnTo_pre (q := q) (y + wdQ q y) (g - (y + wdQ q y));rw [show y + wdQ q y + (g - (y + wdQ q y)) = g by omega, a2] at eL;have el : (rnTo q y).length = x.toNat := by rw [← hi.tk, List.length_take]; omega
  have e1 : gtD (rnTo q g) x.toNat = rnE q y := by
    rw [eL]; unfold gtD;rw [List.getD_eq_getElem?_getD, List.append_assoc, List.getElem?_append_right (by omega), el, Nat.sub_self]; rfl
  refine ⟨e1, a1, a4, ⟨a3, a4, ?_, fun _ => ⟨y, a1, rfl, by rw [show x + 1 - 1 = x by omega]; exact e1⟩⟩, (h.tl.st y a1).2.2.1⟩;rw [take_1 h0 h1, hi.tk, e1, a2]
theorem RnI.end_ (h : Bdy m N g r q Q) (hf : FullG g q) {x : Int} {y : Nat} (hi : RnI q g x y) (hx : ((rnTo q g).length : Int) ≤ x) : y = g := by
  rcases Nat.lt_or_ge y g with c | c
  · exfalso
    have hyN := h.tl.lt (hf y c);have hl := h.tl.len;obtain ⟨r1, r2, r3, r4⟩ := h.bm.tg.rng y (by omega);obtain ⟨a1, a2, a3, a4⟩ := rn_step h.tl c (hf y c) r1 hi.up;obtain ⟨L, eL⟩ := rnTo_pre (q := q) (y + wdQ q y) (g - (y + wdQ q y));rw [show y + wdQ q y + (g - (y + wdQ q y)) = g by omega, a2] at eL;have e := hi.tk;rw [List.take_of_length_le (by omega), eL, List.append_assoc] at e;have := congrArg List.length e
    simp at this
  · have := hi.le; omega
theorem RnI.nf (h : Bdy m N g r q Q) (hf : FullG g q) {x : Int} {y : Nat} (hi : RnI q g x y) (h0 : 0 < x) (h1 : x < ((rnTo q g).length : Int)) (t1 : (gtD (rnTo q g) x.toNat).2.2 = false) (t2 : (gtD (rnTo q g) (x - 1).toNat).2.2 = false) (ho : (gtD (rnTo q g) (x - 1).toNat).2.1 = (gtD (rnTo q g) x.toNat).2.1) (hm : (gtD (rnTo q g) x.toNat).2.1 < 10) {n : Int} (hn : n = 4096 * 2 ^ (gtD (rnTo q g) x.toNat).2.1.toNat) :
    ((gtD (rnTo q g) x.toNat).1 - n - 4096) % (2 * n) ≠ 0 := fun hz => by
  obtain ⟨e1, e2, e3, e4, e5⟩ := hi.st h hf (by omega) h1;obtain ⟨s, s1, s2, s3⟩ := hi.bk h0;rw [e1] at t1 ho hm hn hz;rw [s3] at t2 ho;have t1 : ((gtD q y).1 == 3) = false := t1;have t2 : ((gtD q s).1 == 3) = false := t2;have ho : (gtD q s).2 = (gtD q y).2 := ho;have hm : (gtD q y).2 < 10 := hm;have hn : n = 4096 * 2 ^ (gtD q y).2.toNat := hn;have hz : (bpA y - n - 4096) % (2 * n) = 0 := hz;have f1 := h.tgN e2;have f2 := h.tgN s1
  generalize hk : (gtD q y).2.toNat = k at *
  rw [ho, hk] at f2;have f1 : gtD q y = (2, (k : Int)) := f1.resolve_right fun e => by rw [e] at t1; simp at t1
  have f2 : gtD q s = (2, (k : Int)) := f2.resolve_right fun e => by rw [e] at t2; simp at t2
  have hw : wdQ q s = 2 ^ k := by unfold wdQ; rw [f2]; rfl
  have hk10 : k < 10 := by rw [f1] at hm; dsimp only at hm; omega
  refine h.nf s k f2 hk10 ?_ (by rw [← hw, s2]; exact f1)
  have e6 : bpA y - n - 4096 = 4096 * (s : Int) := by
    have : ((2 ^ k : Nat) : Int) = 2 ^ k := by rw [Int.natCast_pow]; rfl
    unfold bpA; rw [hn, ← this]; omega
  have e7 : 2 * n = 4096 * ((2 ^ (k + 1) : Nat) : Int) := by
    rw [hn, Int.natCast_pow, Int.pow_succ]
    show _ = (4096 : Int) * (2 ^ k * 2); omega
  rw [e6, e7, Int.mul_emod_mul_of_pos _ _ (by decide)] at hz;have : ((s % 2 ^ (k + 1) : Nat) : Int) = 0 := by rw [Int.natCast_emod]; omega
  omega
end
end Go.Proofs.YtojjkjedcafpeaaGreatDoor.K
