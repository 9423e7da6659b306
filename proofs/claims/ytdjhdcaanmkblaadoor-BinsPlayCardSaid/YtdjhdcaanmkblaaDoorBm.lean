/-
  Bins beside the document's: plainly.
-/
import Derived.Test.YtdjhdcaanmkblaaDoorJg
import Derived.Test.YtdjhdcaanmkblaaDoorLm
namespace Go.Proofs.YtdjhdcaanmkblaaDoor.K
set_option linter.unusedSimpArgs false
set_option linter.unusedVariables false

/-! ## Five lists that are held -/
def l5F (E : Nat → HdI) (k : Nat) : Prop := ∃ i, i < 5 ∧ (E i).2.2.length ≠ 0 ∧ ∃ o, (E i).1 = some ⟨k, o, none⟩
def l5R (b : Nat) (F : Nat → Prop) (E : Nat → HdI) : Res := ⟨l5F E, fun w => ∀ i, i < 5 → rgH w (E i), fun w h k ⟨i, hi, h0, o, ho⟩ => by
  rcases h i hi with e | ⟨g, o2, h1, h2⟩
  · exact absurd e h0
  · rw [ho] at h1; cases h1; exact h2.lt, fun w w' h he i hi => by
  rcases h i hi with e | ⟨g, o2, h1, h2⟩
  · exact .inl e
  · by_cases h0 : (E i).2.2.length = 0
    · exact .inl h0
    · exact .inr ⟨g, o2, h1, h2.congr (he g ⟨i, hi, h0, o2, h1⟩)⟩⟩
section
variable {c : Cx} {H : Heap} {A : List Res} {w : World}
theorem WS.l5New (h : WS c H A w) (b : Nat) (F : Nat → Prop) (E : Nat → HdI) (hE : ∀ i, i < 5 → (E i).2.2.length = 0) : WS c H (A ++ [l5R b F E]) w :=
  h.newA (r := l5R b F E) (fun i hi => .inl (hE i hi)) ((Fr.refl w no).to (fun k hk => hk.elim) (fun k hk => by obtain ⟨i, hi, h0, _⟩ := hk; exact absurd (hE i hi) h0))
theorem WS.l5Get (h : WS c H A w) (j : Nat) {b : Nat} {F : Nat → Prop} {E : Nat → HdI} (hj : A[j]? = some (l5R b F E) := by rfl) : ∀ i, i < 5 → rgH w (E i) := h.ars.each _ (List.mem_of_getElem? hj)
/-- A list of its own becomes one of the five. -/
theorem WS.l5Turn {r : Res} {b e cp : Nat} {F F2 : Nat → Prop} {E E2 : Nat → HdI} {ao : Option Addr} {nl : List Int} (h : WS c H [r, l5R b F E, grR e 1 (.slice ao nl.length cp) F2 (nl.length, ints nl 0)] w) (hE : ∀ i, i < 5 → E2 i = E i ∨ E2 i = (ao, cp, nl)) (F' : Nat → Prop) : WS c H [r, l5R b F' E2] w := by
  have hr := h.ars.each r (by simp)
  have hl : ∀ i, i < 5 → rgH w (E i) := h.l5Get 1
  have hg : GrV e 1 w (.slice ao nl.length cp) F2 nl.length (ints nl 0) := h.ars.each (grR e 1 (.slice ao nl.length cp) F2 (nl.length, ints nl 0)) (by simp)
  have ap := h.ars.apart
  rw [List.pairwise_cons, List.pairwise_cons] at ap
  have hn : nl.length = 0 ∨ ∃ g, ao = some ⟨g, 0, none⟩ ∧ HE.holds w g (.fn 0 (0 + nl.length) (ints nl 0)) ∧ F2 g := by
    rcases hg with ⟨_, h0, _⟩ | ⟨g, cap, hv, h0, hh, hle, hF⟩
    · exact .inl h0
    · exact .inr ⟨g, by cases hv; rfl, HE.row_to hh (by omega) (fun _ _ => rfl), (hF g).2 rfl⟩
  have hR : ∀ i, i < 5 → rgH w (E2 i) := fun i hi => by
    rcases hE i hi with q | q
    · rw [q]; exact hl i hi
    · rw [q]
      rcases hn with h0 | ⟨g, h1, h2, _⟩
      · exact .inl h0
      · exact .inr ⟨g, 0, h1, h2⟩
  have hF : ∀ x, l5F E2 x → l5F E x ∨ F2 x := fun x hx => by
    obtain ⟨i, hi, h0, o, ho⟩ := hx
    rcases hE i hi with q | q
    · rw [q] at h0 ho; exact .inl ⟨i, hi, h0, o, ho⟩
    · rw [q] at h0 ho
      rcases hn with h1 | ⟨g, h1, h2, h3⟩
      · exact absurd h1 h0
      · right
        have h1' : (some ⟨g, 0, none⟩ : Option Addr) = some ⟨x, o, none⟩ := h1.symm.trans ho
        cases h1'; exact h3
  have hin : ∀ x, inF [r, l5R b F' E2] x → inF [r, l5R b F E, grR e 1 (.slice ao nl.length cp) F2 (nl.length, ints nl 0)] x := fun x hx => by
    rcases hx with hx | hx | hx
    · exact .inl hx
    · rcases hF x hx with q | q
      · exact .inr (.inl q)
      · exact .inr (.inr (.inl q))
    · exact hx.elim
  refine ⟨h.heap, h.apart, h.mine, fun e' he hk => h.free e' he (hin _ hk), ⟨fun s hs => ?_, ?_⟩, h.fr.to (fun k hk => .inl hk) (fun k hk => h.fr.foot k (hin k hk))⟩
  · rcases List.mem_cons.1 hs with rfl | hs
    · exact hr
    · obtain rfl := List.mem_singleton.1 hs
      exact hR
  · rw [List.pairwise_cons]
    refine ⟨fun s hs x hx hy => ?_, List.pairwise_singleton _ _⟩
    obtain rfl := List.mem_singleton.1 hs
    rcases hF x hy with q | q
    · exact ap.1 (l5R b F _) (List.mem_cons_self) x hx q
    · exact ap.1 (grR e 1 (.slice ao nl.length cp) F2 (nl.length, ints nl 0)) (by simp) x hx q
end
theorem updF_at {α : Type} (E : Nat → α) (k : Nat) (a : α) : updF E k a k = a := by unfold updF; rw [if_pos rfl]
theorem updF_ne {α : Type} (E : Nat → α) {k i : Nat} (a : α) (h : i ≠ k) : updF E k a i = E i := by unfold updF; rw [if_neg h]
theorem updF_or {α : Type} (E : Nat → α) (k : Nat) (a : α) (i : Nat) : updF E k a i = E i ∨ updF E k a i = a := by
  by_cases h : i = k
  · subst h; exact .inr (updF_at E i a)
  · exact .inl (updF_ne E a h)
theorem ints_one (l : List Int) (o x : Nat) : (ints l o x).oneCell' = true := by unfold ints; rfl
theorem ints_catS (l k Lx : List Int) (o q off n : Nat) (ho : off = o + q ∨ n = 0) (hn : n = k.length) (hk : ∀ i, i < k.length → k.getD i 0 = Lx.getD (q + i) 0) : ∀ x, x < (l.length + n) * 1 → catF (ints l 0) (l.length * 1) (fun j => ints Lx o (off + j)) x = ints (l ++ k) 0 x := by
  intro x hx
  unfold catF
  by_cases h1 : x < l.length * 1
  · rw [if_pos h1]
    unfold ints
    rw [Nat.sub_zero, List.getD_eq_getElem?_getD, List.getD_eq_getElem?_getD, List.getElem?_append_left (by omega)]
  · rw [if_neg h1]
    unfold ints
    rw [Nat.sub_zero]
    have e : (l ++ k).getD x 0 = k.getD (x - l.length) 0 := by
      rw [List.getD_eq_getElem?_getD, List.getD_eq_getElem?_getD, List.getElem?_append_right (by omega)]
    rw [e, hk _ (by omega)]
    show Value.int .i64 (Lx.getD (off + (x - l.length * 1) - o) 0) = _
    rcases ho with ho | ho
    · rw [ho, show o + q + (x - l.length * 1) - o = q + (x - l.length) by omega]
    · omega

/-! ## The document's bins -/
def anyB (E : Nat → HdI) (a : Int) : Bool := (((hasM (E 0).2.2 a || hasM (E 1).2.2 a) || hasM (E 2).2.2 a) || hasM (E 3).2.2 a) || hasM (E 4).2.2 a
theorem anyB_no {E : Nat → HdI} {a : Int} (h : anyB E a = false) : ∀ i, i < 5 → a ∉ (E i).2.2 := by
  unfold anyB hasM at h
  simp only [Bool.or_eq_false_iff, decide_eq_false_iff_not] at h
  obtain ⟨⟨⟨⟨h0, h1⟩, h2⟩, h3⟩, h4⟩ := h
  intro i hi
  rcases (by omega : i = 0 ∨ i = 1 ∨ i = 2 ∨ i = 3 ∨ i = 4) with rfl | rfl | rfl | rfl | rfl <;> assumption
theorem anyB_yes {E : Nat → HdI} {a : Int} {i : Nat} (hi : i < 5) (h : hasM (E i).2.2 a = true) : true = anyB E a := by
  unfold anyB
  rcases (by omega : i = 0 ∨ i = 1 ∨ i = 2 ∨ i = 3 ∨ i = 4) with rfl | rfl | rfl | rfl | rfl <;> simp [h]
theorem anyB_none {E : Nat → HdI} {a : Int} (h0 : hasM (E 0).2.2 a = false) (h1 : hasM (E 1).2.2 a = false) (h2 : hasM (E 2).2.2 a = false) (h3 : hasM (E 3).2.2 a = false) (h4 : hasM (E 4).2.2 a = false) : false = anyB E a := by
  unfold anyB; rw [h0, h1, h2, h3, h4]; rfl
/-- The first bin from an order on that has one. -/
def lstB (Q : Nat → List Int) (o : Int) : Int × Bool :=
  if o ≤ 0 ∧ 0 < (Q 0).length then (0, true) else if o ≤ 1 ∧ 0 < (Q 1).length then (1, true) else if o ≤ 2 ∧ 0 < (Q 2).length then (2, true) else if o ≤ 3 ∧ 0 < (Q 3).length then (3, true) else if o ≤ 4 ∧ 0 < (Q 4).length then (4, true) else (0, false)
theorem lstB_no {Q : Nat → List Int} {o : Int} (h : ∀ j : Nat, j < 5 → o ≤ (j : Int) → (Q j).length = 0) : lstB Q o = (0, false) := by
  have h0 := h 0 (by omega); have h1 := h 1 (by omega); have h2 := h 2 (by omega); have h3 := h 3 (by omega); have h4 := h 4 (by omega)
  unfold lstB
  rw [if_neg (by omega), if_neg (by omega), if_neg (by omega), if_neg (by omega), if_neg (by omega)]
theorem lstB_yes {Q : Nat → List Int} {o x : Int} (h0 : 0 ≤ x) (h4 : x ≤ 4) (ho : o ≤ x) (hx : 0 < (Q x.toNat).length) (h : ∀ j : Nat, (j : Int) < x → o ≤ (j : Int) → (Q j).length = 0) : lstB Q o = (x, true) := by
  have e0 := h 0; have e1 := h 1; have e2 := h 2; have e3 := h 3
  unfold lstB
  rcases (by omega : x = 0 ∨ x = 1 ∨ x = 2 ∨ x = 3 ∨ x = 4) with rfl | rfl | rfl | rfl | rfl
  · rw [if_pos ⟨by omega, hx⟩]
  · rw [if_neg (by omega), if_pos ⟨by omega, hx⟩]
  · rw [if_neg (by omega), if_neg (by omega), if_pos ⟨by omega, hx⟩]
  · rw [if_neg (by omega), if_neg (by omega), if_neg (by omega), if_pos ⟨by omega, hx⟩]
  · rw [if_neg (by omega), if_neg (by omega), if_neg (by omega), if_neg (by omega), if_pos ⟨by omega, hx⟩]
def cntB (Q : Nat → List Int) : Int := (((((Q 0).length : Int) + 2 * ((Q 1).length : Int)) + 4 * ((Q 2).length : Int)) + 8 * ((Q 3).length : Int)) + 16 * ((Q 4).length : Int)
def popS (E : Nat → HdI) (k : Int) : Bool := decide (0 ≤ k ∧ k ≤ 4 ∧ (E k.toNat).2.2.length ≠ 0)
def popA (E : Nat → HdI) (k : Int) : Int := if popS E k then (E k.toNat).2.2.getD 0 0 else 0
def popN (E : Nat → HdI) (k : Int) : List Int := if popS E k then (E k.toNat).2.2.drop 1 else []
def popE (E : Nat → HdI) (k : Int) (h : HdI) : Nat → HdI := if popS E k then updF E k.toNat h else E
theorem popE_or (E : Nat → HdI) (k : Int) (h : HdI) (i : Nat) : popE E k h i = E i ∨ popE E k h i = h := by
  unfold popE; split
  · exact updF_or _ _ _ _
  · exact .inl rfl
theorem pop_no {E : Nat → HdI} {k : Int} (h : popS E k = false) : popA E k = 0 ∧ popN E k = [] ∧ ∀ hd, popE E k hd = E := by
  unfold popA popN popE; rw [h]; exact ⟨rfl, rfl, fun _ => rfl⟩
theorem pop_yes {E : Nat → HdI} {k : Int} (h : popS E k = true) : popA E k = (E k.toNat).2.2.getD 0 0 ∧ popN E k = (E k.toNat).2.2.drop 1 ∧ ∀ hd, popE E k hd = updF E k.toNat hd := by
  unfold popA popN popE; rw [h]; exact ⟨rfl, rfl, fun _ => rfl⟩

theorem popE_cap {E : Nat → HdI} {k : Int} {h : HdI} (hE : ∀ i, i < 5 → (E i).2.2.length ≤ (E i).2.1) (hh : h.2.2.length ≤ h.2.1) : ∀ i, i < 5 → (popE E k h i).2.2.length ≤ (popE E k h i).2.1 := fun i hi => by
  rcases popE_or E k h i with q | q <;> rw [q]
  · exact hE i hi
  · exact hh
theorem updF_cap {E : Nat → HdI} {k : Nat} {h : HdI} (hE : ∀ i, i < 5 → (E i).2.2.length ≤ (E i).2.1) (hh : h.2.2.length ≤ h.2.1) : ∀ i, i < 5 → (updF E k h i).2.2.length ≤ (updF E k h i).2.1 := fun i hi => by
  rcases updF_or E k h i with q | q <;> rw [q]
  · exact hE i hi
  · exact hh
theorem WS.grCap {c : Cx} {H : Heap} {A : List Res} {w : World} (h : WS c H A w) (j : Nat) {e sz m cp : Nat} {ao : Option Addr} {F : Nat → Prop} {f : Nat → Value} (hj : A[j]? = some (grR e sz (.slice ao m cp) F (m, f)) := by rfl) : m ≤ cp := by
  have hg : GrV e sz w (.slice ao m cp) F m f := h.ars.each _ (List.mem_of_getElem? hj)
  rcases hg with ⟨_, h0, _⟩ | ⟨g, cap, hv, _, _, hle, _⟩
  · have h0 : m = 0 := h0
    omega
  · cases hv; exact hle

/-! ## Chains -/
def PgB (x : Int) : Prop := ∃ j : Nat, j < 11 ∧ x = 4096 * ((j : Int) + 1)
def ChB (m : AM) (k : Int) : Int → List Int → Prop
  | a, [] => a = 0
  | a, x :: L => a = x ∧ PgB x ∧ rdIs m x k 0 (rdNx m x) ∧ ChB m k (rdNx m x) L
section
variable {m m' : AM} {k a : Int} {L : List Int}
theorem PgB.rng {x : Int} (h : PgB x) : 4096 ≤ x ∧ x % 4096 = 0 ∧ x + 32 ≤ 49152 := by obtain ⟨j, h1, rfl⟩ := h; omega
theorem chB_0 (h : ChB m k 0 L) : L = [] := by
  cases L with
  | nil => rfl
  | cons x L => have := h.2.1.rng; have := h.1; omega
theorem chB_ne (h : ChB m k a L) (ha : a ≠ 0) : L = a :: L.tail ∧ ChB m k (rdNx m a) L.tail ∧ PgB a ∧ rdIs m a k 0 (rdNx m a) := by
  cases L with
  | nil => exact absurd h ha
  | cons x L => obtain ⟨rfl, h2, h3, h4⟩ := h; exact ⟨rfl, h4, h2, h3⟩
theorem chB_mem (h : ChB m k a L) : ∀ x, x ∈ L → PgB x ∧ rdIs m x k 0 (rdNx m x) := by
  induction L generalizing a with
  | nil => intro x hx; cases hx
  | cons y L ih =>
    obtain ⟨_, h2, h3, h4⟩ := h
    intro x hx
    rcases List.mem_cons.1 hx with rfl | hx
    · exact ⟨h2, h3⟩
    · exact ih h4 x hx
theorem chB_uniq {L2 : List Int} (h : ChB m k a L) (h2 : ChB m k a L2) : L = L2 := by
  induction L generalizing a L2 with
  | nil => have h : a = 0 := h; subst h; exact (chB_0 h2).symm
  | cons x L ih =>
    obtain ⟨rfl, p, _, h4⟩ := h
    have hp := p.rng
    obtain ⟨e, h5, _⟩ := chB_ne h2 (by omega)
    rw [e, ih h4 h5]
theorem chB_suf {A : List Int} {x : Int} (h : ChB m k a (A ++ x :: L)) : ChB m k (rdNx m x) L := by
  induction A generalizing a with
  | nil => exact h.2.2.2
  | cons y A ih => exact ih h.2.2.2
theorem chB_nd (h : ChB m k a (a :: L)) : a ∉ L := fun hm => by
  obtain ⟨A, B, e⟩ := List.append_of_mem hm
  have h1 := h.2.2.2
  have h2 := h1
  rw [e] at h2
  have h3 := chB_uniq h1 (chB_suf h2)
  have := congrArg List.length e
  rw [h3] at this
  simp at this
  omega
theorem ChB.keep (h : ChB m k a L) (hc : m.cap = bBase.cap) (hm : m.com = bBase.com) (hc' : m'.cap = m.cap) (hm' : m'.com = m.com) (hy : ∀ x, x ∈ L → ∀ y : Nat, x ≤ (y : Int) → (y : Int) < x + 32 → m'.mem y = m.mem y) : ChB m' k a L := by
  induction L generalizing a with
  | nil => exact h
  | cons x L ih =>
    obtain ⟨h1, h2, h3, h4⟩ := h
    have hr := h2.rng
    have ht := thr_bb hc hm (a := x) (n := 32) (by omega)
    have hk := h3.keep ht hc' hm' (hy x (by simp))
    have hn : rdNx m' x = rdNx m x := (rd_same ht hc' hm' (hy x (by simp))).2.1.2
    refine ⟨h1, h2, ?_, ?_⟩
    · rw [hn]; exact hk
    · rw [hn]; exact ih h4 (fun y hy' => hy y (by simp [hy']))
end
theorem least_up {m : AM} {o z k x : Int} {Q : Nat → List Int} (hch : ∀ j : Nat, j < 5 → ChB m (j : Int) (bnN m o z (j : Int)) (Q j)) (i1 : ∀ j : Nat, (j : Int) < x → k ≤ (j : Int) → (Q j).length = 0) (h0 : 0 ≤ x) (h4 : x ≤ 4) (hb : bnN m o z x = 0) : ∀ j : Nat, (j : Int) < x + 1 → k ≤ (j : Int) → (Q j).length = 0 := fun j h1 h2 => by
  rcases (by omega : (j : Int) < x ∨ (j : Int) = x) with q | q
  · exact i1 j q h2
  · have := hch j (by omega)
    rw [q, hb] at this
    rw [chB_0 this]; rfl
theorem least_yes {m : AM} {o z k x : Int} {Q : Nat → List Int} (hch : ∀ j : Nat, j < 5 → ChB m (j : Int) (bnN m o z (j : Int)) (Q j)) (i1 : ∀ j : Nat, (j : Int) < x → k ≤ (j : Int) → (Q j).length = 0) (h0 : 0 ≤ x) (h4 : x ≤ 4) (hk : k ≤ x) (hb : bnN m o z x ≠ 0) : lstB Q k = (x, true) := by
  refine lstB_yes h0 h4 hk ?_ i1
  have := hch x.toNat (by omega)
  rw [Int.toNat_of_nonneg h0] at this
  rw [(chB_ne this hb).1, List.length_cons]
  omega
/-- Bins, and the document's. -/
structure BSQ (m : AM) (E : Nat → HdI) (N : Nat) : Prop where
  cap : m.cap = bBase.cap
  com : m.com = bBase.com
  ch : ∀ j : Nat, j < 5 → ChB m (j : Int) (bnN m 100 44 (j : Int)) (E j).2.2
  len : ∀ j, j < 5 → (E j).2.2.length ≤ N
section
variable {m : AM} {E : Nat → HdI} {N : Nat}
theorem BSQ.zero : BSQ bBase (fun _ => ((none, 0, []) : HdI)) 0 := by
  have hz : ∀ x, bBase.mem x = 0 := comM_zero (fun _ => rfl) 0 12
  refine ⟨rfl, rfl, fun j hj => ?_, fun j hj => Nat.le_refl _⟩
  show bnN bBase 100 44 (j : Int) = 0
  rw [bn_ld (by omega) (by omega) (by decide), ld_zero hz]
  rfl
theorem BSQ.more {M : Nat} (h : BSQ m E N) (hM : N ≤ M) : BSQ m E M := ⟨h.cap, h.com, h.ch, fun j hj => Nat.le_trans (h.len j hj) hM⟩
theorem BSQ.thr (h : BSQ m E N) {a n : Int} (ha : 0 ≤ a ∧ 0 ≤ n ∧ a + n ≤ 49152) : Go.Proofs.YtdjhdcaanmkblaaDoor.K.thr m a n = true := thr_bb h.cap h.com ha
theorem BSQ.out (h : BSQ m E N) {k : Int} (hk : k < 0 ∨ 4 < k) : ChB m k (bnN m 100 44 k) [] := by
  show bnN m 100 44 k = 0
  unfold bnN; rw [if_pos (.inl hk)]
theorem BSQ.at_ (h : BSQ m E N) {k : Int} (h0 : 0 ≤ k) (h4 : k ≤ 4) : ChB m k (bnN m 100 44 k) (E k.toNat).2.2 := by
  have := h.ch k.toNat (by omega)
  rwa [Int.toNat_of_nonneg h0] at this
/-- A header is written that is in no bin. -/
theorem BSQ.wr (h : BSQ m E N) {j : Nat} {K own : Int} {a : Int} (ha : a = 4096 * ((j : Int) + 1)) (hn : anyB E a = false) : BSQ (wrcM m a K own 0) E N := by
  have hwc := wrcM_com m a K own 0
  have hfar : ∀ y : Nat, (y : Int) < a ∨ a + 32 ≤ (y : Int) → (wrcM m a K own 0).mem y = m.mem y := fun y hy => wrcM_far hy
  generalize wrcM m a K own 0 = m1 at *
  refine ⟨hwc.1.trans h.cap, hwc.2.trans h.com, fun i hi => ?_, h.len⟩
  rw [bn_keep hwc.1 hwc.2 (fun y hy => hfar y (by omega)) (by omega) (by omega)]
  refine (h.ch i hi).keep h.cap h.com hwc.1 hwc.2 fun x hx y y1 y2 => hfar y ?_
  obtain ⟨q, hq, rfl⟩ := (chB_mem (h.ch i hi) x hx).1
  have hne : (4096 * ((q : Int) + 1)) ≠ a := fun e => anyB_no hn i hi (e ▸ hx)
  omega
/-- One is put in. -/
theorem BSQ.push (h : BSQ m E N) {j : Nat} {a : Int} (hj : j < 13) (ha : a = 4096 * ((j : Int) + 1)) (hn : anyB E a = false) (he : rdE m a = 0) (ho : ¬ 4 < rdOrd m a) (hw : rdOwn m a = 0) :
    bpE m 100 44 a = 0 ∧ ∀ hd : HdI, hd.2.2 = a :: (E (rdOrd m a).toNat).2.2 → BSQ (bpM m 100 44 a) (updF E (rdOrd m a).toNat hd) (N + 1) := by
  have htr : Go.Proofs.YtdjhdcaanmkblaaDoor.K.thr m a 32 = true := by
    unfold rdE at he
    cases ht : Go.Proofs.YtdjhdcaanmkblaaDoor.K.thr m a 32 with
    | true => rfl
    | false => rw [ht] at he; simp at he
  have hj2 : j < 11 := by
    rw [thr_same h.cap h.com] at htr
    rcases Nat.lt_or_ge j 11 with q | q
    · exact q
    · exfalso
      rcases (by omega : j = 11 ∨ j = 12) with rfl | rfl
      · rw [ha, show (4096 * (((11 : Nat) : Int) + 1)) = 49152 by decide, show Go.Proofs.YtdjhdcaanmkblaaDoor.K.thr bBase 49152 32 = false by decide +kernel] at htr; cases htr
      · rw [ha, show (4096 * (((12 : Nat) : Int) + 1)) = 53248 by decide, show Go.Proofs.YtdjhdcaanmkblaaDoor.K.thr bBase 53248 32 = false by decide +kernel] at htr; cases htr
  have hok : rdOk m a = true := by
    unfold rdE at he; unfold rdOk
    rw [htr] at he ⊢
    simp only [if_true] at he
    cases hb : badR m a with
    | false => rfl
    | true => rw [hb] at he; simp at he
  have hat : rdAt m a = a := by unfold rdAt; rw [hok]; rfl
  have hor := rdOrd_rng m a
  have hk : 0 ≤ rdOrd m a ∧ rdOrd m a ≤ 4 := ⟨hor.1, by omega⟩
  have hpa : 4096 ≤ a ∧ a % 4096 = 0 ∧ a + 32 ≤ 49152 := by omega
  have hpg : PgB a := ⟨j, hj2, ha⟩
  have hbn := bnN_rng m 100 44 (rdOrd m a)
  have hb0 : 0 ≤ bnN m 100 44 (rdOrd m a) := by
    by_cases q : bnN m 100 44 (rdOrd m a) = 0
    · omega
    · have := (chB_ne (h.at_ hk.1 hk.2) q).2.2.1.rng; omega
  obtain ⟨b1, b2⟩ := bp_5 (m := m) (o := 100) (z := 44) (a := a) (by decide) (by rw [he]; decide) ho (by rw [hw]; decide)
  rw [hat, hw] at b1 b2
  have hchs := h.at_ hk.1 hk.2
  generalize hK : rdOrd m a = K at *
  have hr2 := wr_is (m := m) (nx := bnN m 100 44 K) htr ⟨by omega, hpa.2.1⟩ (ord := K) (by omega) ⟨hb0, hbn.2⟩
  have hwc2 := wrcM_com m a K 0 (bnN m 100 44 K)
  have hfar2 : ∀ y : Nat, (y : Int) < a ∨ a + 32 ≤ (y : Int) → (wrcM m a K 0 (bnN m 100 44 K)).mem y = m.mem y := fun y hy => wrcM_far hy
  generalize wrcM m a K 0 (bnN m 100 44 K) = m2 at *
  have d1 : m2.cap = bBase.cap := hwc2.1.trans h.cap
  have d2 : m2.com = bBase.com := hwc2.2.trans h.com
  have ht2 : Go.Proofs.YtdjhdcaanmkblaaDoor.K.thr m2 (100 + 8 * K) 8 = true := thr_bb d1 d2 (by omega)
  obtain ⟨s1, s2⟩ := vst_at (m := m2) (o := 100) (z := 44) (a := 8 * K) (v := IntKind.wrap .u64 a) ht2 (by omega) (by omega)
  refine ⟨b1.symm.trans s1, fun hd hhd => ?_⟩
  rw [← b2, s2, u64_in (by omega)]
  have hst : ∀ y : Nat, 144 ≤ (y : Int) → (stM m2 (100 + 8 * K) 8 a).mem y = m2.mem y := fun y hy => mem_st rfl ht2 (by omega)
  have hsc := st_com m2 (100 + 8 * K) a
  have hbs : ∀ i : Nat, i < 5 → bnN (stM m2 (100 + 8 * K) 8 a) 100 44 (i : Int) = if (i : Int) = K then a else bnN m 100 44 (i : Int) := fun i hi => by
    rw [bn_st d1 d2 hk.1 hk.2 (by omega) (by omega) (by omega)]
    split
    · rfl
    · exact bn_keep hwc2.1 hwc2.2 (fun y hy => hfar2 y (by omega)) (by omega) (by omega)
  have hfar3 : ∀ x, PgB x → x ≠ a → ∀ y : Nat, x ≤ (y : Int) → (y : Int) < x + 32 → (stM m2 (100 + 8 * K) 8 a).mem y = m.mem y := fun x hx hne y y1 y2 => by
    obtain ⟨q, hq, rfl⟩ := hx
    rw [hst y (by omega), hfar2 y (by omega)]
  have hrs : rdIs (stM m2 (100 + 8 * K) 8 a) a K 0 (bnN m 100 44 K) := hr2.keep (thr_bb d1 d2 (by omega)) hsc.1 hsc.2 fun y y1 y2 => hst y (by omega)
  generalize stM m2 (100 + 8 * K) 8 a = m3 at *
  have f1 : m3.cap = m.cap := hsc.1.trans hwc2.1
  have f2 : m3.com = m.com := hsc.2.trans hwc2.2
  have hold : ∀ i : Nat, i < 5 → ∀ b L, ChB m (i : Int) b L → (∀ x, x ∈ L → x ∈ (E i).2.2) → ChB m3 (i : Int) b L := fun i hi b L hc hs => by
    refine hc.keep h.cap h.com f1 f2 fun x hx => hfar3 x (chB_mem hc x hx).1 fun e => anyB_no hn i hi (e ▸ hs x hx)
  have hnx : rdNx m3 a = bnN m 100 44 K := hrs.1.2.2
  refine ⟨f1.trans h.cap, f2.trans h.com, fun i hi => ?_, fun i hi => ?_⟩
  · rw [hbs i hi]
    by_cases e : i = K.toNat
    · subst e
      have hKi : ((K.toNat : Nat) : Int) = K := Int.toNat_of_nonneg hk.1
      rw [updF_at, hhd, if_pos hKi]
      refine ⟨rfl, hpg, ?_, ?_⟩
      · rw [hnx, hKi]; exact hrs
      · rw [hnx]
        refine hold _ hi _ _ ?_ (fun x hx => hx)
        rw [hKi]; exact hchs
    · rw [updF_ne E hd e, if_neg (by omega)]
      exact hold i hi _ _ (h.ch i hi) (fun x hx => hx)
  · by_cases e : i = K.toNat
    · subst e; rw [updF_at, hhd, List.length_cons]; have := h.len K.toNat hi; omega
    · rw [updF_ne E hd e]; have := h.len i hi; omega
/-- None comes out. -/
theorem BSQ.pop0 (h : BSQ m E N) {k : Int} (hp : popS E k = false) : (bqAt m 100 44 k = 0 ∧ bqOk m 100 44 k = false) ∧ bqM m 100 44 k = m := by
  have hb : bnN m 100 44 k = 0 := by
    by_cases hk : 0 ≤ k ∧ k ≤ 4
    · have := h.at_ hk.1 hk.2
      have hl : (E k.toNat).2.2 = [] := by
        unfold popS at hp
        rw [decide_eq_false_iff_not] at hp
        exact List.eq_nil_of_length_eq_zero (by omega)
      rw [hl] at this; exact this
    · unfold bnN; rw [if_pos (.inl (by omega))]
  obtain ⟨⟨q1, _, _, q4⟩, q5⟩ := bq_no hb
  exact ⟨⟨q1.symm, q4.symm⟩, q5.symm⟩
/-- One comes out. -/
theorem BSQ.pop (h : BSQ m E N) {k : Int} (hp : popS E k = true) : (bqAt m 100 44 k = (E k.toNat).2.2.getD 0 0 ∧ bqOk m 100 44 k = true ∧ bqOrd m 100 44 k = k) ∧
    ∀ hd : HdI, hd.2.2 = (E k.toNat).2.2.drop 1 → BSQ (bqM m 100 44 k) (updF E k.toNat hd) N := by
  unfold popS at hp
  rw [decide_eq_true_iff] at hp
  obtain ⟨h0, h4, hl⟩ := hp
  have hc := h.at_ h0 h4
  have hne : bnN m 100 44 k ≠ 0 := fun e => by rw [e] at hc; exact hl (by rw [chB_0 hc]; rfl)
  obtain ⟨eL, hc2, hpg, hrd⟩ := chB_ne hc hne
  have hlen := h.len k.toNat (by omega)
  obtain ⟨⟨q1, q2, q3, q4⟩, q5⟩ := bq_yes (m := m) (o := 100) (z := 44) (k := k) hne
  have hnd : bnN m 100 44 k ∉ (E k.toNat).2.2.tail := chB_nd (by rw [← eL]; exact hc)
  generalize hA : bnN m 100 44 k = A at *
  obtain ⟨⟨⟨r1, r2⟩, r3, r4⟩, r5⟩ := hrd
  rw [r1] at q1
  rw [r2] at q2
  rw [r3] at q3
  have hpr := hpg.rng
  have hx0 : 0 ≤ rdNx m A ∧ rdNx m A ≤ 9223372036854775807 := by
    have := rdNx_rng m A
    refine ⟨?_, this.2⟩
    by_cases q : rdNx m A = 0
    · omega
    · have := (chB_ne hc2 q).2.2.1.rng; omega
  refine ⟨⟨by rw [← q1, eL]; rfl, q4.symm, q2.symm⟩, fun hd hhd => ?_⟩
  have ht1 : Go.Proofs.YtdjhdcaanmkblaaDoor.K.thr m (100 + 8 * k) 8 = true := h.thr (by omega)
  obtain ⟨s1, s2⟩ := vst_at (m := m) (o := 100) (z := 44) (a := 8 * k) (v := IntKind.wrap .u64 (rdNx m A)) ht1 (by omega) (by omega)
  rw [r1, r2, r3, s2, u64_in (by omega)] at q5
  rw [← q5]
  have hsc := st_com m (100 + 8 * k) (rdNx m A)
  have hst : ∀ y : Nat, 144 ≤ (y : Int) → (stM m (100 + 8 * k) 8 (rdNx m A)).mem y = m.mem y := fun y hy => mem_st rfl ht1 (by omega)
  have hbs : ∀ i : Nat, i < 5 → bnN (stM m (100 + 8 * k) 8 (rdNx m A)) 100 44 (i : Int) = if (i : Int) = k then rdNx m A else bnN m 100 44 (i : Int) := fun i hi => bn_st h.cap h.com h0 h4 hx0 (by omega) (by omega)
  generalize stM m (100 + 8 * k) 8 (rdNx m A) = m2 at *
  have hwc := wrcM_com m2 A k 0 0
  have hfar : ∀ y : Nat, (y : Int) < A ∨ A + 32 ≤ (y : Int) → (wrcM m2 A k 0 0).mem y = m2.mem y := fun y hy => wrcM_far hy
  generalize wrcM m2 A k 0 0 = m3 at *
  have f1 : m3.cap = m.cap := hwc.1.trans hsc.1
  have f2 : m3.com = m.com := hwc.2.trans hsc.2
  have hfar3 : ∀ x, PgB x → x ≠ A → ∀ y : Nat, x ≤ (y : Int) → (y : Int) < x + 32 → m3.mem y = m.mem y := fun x hx hxe y y1 y2 => by
    obtain ⟨q, hq, rfl⟩ := hx
    obtain ⟨q', hq', hA'⟩ := hpg
    rw [hfar y (by omega), hst y (by omega)]
  have hold : ∀ i : Nat, i < 5 → ∀ b L, ChB m (i : Int) b L → A ∉ L → ChB m3 (i : Int) b L := fun i hi b L hc hs =>
    hc.keep h.cap h.com f1 f2 fun x hx => hfar3 x (chB_mem hc x hx).1 fun e => hs (e ▸ hx)
  refine ⟨f1.trans h.cap, f2.trans h.com, fun i hi => ?_, fun i hi => ?_⟩
  · rw [bn_keep hwc.1 hwc.2 (fun y hy => hfar y (by omega)) (by omega) (by omega), hbs i hi]
    by_cases e : i = k.toNat
    · subst e
      have hKi : ((k.toNat : Nat) : Int) = k := Int.toNat_of_nonneg h0
      rw [updF_at, hhd, if_pos hKi, List.drop_one]
      refine hold _ hi _ _ ?_ hnd
      rw [hKi]; exact hc2
    · rw [updF_ne E hd e, if_neg (by omega)]
      refine hold i hi _ _ (h.ch i hi) fun hm => ?_
      have := (chB_mem (h.ch i hi) A hm).2.1.1.2
      rw [r2] at this
      omega
  · by_cases e : i = k.toNat
    · subst e; rw [updF_at, hhd, List.length_drop]; omega
    · rw [updF_ne E hd e]; exact h.len i hi
theorem BSQ.popF (h : BSQ m E N) (k : Int) : bqOk m 100 44 k = popS E k ∧ bqAt m 100 44 k = popA E k ∧ (bqOk m 100 44 k && (bqOrd m 100 44 k != k)) = false ∧ ∀ hd : HdI, hd.2.2 = popN E k → BSQ (bqM m 100 44 k) (popE E k hd) N := by
  cases hp : popS E k with
  | false =>
    obtain ⟨⟨a1, a2⟩, a3⟩ := h.pop0 hp
    obtain ⟨p1, p2, p3⟩ := pop_no hp
    refine ⟨a2, a1.trans p1.symm, by rw [a2]; rfl, fun hd _ => ?_⟩
    rw [a3, p3]; exact h
  | true =>
    obtain ⟨⟨a1, a2, a3⟩, a4⟩ := h.pop hp
    obtain ⟨p1, p2, p3⟩ := pop_yes hp
    refine ⟨a2, a1.trans p1.symm, by rw [a2, a3]; simp, fun hd hh => ?_⟩
    rw [p3]; exact a4 hd (hh.trans p2)
end
end Go.Proofs.YtdjhdcaanmkblaaDoor.K
