import Derived.Test.YthgkiieenojcpaaDoorM3
import Derived.Test.YthgkiieenojcpaaDoorProg
/-
  A walk by computing: slices that grow from nothing, by elements of any number of cells, as something that a walk holds.
-/
namespace Go.Proofs.YthgkiieenojcpaaDoor.K
set_option linter.unusedSimpArgs false
set_option linter.unusedVariables false

/-- What a slice that grows holds: so many elements, of sz cells each. -/
def GrV (e : TypeId) (sz : Nat) (w : World) (v : Value) (F : Nat → Prop) (n : Nat) (f : Nat → Value) : Prop :=
  (v = vnil ∧ n = 0 ∧ ∀ k, ¬ F k) ∨ ∃ g cap, v = sc g 0 n cap ∧ 0 < n ∧ HE.holds w g (.row e (n * sz) (cap * sz) f) ∧ n ≤ cap ∧ ∀ k, F k ↔ k = g

theorem GrV.slice {e : TypeId} {sz : Nat} {w : World} {v : Value} {F : Nat → Prop} {n : Nat} {f : Nat → Value} (h : GrV e sz w v F n f) : ∃ x c, v = .slice x n c := by
  rcases h with ⟨rfl, rfl, _⟩ | ⟨g, cap, rfl, _⟩
  · exact ⟨none, 0, rfl⟩
  · exact ⟨_, _, rfl⟩

section
variable {P : Program} {c : Cx} {n : Nat} {E : Env} {H : Heap} {A : List Res} {a : Act} {w : World} {o : Oper}

end

section
variable {P : Program} {c : Cx} {n : Nat} {E : Env} {H : Heap} {A : List Res} {a : Act} {w : World}
end

end Go.Proofs.YthgkiieenojcpaaDoor.K

/-
  A walk by computing: regions that draw their order, where operations that turn memory may come in one order or another: all are walked.
-/
namespace Go.Proofs.YthgkiieenojcpaaDoor.K
set_option linter.unusedSimpArgs false
set_option linter.unusedVariables false

section
variable {P : Program} {ops : Array Oper} {V : World → Prop} {Q : Exit → Act → World → Prop}

/-- How a region is walked: in a row; or, behind a row, one of some comes first. -/
inductive OT where
  | lin (r : List (Nat × Nat))
  | two (p : List (Nat × Nat)) (i : Nat) (t : OT) (j : Nat) (u : OT)
  | three (p : List (Nat × Nat)) (i : Nat) (t : OT) (j : Nat) (u : OT) (k : Nat) (v : OT)

def wpT (P : Program) (ops : Array Oper) (V : World → Prop) (R : Act → World → Prop) : OT → Act → World → Prop
  | .lin r => wpOrd P ops V R r
  | .two p i t j u => wpOrd P ops V (fun a w => wpOrd P ops V (wpT P ops V R t) [(i, 0)] a w ∧ wpOrd P ops V (wpT P ops V R u) [(j, 0)] a w) p
  | .three p i t j u k v => wpOrd P ops V (fun a w => wpOrd P ops V (wpT P ops V R t) [(i, 0)] a w ∧ wpOrd P ops V (wpT P ops V R u) [(j, 0)] a w ∧ wpOrd P ops V (wpT P ops V R v) [(k, 0)] a w) p

def lenT : OT → Nat
  | .lin r => r.length
  | .two p _ t _ _ => p.length + (lenT t + 1)
  | .three p _ t _ _ _ _ => p.length + (lenT t + 1)

def ordP (md : Region.Mode) (ops : Array Oper) : List (Nat × Nat) → Array Bool → Option (Array Bool)
  | [], l => some l
  | (i, 1) :: r, l => match (Region.ready md ops l).contains i && Region.free md ops l i with
    | true => ordP md ops r (l.setIfInBounds i true)
    | false => none
  | (i, 0) :: r, l => match onlyB i (Region.ready md ops l) with
    | true => ordP md ops r (l.setIfInBounds i true)
    | false => none
  | _, _ => none

def inB0 (r0 : List (Nat × Nat)) (r : List (Nat × Nat)) : Bool := r.all fun q => r0.any fun x => Nat.beq x.1 q.1 && Nat.beq x.2 q.2

def ordT (md : Region.Mode) (ops : Array Oper) (r0 : List (Nat × Nat)) : OT → Array Bool → Bool
  | .lin r, l => ordFrom md ops r l && inB0 r0 r
  | .two p i t j u, l => match ordP md ops p l with
    | some l' => inB0 r0 p && !(Region.ready md ops l').isEmpty && (Region.ready md ops l').all (fun x => Nat.beq x i || Nat.beq x j) && Nat.beq (lenT u) (lenT t) && ordT md ops r0 t (l'.setIfInBounds i true) && ordT md ops r0 u (l'.setIfInBounds j true)
    | none => false
  | .three p i t j u k v, l => match ordP md ops p l with
    | some l' => inB0 r0 p && !(Region.ready md ops l').isEmpty && (Region.ready md ops l').all (fun x => Nat.beq x i || Nat.beq x j || Nat.beq x k) && Nat.beq (lenT u) (lenT t) && Nat.beq (lenT v) (lenT t) && ordT md ops r0 t (l'.setIfInBounds i true) && ordT md ops r0 u (l'.setIfInBounds j true) && ordT md ops r0 v (l'.setIfInBounds k true)
    | none => false

theorem inB0_mem {r0 r : List (Nat × Nat)} (h : inB0 r0 r = true) : ∀ q ∈ r, q ∈ r0 := by
  intro q hq
  have h1 := List.all_eq_true.1 h q hq
  obtain ⟨x, hx, hb⟩ := List.any_eq_true.1 h1
  simp only [Bool.and_eq_true] at hb
  have e1 := Nat.eq_of_beq_eq_true hb.1
  have e2 := Nat.eq_of_beq_eq_true hb.2
  rw [show q = x from Prod.ext e1.symm e2.symm]; exact hx

theorem anyV_P {md : Region.Mode} {R R' : Act → World → Prop} (hs : Region.noSelect ops = true) (r0 : List (Nat × Nat)) (hl : lastB md ops r0 = true) {f : Nat} : ∀ (p : List (Nat × Nat)) (listed listed' : Array Bool) (a : Act) (w : World), ordP md ops p listed = some listed' → (∀ q ∈ p, q ∈ r0) → V w → wpOrd P ops V R' p a w →
    (∀ a' w', V w' → R' a' w' → anyV P md ops V (vfOf r0) R f listed' a' w') → anyV P md ops V (vfOf r0) R (p.length + f) listed a w
  | [], listed, listed', a, w, hB, _, hV, h, H => by
    simp only [ordP, Option.some.injEq] at hB
    subst hB
    rw [List.length_nil, Nat.zero_add]
    exact H a w hV h
  | (i, 0) :: r, listed, listed', a, w, hB, hm, hV, h, H => by
    simp only [ordP] at hB
    split at hB
    · rename_i h1
      have e := onlyB_eq h1
      rw [List.length_cons, Nat.add_right_comm]
      refine ⟨fun h0 => (by rw [e] at h0; cases h0), fun j hj => ?_⟩
      rw [e] at hj
      obtain rfl := List.mem_singleton.1 hj
      exact nAt_mono (fun a' w' hh => ⟨fun _ => hh.1, anyV_P hs r0 hl r _ listed' a' w' hB (fun q hq => hm q (List.mem_cons_of_mem _ hq)) hh.1 hh.2 H⟩) h
    · cases hB
  | (i, 1) :: r, listed, listed', a, w, hB, hm, hV, h, H => by
    simp only [ordP] at hB
    split at hB
    · rename_i h1
      simp only [Bool.and_eq_true] at h1
      obtain ⟨hr, hf⟩ := h1
      obtain ⟨o, v, ho, ht, hk⟩ := h
      rw [List.length_cons, Nat.add_right_comm]
      exact anyV_first ho (fun j oj hj hv => lastB_spec hl (mem_flB (hm _ List.mem_cons_self)) j oj hj hv) (Region.noSelect_spec hs) (r.length + f) listed a w (Region.free_spec ho hf) (by simpa using hr) ht hV (anyV_P hs r0 hl r _ listed' _ _ hB (fun q hq => hm q (List.mem_cons_of_mem _ hq)) hV hk H)
    · cases hB
  | (i, k + 2) :: r, listed, listed', a, w, hB, hm, hV, h, H => by simp [ordP] at hB

theorem anyV_T {md : Region.Mode} {R : Act → World → Prop} (hs : Region.noSelect ops = true) (r0 : List (Nat × Nat)) (hl : lastB md ops r0 = true) : ∀ (t : OT) (listed : Array Bool) (a : Act) (w : World), ordT md ops r0 t listed = true → V w → wpT P ops V R t a w → anyV P md ops V (vfOf r0) R (lenT t) listed a w
  | .lin r, listed, a, w, hB, hV, h => by
    simp only [ordT, Bool.and_eq_true] at hB
    exact anyV_ord hs r0 hl r listed a w (inB0_mem hB.2) hB.1 (fun _ => hV) h
  | .two p i t j u, listed, a, w, hB, hV, h => by
    simp only [ordT] at hB
    split at hB
    · rename_i l' hp
      simp only [Bool.and_eq_true, Bool.not_eq_true'] at hB
      obtain ⟨⟨⟨⟨⟨b0, b1⟩, b2⟩, b3⟩, b4⟩, b5⟩ := hB
      have e3 := Nat.eq_of_beq_eq_true b3
      refine anyV_P hs r0 hl (R' := fun a w => wpOrd P ops V (wpT P ops V R t) [(i, 0)] a w ∧ wpOrd P ops V (wpT P ops V R u) [(j, 0)] a w) p listed l' a w hp (inB0_mem b0) hV h fun a' w' hV' hh => ⟨fun h0 => (by rw [h0] at b1; cases b1), fun x hx => ?_⟩
      have hx2 := List.all_eq_true.1 b2 x hx
      simp only [Bool.or_eq_true] at hx2
      rcases hx2 with hx2 | hx2
      · obtain rfl := Nat.eq_of_beq_eq_true hx2
        exact nAt_mono (fun a2 w2 h2 => ⟨fun _ => h2.1, anyV_T hs r0 hl t _ a2 w2 b4 h2.1 h2.2⟩) hh.1
      · obtain rfl := Nat.eq_of_beq_eq_true hx2
        exact nAt_mono (fun a2 w2 h2 => ⟨fun _ => h2.1, e3 ▸ anyV_T hs r0 hl u _ a2 w2 b5 h2.1 h2.2⟩) hh.2
    · cases hB
  | .three p i t j u k v, listed, a, w, hB, hV, h => by
    simp only [ordT] at hB
    split at hB
    · rename_i l' hp
      simp only [Bool.and_eq_true, Bool.not_eq_true'] at hB
      obtain ⟨⟨⟨⟨⟨⟨⟨b0, b1⟩, b2⟩, b3⟩, b33⟩, b4⟩, b5⟩, b6⟩ := hB
      have e3 := Nat.eq_of_beq_eq_true b3
      have e33 := Nat.eq_of_beq_eq_true b33
      refine anyV_P hs r0 hl (R' := fun a w => wpOrd P ops V (wpT P ops V R t) [(i, 0)] a w ∧ wpOrd P ops V (wpT P ops V R u) [(j, 0)] a w ∧ wpOrd P ops V (wpT P ops V R v) [(k, 0)] a w) p listed l' a w hp (inB0_mem b0) hV h fun a' w' hV' hh => ⟨fun h0 => (by rw [h0] at b1; cases b1), fun x hx => ?_⟩
      have hx2 := List.all_eq_true.1 b2 x hx
      simp only [Bool.or_eq_true] at hx2
      rcases hx2 with (hx2 | hx2) | hx2
      · obtain rfl := Nat.eq_of_beq_eq_true hx2
        exact nAt_mono (fun a2 w2 h2 => ⟨fun _ => h2.1, anyV_T hs r0 hl t _ a2 w2 b4 h2.1 h2.2⟩) hh.1
      · obtain rfl := Nat.eq_of_beq_eq_true hx2
        exact nAt_mono (fun a2 w2 h2 => ⟨fun _ => h2.1, e3 ▸ anyV_T hs r0 hl u _ a2 w2 b5 h2.1 h2.2⟩) hh.2.1
      · obtain rfl := Nat.eq_of_beq_eq_true hx2
        exact nAt_mono (fun a2 w2 h2 => ⟨fun _ => h2.1, e33 ▸ anyV_T hs r0 hl v _ a2 w2 b6 h2.1 h2.2⟩) hh.2.2
    · cases hB

def ordTB (md : Region.Mode) (ops : Array Oper) (r0 : List (Nat × Nat)) (t : OT) : Bool := Region.noSelect ops && Nat.beq (lenT t) ops.size && ordT md ops r0 t (Array.replicate ops.size false) && lastB md ops r0

theorem wp_region_T {id : Nat} {a : Act} {w : World} (r0 : List (Nat × Nat)) (t : OT) (hm : P.follows .mixedOrders = true) (hB : ordTB .any ops r0 t = true) (hV : V { w with drawn := w.drawn + 1 })
    (h : wpT P ops V (fun a' w' => Q .normal a' w') t a { w with drawn := w.drawn + 1 }) : (Code.region id ops true).wp P Q a w := by
  simp only [ordTB, Bool.and_eq_true] at hB
  have hl := Nat.eq_of_beq_eq_true hB.1.1.2
  refine wp_region_any hm (wpAny_of_anyV (V := V) (Vf := vfOf r0) (R := fun a' w' => Q .normal a' w') (fun _ _ h => h) _ _ _ _ ?_)
  have := anyV_T (V := V) (P := P) (R := fun a' w' => Q .normal a' w') hB.1.1.1 r0 hB.2 t _ a _ hB.1.2 hV h
  rw [hl] at this
  exact this

variable {c : Cx} {n : Nat} {E : Env} {H Hf : Heap} {A : List Res} {a : Act} {w : World} {R : Act → World → Prop}
theorem St.ordBeginT {id : Nat} {l : List Oper} (r0 : List (Nat × Nat)) (t : OT) (Hf : Heap) (p : List Nat) (hS : St c n E H A a w) (h : ∀ w1, St c n E H A a w1 → wpT P l.toArray (Stay Hf) (fun a' w' => Q .normal a' w') t a w1)
    (hp : pickH H p = some Hf := by as_aux_lemma => kernel_rfl) (hm : P.follows .mixedOrders = true := by as_aux_lemma => kernel_rfl) (hB : ordTB .any l.toArray r0 t = true := by as_aux_lemma => kernel_rfl) : (Code.region id l.toArray true).wp P Q a w :=
  wp_region_T r0 t hm hB (hS.mem.drew.stay hp) (h _ (hS.to hS.mem.drew))
theorem St.ordBeginTS {id : Nat} {l : List Oper} {y : Code} (r0 : List (Nat × Nat)) (t : OT) (Hf : Heap) (p : List Nat) (hS : St c n E H A a w) (h : ∀ w1, St c n E H A a w1 → wpT P l.toArray (Stay Hf) (fun a' w' => y.wp P Q a' w') t a w1)
    (hp : pickH H p = some Hf := by as_aux_lemma => kernel_rfl) (hm : P.follows .mixedOrders = true := by as_aux_lemma => kernel_rfl) (hB : ordTB .any l.toArray r0 t = true := by as_aux_lemma => kernel_rfl) : ((Code.region id l.toArray true).seq y).wp P Q a w :=
  wp_seq (St.ordBeginT r0 t Hf p hS h hp hm hB)
/-- The last step of a row that leads on to what follows. -/
theorem wpT_lin {r : List (Nat × Nat)} {a : Act} {w : World} (h : wpOrd P ops V R r a w) : wpT P ops V R (.lin r) a w := h
theorem wpT_two {p : List (Nat × Nat)} {i j : Nat} {t u : OT} {a : Act} {w : World} (h : wpOrd P ops V (fun a w => wpOrd P ops V (wpT P ops V R t) [(i, 0)] a w ∧ wpOrd P ops V (wpT P ops V R u) [(j, 0)] a w) p a w) : wpT P ops V R (.two p i t j u) a w := h
end
end Go.Proofs.YthgkiieenojcpaaDoor.K

/-
  Records of fields, plainly: widths, where a field begins, what fits, what is put and told.
-/
namespace Go.Proofs.YthgkiieenojcpaaDoor.K
set_option linter.unusedSimpArgs false
set_option linter.unusedVariables false

def okw (w : Int) : Bool := w == 1 || w == 2 || w == 4 || w == 8
def okW (l : List Int) : Prop := 0 < l.length ∧ l.length ≤ 32 ∧ l.all okw = true
/-- The first n widths together. -/
def sumT (l : List Int) : Nat → Int
  | 0 => 0
  | n + 1 => sumT l n + l.getD n 0

instance (l : List Int) : Decidable (okW l) := by unfold okW; exact inferInstance
theorem okw_in {w : Int} (h : okw w = true) : w = 1 ∨ w = 2 ∨ w = 4 ∨ w = 8 := by
  unfold okw at h; simp at h; omega
theorem all_at {l : List Int} (h : l.all okw = true) {i : Nat} (hi : i < l.length) : okw (l.getD i 0) = true := by
  rw [List.getD_eq_getElem?_getD, List.getElem?_eq_getElem hi]
  exact List.all_eq_true.1 h _ (List.getElem_mem hi)
theorem okW_at {l : List Int} (h : okW l) {i : Nat} (hi : i < l.length) : l.getD i 0 = 1 ∨ l.getD i 0 = 2 ∨ l.getD i 0 = 4 ∨ l.getD i 0 = 8 := okw_in (all_at h.2.2 hi)
theorem okW_le {l : List Int} (h : okW l) (i : Nat) : 0 ≤ l.getD i 0 ∧ l.getD i 0 ≤ 8 := by
  rcases Nat.lt_or_ge i l.length with hi | hi
  · have := okW_at h hi; omega
  · rw [List.getD_eq_getElem?_getD, List.getElem?_eq_none hi]; decide
theorem sumT_bd {l : List Int} (h : okW l) : ∀ n : Nat, 0 ≤ sumT l n ∧ sumT l n ≤ 8 * (n : Int)
  | 0 => by unfold sumT; omega
  | n + 1 => by
    have := sumT_bd h n; have := okW_le h n
    unfold sumT; omega
theorem sumT_mono {l : List Int} (h : okW l) {i : Nat} : ∀ {n : Nat}, i + 1 ≤ n → sumT l i + l.getD i 0 ≤ sumT l n
  | 0, hi => by omega
  | n + 1, hi => by
    rcases Nat.lt_or_ge i n with h1 | h1
    · have := sumT_mono h (i := i) (n := n) (by omega); have := okW_le h n; show _ ≤ sumT l n + l.getD n 0; omega
    · obtain rfl : i = n := by omega
      show _ ≤ sumT l i + l.getD i 0; omega
/-- Where a field begins. -/
def atW (l : List Int) (i : Int) : Int := if 0 ≤ i ∧ i < (l.length : Int) then sumT l i.toNat else 0
theorem atW_in {l : List Int} {i : Int} (h : 0 ≤ i ∧ i < (l.length : Int)) : sumT l i.toNat = atW l i := by unfold atW; rw [if_pos h]
def hasW (l : List Int) (i : Int) : Bool := decide (0 ≤ i) && decide (i < (l.length : Int))
/-- Has a number no more bytes than a field? -/
def fitW (w x : Int) : Bool := w == 8 || x / 2 ^ (8 * w).toNat == 0
/-- What Set makes of an arena, and answers. -/
def setE (l : List Int) (m : AM) (o z i x : Int) : Int := if hasW l i then (if fitW (l.getD i.toNat 0) x then vstE m o z (atW l i) (l.getD i.toNat 0) else 16) else 2
def setM (l : List Int) (m : AM) (o z i x : Int) : AM := if hasW l i then (if fitW (l.getD i.toNat 0) x then vstM m o z (atW l i) (l.getD i.toNat 0) x else m) else m
theorem set_4 {l : List Int} {m : AM} {o z i x : Int} (h : hasW l i = false) : m = setM l m o z i x := by unfold setM; rw [h]; rfl
theorem set_5 {l : List Int} {m : AM} {o z i x : Int} (h2 : fitW (l.getD i.toNat 0) x = false) : m = setM l m o z i x := by unfold setM; rw [h2]; split <;> rfl
def getW (l : List Int) (m : AM) (o z i : Int) : Int := if hasW l i then vldV m o z (atW l i) (l.getD i.toNat 0) else 0
theorem hasW_in {l : List Int} {i : Int} (h : hasW l i = true) : 0 ≤ i ∧ i < (l.length : Int) := by unfold hasW at h; simpa using h

/-- A view's bytes. -/
def vbyE (m : AM) (o z a n : Int) : Int := if vchE z a n = 0 then chkE m (o + a) n else 3
/-- All fields are put, one behind the other. -/
def putA (l : List Int) (o z : Int) (nums : Nat → Nat) (m : AM) : Nat → AM
  | 0 => m
  | k + 1 => setM l (putA l o z nums m k) o z (k : Int) ((nums k : Nat) : Int)
def fitA (l : List Int) (nums : Nat → Nat) : Nat → Bool
  | 0 => true
  | k + 1 => fitA l nums k && fitW (l.getD k 0) ((nums k : Nat) : Int)
def pRE (l : List Int) (nn : Nat) (nums : Nat → Nat) (m : AM) (o z : Int) : Int := if nn ≠ l.length then 2 else if fitA l nums l.length then vbyE m o z 0 (sumT l l.length) else 16
def pRM (l : List Int) (nn : Nat) (nums : Nat → Nat) (m : AM) (o z : Int) : AM := if nn ≠ l.length then m else if fitA l nums l.length then (if vbyE m o z 0 (sumT l l.length) = 0 then putA l o z nums m l.length else m) else m
end Go.Proofs.YthgkiieenojcpaaDoor.K

/-
  Walks, printed by w2.py.
-/
namespace Go.Proofs.YthgkiieenojcpaaDoor.K
set_option linter.unusedVariables false
set_option linter.unusedSimpArgs false

end Go.Proofs.YthgkiieenojcpaaDoor.K

/-
  Walks, printed by w2.py.
-/
namespace Go.Proofs.YthgkiieenojcpaaDoor.K
set_option linter.unusedVariables false
set_option linter.unusedSimpArgs false

end Go.Proofs.YthgkiieenojcpaaDoor.K

/-
  Walks, printed by w2.py.
-/
namespace Go.Proofs.YthgkiieenojcpaaDoor.K
set_option linter.unusedVariables false
set_option linter.unusedSimpArgs false

set_option maxRecDepth 100000 in
set_option maxHeartbeats 1000000 in
theorem law04_Awake (w : World) (hh0 : HE.holds w 0 (.fn 0 64 dbT)) :
    Calls Tryd.prog 128 #[] w fun e w' => e = .returned (vb true) ∧ Fr w w' no no := by
 refine enter (args := []) (D := no) (A := []) Tryd.func128 rfl 2 rfl [(0, .fn 0 64 dbT)] (WS.startL ⟨⟨rfl, hh0⟩, trivial⟩) fun ac hS => ?_
 refine hS.regS [0] [] fun _ => seg [] [(0, none)] [] trivial fun ac wd hS => ?_
 refine wp_region_seq ?_
 refine hS.call0 37 #[] 1 (law04_awake  _ (hS.mem.get 0 0 (.fn 0 64 dbT)) ) fun ac wd hS => ?_
 refine hS.opsC 1 [0] [] fun _ => seg [(0, vb true)] [(0, none)] [] trivial fun ac wd hS => ?_
 refine list_nil_seq ?_
 refine wp_ret ?_
 refine St.retC 0 hS (vb true) [] trivial fun hw => ?_
 refine ⟨retd rfl, hw.fr0⟩

end Go.Proofs.YthgkiieenojcpaaDoor.K
