/-
  A walk by computing, eleventh part: regions that draw their order and hold operations that turn memory.
-/
import Derived.Test.YtlnecfdbmoilbaaDoorKj
namespace Go.Proofs.YtlnecfdbmoilbaaDoor.K
set_option linter.unusedSimpArgs false
set_option linter.unusedVariables false

section
variable {P : Program} {ops : Array Oper} {V : World → Prop} {Q : Exit → Act → World → Prop}

/-- An operation that comes to a value, or a call that returns. -/
def nOp (P : Program) (o : Oper) (a : Act) (w : World) (K : Act → World → Prop) : Prop :=
  match (execOp a.eval o).run P w with
  | .ok (.value v) w' => K (a.put o.dst v) w'
  | .ok .skip w' => K (a.put o.dst undef) w'
  | .ok (.enter f args) w' => Calls P f args w' fun e w'' => ∃ v, e = .returned v ∧ K (a.put o.dst v) w''
  | _ => False

def nAt (P : Program) (ops : Array Oper) (i : Nat) (K : Act → World → Prop) (a : Act) (w : World) : Prop :=
  match ops[i]? with
  | none => False
  | some o => if Region.wanted o (yielded ops a.tmps) then nOp P o a w K else K (a.put o.dst undef) w

theorem nOp_mono {o : Oper} {a : Act} {w : World} {K K' : Act → World → Prop} (h : ∀ a w, K a w → K' a w) (hh : nOp P o a w K) : nOp P o a w K' := by
  unfold nOp at *
  generalize (execOp a.eval o).run P w = r at *
  cases r with
  | ok n w' =>
    cases n <;> simp only at hh ⊢
    case value u => exact h _ _ hh
    case skip => exact h _ _ hh
    case enter f args => exact hh.mono fun e w'' ⟨v, h1, h2⟩ => ⟨v, h1, h _ _ h2⟩
  | halt x w' => exact hh

theorem nAt_mono {i : Nat} {a : Act} {w : World} {K K' : Act → World → Prop} (h : ∀ a w, K a w → K' a w) (hh : nAt P ops i K a w) : nAt P ops i K' a w := by
  unfold nAt at *
  split
  · rename_i ho; simp only [ho] at hh
  · rename_i o ho
    simp only [ho] at hh
    split
    · rename_i hw; simp only [hw, if_true] at hh; exact nOp_mono h hh
    · rename_i hw; simp only [hw] at hh; exact h _ _ hh

theorem wp_of_nOp {o : Oper} {a : Act} {w : World} {K : Act → World → Prop} (hh : nOp P o a w K) : o.wp P a w K Q := by
  unfold nOp at hh
  unfold Oper.wp
  generalize (execOp a.eval o).run P w = r at *
  cases r with
  | ok n w' =>
    cases n <;> simp only at hh <;> simp only [Oper.upon]
    case value u => exact hh
    case skip => exact hh
    case enter f args => exact hh.mono fun e w'' ⟨v, h1, h2⟩ => by subst h1; exact h2
  | halt x w' => exact hh.elim

theorem wpOp_of_nAt {i : Nat} {a : Act} {w : World} {K : Act → World → Prop} (hh : nAt P ops i K a w) : wpOp P ops Q i K a w := by
  unfold nAt at hh
  unfold wpOp
  split
  · rename_i ho; simp only [ho] at hh
  · rename_i o ho
    simp only [ho] at hh
    split
    · rename_i hw; simp only [hw, if_true] at hh; exact .inl (wp_of_nOp hh)
    · rename_i hw; simp only [hw] at hh; exact hh

/-- Whatever order is picked; Vf: behind which operations the class is asked. -/
def anyV (P : Program) (md : Region.Mode) (ops : Array Oper) (V : World → Prop) (Vf : Nat → Bool) (Q : Act → World → Prop) : Nat → Array Bool → Act → World → Prop
  | 0, listed, a, w => Region.ready md ops listed = [] ∧ Q a w
  | f + 1, listed, a, w => (Region.ready md ops listed = [] → Q a w) ∧ ∀ i ∈ Region.ready md ops listed, nAt P ops i (fun a' w' => (Vf i = true → V w') ∧ anyV P md ops V Vf Q f (listed.setIfInBounds i true) a' w') a w

theorem wpAny_of_anyV {md : Region.Mode} {Vf : Nat → Bool} {R : Act → World → Prop} (hQ : ∀ a w, R a w → Q .normal a w) : ∀ (f : Nat) (listed : Array Bool) (a : Act) (w : World), anyV P md ops V Vf R f listed a w → wpAny P md ops Q f listed a w
  | 0, _, _, _, h => ⟨h.1, hQ _ _ h.2⟩
  | f + 1, _, _, _, h => ⟨fun h0 => hQ _ _ (h.1 h0), fun i hi => wpOp_of_nAt (nAt_mono (fun a' w' hh => wpAny_of_anyV hQ f _ a' w' hh.2) (h.2 i hi))⟩

/-- In each world of the class the operation comes to v. -/
def Tells (P : Program) (ops : Array Oper) (V : World → Prop) (o : Oper) (v : Value) (a : Act) : Prop :=
  (Region.wanted o (yielded ops a.tmps) = true ∧ ∀ w, V w → (execOp a.eval o).run P w = .ok (.value v) w ∨ ((execOp a.eval o).run P w = .ok .skip w ∧ v = undef)) ∨ (Region.wanted o (yielded ops a.tmps) = false ∧ v = undef)

theorem Tells.at {i : Nat} {o : Oper} {v : Value} {a : Act} {w : World} (hi : ops[i]? = some o) (hy : Tells P ops V o v a) (hV : V w) {K : Act → World → Prop} (h : K (a.put o.dst v) w) : nAt P ops i K a w := by
  unfold nAt
  simp only [hi]
  rcases hy with ⟨hw, hr⟩ | ⟨hw, rfl⟩
  · rw [if_pos hw]
    unfold nOp
    rcases hr w hV with e | ⟨e, rfl⟩
    · rw [e]; exact h
    · rw [e]; exact h
  · rw [if_neg (by rw [hw]; simp)]; exact h

theorem nAt_put {j : Nat} {oi oj : Oper} {v : Value} (hj : ops[j]? = some oj) (hap : oi.apart ops oj = true) (hsi : ∀ cs b, oi.op ≠ .select cs b) (hsj : ∀ cs b, oj.op ≠ .select cs b) {K : Act → World → Prop} {a : Act} {w : World}
    (hy : Tells P ops V oi v a) (h : nAt P ops j K (a.put oi.dst v) w) : nAt P ops j (fun a' w' => Tells P ops V oi v a' ∧ K (a'.put oi.dst v) w') a w := by
  obtain ⟨h1, h2, h3⟩ := Oper.apart_spec hap
  have keep : ∀ u, Tells P ops V oi v (a.put oj.dst u) := fun u => by
    unfold Tells at *
    rw [execOp_put oi hsi a oj.dst u h3, wanted_put oi a oj.dst u h3]
    exact hy
  unfold nAt at *
  simp only [hj] at *
  rw [wanted_put oj a oi.dst v h1] at h
  split
  · rename_i hw
    simp only [hw, if_true] at h
    unfold nOp at *
    rw [execOp_put oj hsj a oi.dst v h1] at h
    generalize (execOp a.eval oj).run P w = r at *
    cases r with
    | ok n w' =>
      cases n <;> simp only at h ⊢
      case value u => exact ⟨keep u, by rw [← Act.put_comm a v u h2]; exact h⟩
      case skip => exact ⟨keep _, by rw [← Act.put_comm a v undef h2]; exact h⟩
      case enter f args => exact h.mono fun e w'' ⟨u, e1, e2⟩ => ⟨u, e1, keep u, by rw [← Act.put_comm a v u h2]; exact e2⟩
    | halt x w' => exact h
  · rename_i hw
    simp only [hw] at h
    exact ⟨keep _, by rw [← Act.put_comm a v undef h2]; exact h⟩

theorem anyV_first {md : Region.Mode} {Vf : Nat → Bool} {R : Act → World → Prop} {i : Nat} {oi : Oper} {v : Value} (hi : ops[i]? = some oi) (hvf : ∀ j oj, ops[j]? = some oj → Vf j = false → ∃ e ∈ oj.after, Region.binds md e = true ∧ e.on = i) (hsel : ∀ (j : Nat) (o : Oper) cs b, ops[j]? = some o → o.op ≠ .select cs b) :
    ∀ (f : Nat) (listed : Array Bool) (a : Act) (w : World),
      (∀ j oj, ops[j]? = some oj → j ≠ i → listed.getD j true = false → (∀ e ∈ oj.after, Region.binds md e = true → e.on ≠ i) → oi.apart ops oj = true) →
      i ∈ Region.ready md ops listed → Tells P ops V oi v a → V w → anyV P md ops V Vf R f (listed.setIfInBounds i true) (a.put oi.dst v) w → anyV P md ops V Vf R (f + 1) listed a w := by
  intro f
  induction f with
  | zero =>
    intro listed a w _ hr hy hV H
    refine ⟨fun h => (by rw [h] at hr; cases hr), fun j hj => ?_⟩
    by_cases hji : j = i
    · subst hji; exact hy.at hi hV ⟨fun _ => hV, H⟩
    · have := ready_mono hj hji
      rw [H.1] at this
      cases this
  | succ f ih =>
    intro listed a w hfree hr hy hV H
    refine ⟨fun h => (by rw [h] at hr; cases hr), fun j hj => ?_⟩
    by_cases hji : j = i
    · subst hji; exact hy.at hi hV ⟨fun _ => hV, H⟩
    · have h1 := H.2 j (ready_mono hj hji)
      obtain ⟨hjun, oj, hoj, hall⟩ := mem_ready.1 hj
      have hnot : ∀ e ∈ oj.after, Region.binds md e = true → e.on ≠ i := fun e he hb heq => by
        have h1 := hall e he hb
        have h0 := (mem_ready.1 hr).1
        rw [heq] at h1
        rcases Nat.lt_or_ge i listed.size with h' | h'
        · simp [h'] at h0 h1; rw [h0] at h1; cases h1
        · simp [Array.getElem?_eq_none h'] at h1
      have h2 := nAt_put hoj (hfree j oj hoj hji hjun hnot) (fun cs b => hsel i oi cs b hi) (fun cs b => hsel j oj cs b hoj) hy h1
      have hfree' : ∀ k ok, ops[k]? = some ok → k ≠ i → (listed.setIfInBounds j true).getD k true = false →
          (∀ e ∈ ok.after, Region.binds md e = true → e.on ≠ i) → oi.apart ops ok = true := fun k ok hk hki hun hno => by
        refine hfree k ok hk hki ?_ hno
        by_cases hjk : j = k
        · subst hjk; exact hjun
        · rw [getD_set_ne true hjk] at hun; exact hun
      refine nAt_mono (fun a' w' h3 => ?_) h2
      have hr' := ready_mono hr (Ne.symm hji)
      have h4 : V w' := by
        cases hv : Vf j with
        | true => exact h3.2.1 hv
        | false => obtain ⟨e, e1, e2, e3⟩ := hvf j oj hoj hv; exact absurd e3 (hnot e e1 e2)
      refine ⟨fun _ => h4, ih (listed.setIfInBounds j true) a' w' hfree' hr' h3.1 h4 ?_⟩
      rw [Array.setIfInBounds_comm _ _ hji]
      exact h3.2.2

/-- The steps in the order that is walked: 1: a reading operation that may come whenever; 0, 2: one for which all others wait (2: and which waits for all reading ones). -/
def wpOrd (P : Program) (ops : Array Oper) (V : World → Prop) (R : Act → World → Prop) : List (Nat × Nat) → Act → World → Prop
  | [], a, w => R a w
  | (i, 1) :: r, a, w => ∃ o v, ops[i]? = some o ∧ Tells P ops V o v a ∧ wpOrd P ops V R r (a.put o.dst v) w
  | (i, 0) :: r, a, w => nAt P ops i (fun a' w' => V w' ∧ wpOrd P ops V R r a' w') a w
  | (i, _) :: r, a, w => nAt P ops i (fun a' w' => wpOrd P ops V R r a' w') a w

def onlyB (i : Nat) : List Nat → Bool
  | [j] => Nat.beq j i
  | _ => false

def flB : List (Nat × Nat) → List Nat
  | [] => []
  | p :: l => match Nat.beq p.2 1 with
    | true => p.1 :: flB l
    | false => flB l

def ordFrom (md : Region.Mode) (ops : Array Oper) : List (Nat × Nat) → Array Bool → Bool
  | [], listed => (Region.ready md ops listed).isEmpty
  | (i, 1) :: r, listed => (Region.ready md ops listed).contains i && Region.free md ops listed i && ordFrom md ops r (listed.setIfInBounds i true)
  | (i, 0) :: r, listed => onlyB i (Region.ready md ops listed) && ordFrom md ops r (listed.setIfInBounds i true)
  | (i, 2) :: r, listed => onlyB i (Region.ready md ops listed) && (flB r).isEmpty && ordFrom md ops r (listed.setIfInBounds i true)
  | _, _ => false

/-- Behind which operations the class is asked. -/
def vfOf : List (Nat × Nat) → Nat → Bool
  | [], _ => true
  | p :: l, j => match Nat.beq p.1 j && Nat.beq p.2 2 with
    | true => false
    | false => vfOf l j

def lastB (md : Region.Mode) (ops : Array Oper) (r : List (Nat × Nat)) : Bool :=
  (List.range ops.size).all fun j => vfOf r j || (flB r).all fun f => match ops[j]? with
    | some oj => oj.after.any fun e => Region.binds md e && e.on == f
    | none => false

def ordB (md : Region.Mode) (ops : Array Oper) (r : List (Nat × Nat)) : Bool := Region.noSelect ops && Nat.beq r.length ops.size && ordFrom md ops r (Array.replicate ops.size false) && lastB md ops r

theorem onlyB_eq {i : Nat} {l : List Nat} (h : onlyB i l = true) : l = [i] := by
  unfold onlyB at h
  split at h
  · rename_i j; rw [Nat.eq_of_beq_eq_true h]
  · cases h

theorem lastB_spec {md : Region.Mode} {r : List (Nat × Nat)} (h : lastB md ops r = true) {f : Nat} (hf : f ∈ flB r) (j : Nat) (oj : Oper) (hj : ops[j]? = some oj) (hv : vfOf r j = false) : ∃ e ∈ oj.after, Region.binds md e = true ∧ e.on = f := by
  have h1 := List.all_eq_true.1 h j (List.mem_range.2 (Array.getElem?_eq_some_iff.1 hj).1)
  rw [hv, Bool.false_or] at h1
  have h2 := List.all_eq_true.1 h1 f hf
  simp only [hj] at h2
  obtain ⟨e, he, hb⟩ := Array.any_eq_true'.1 h2
  simp only [Bool.and_eq_true, beq_iff_eq] at hb
  exact ⟨e, he, hb.1, hb.2⟩

theorem vfOf_last {r : List (Nat × Nat)} {i : Nat} (h : (i, 2) ∈ r) : vfOf r i = false := by
  induction r with
  | nil => cases h
  | cons p l ih =>
    simp only [vfOf]
    split
    · rfl
    · rename_i hp
      rcases List.mem_cons.1 h with e | h
      · subst e; simp at hp
      · exact ih h

theorem mem_flB {r : List (Nat × Nat)} {i : Nat} (h : (i, 1) ∈ r) : i ∈ flB r := by
  induction r with
  | nil => cases h
  | cons p l ih =>
    rcases List.mem_cons.1 h with e | h
    · subst e; simp [flB]
    · simp only [flB]
      split
      · exact List.mem_cons_of_mem _ (ih h)
      · exact ih h

theorem anyV_ord {md : Region.Mode} {R : Act → World → Prop} (hs : Region.noSelect ops = true) (r0 : List (Nat × Nat)) (hl : lastB md ops r0 = true) : ∀ (r : List (Nat × Nat)) (listed : Array Bool) (a : Act) (w : World), (∀ p ∈ r, p ∈ r0) → ordFrom md ops r listed = true → (flB r ≠ [] → V w) → wpOrd P ops V R r a w → anyV P md ops V (vfOf r0) R r.length listed a w
  | [], listed, a, w, _, hB, _, h => ⟨by simpa [ordFrom] using hB, h⟩
  | (i, 0) :: r, listed, a, w, hm, hB, hV, h => by
    simp only [ordFrom, Bool.and_eq_true] at hB
    have e := onlyB_eq hB.1
    refine ⟨fun h0 => (by rw [e] at h0; cases h0), fun j hj => ?_⟩
    rw [e] at hj
    obtain rfl := List.mem_singleton.1 hj
    exact nAt_mono (fun a' w' hh => ⟨fun _ => hh.1, anyV_ord hs r0 hl r _ a' w' (fun p hp => hm p (List.mem_cons_of_mem _ hp)) hB.2 (fun _ => hh.1) hh.2⟩) h
  | (i, 1) :: r, listed, a, w, hm, hB, hV, h => by
    simp only [ordFrom, Bool.and_eq_true] at hB
    obtain ⟨⟨hr, hf⟩, hB'⟩ := hB
    obtain ⟨o, v, ho, ht, hk⟩ := h
    have hV' : V w := hV (by simp [flB])
    exact anyV_first ho (fun j oj hj hv => lastB_spec hl (mem_flB (hm _ List.mem_cons_self)) j oj hj hv) (Region.noSelect_spec hs) r.length listed a w (Region.free_spec ho hf) (by simpa using hr) ht hV' (anyV_ord hs r0 hl r _ _ _ (fun p hp => hm p (List.mem_cons_of_mem _ hp)) hB' (fun _ => hV') hk)
  | (i, 2) :: r, listed, a, w, hm, hB, hV, h => by
    simp only [ordFrom, Bool.and_eq_true, List.isEmpty_iff] at hB
    obtain ⟨⟨h1, h2⟩, h3⟩ := hB
    have e := onlyB_eq h1
    refine ⟨fun h0 => (by rw [e] at h0; cases h0), fun j hj => ?_⟩
    rw [e] at hj
    obtain rfl := List.mem_singleton.1 hj
    exact nAt_mono (fun a' w' hh => ⟨fun hv => (by rw [vfOf_last (hm _ List.mem_cons_self)] at hv; cases hv), anyV_ord hs r0 hl r _ a' w' (fun p hp => hm p (List.mem_cons_of_mem _ hp)) h3 (fun hne => absurd h2 hne) hh⟩) h
  | (i, k + 3) :: r, listed, a, w, hm, hB, hV, h => by simp [ordFrom] at hB

/-- A region that draws its order, walked in one order. -/
theorem wp_region_ord {id : Nat} {a : Act} {w : World} (r : List (Nat × Nat)) (hm : P.follows .mixedOrders = true) (hB : ordB .any ops r = true) (hV : V { w with drawn := w.drawn + 1 })
    (h : wpOrd P ops V (fun a' w' => Q .normal a' w') r a { w with drawn := w.drawn + 1 }) : (Code.region id ops true).wp P Q a w := by
  simp only [ordB, Bool.and_eq_true] at hB
  have hl := Nat.eq_of_beq_eq_true hB.1.1.2
  refine wp_region_any hm (wpAny_of_anyV (V := V) (Vf := vfOf r) (R := fun a' w' => Q .normal a' w') (fun _ _ h => h) _ _ _ _ ?_)
  have := anyV_ord (V := V) (P := P) (R := fun a' w' => Q .normal a' w') hB.1.1.1 r hB.2 r _ a _ (fun p hp => hp) hB.1.2 (fun _ => hV) h
  rw [hl] at this
  exact this

/-! ## The same, off slots and blocks -/

variable {c : Cx} {n : Nat} {E : Env} {H Hf : Heap} {A : List Res} {a : Act} {w : World} {R : Act → World → Prop}

/-- The class: blocks that are read whenever. -/
def Stay (Hf : Heap) (w : World) : Prop := ∀ e ∈ Hf, e.2.holds w e.1

theorem WS.stay {l : List Nat} (h : WS c H A w) (hp : pickH H l = some Hf) : Stay Hf w := fun e he => h.heap e (pickH_mem hp e he)

theorem St.ordBegin {id : Nat} {l : List Oper} (r : List (Nat × Nat)) (Hf : Heap) (p : List Nat) (hS : St c n E H A a w) (h : ∀ w1, St c n E H A a w1 → wpOrd P l.toArray (Stay Hf) (fun a' w' => Q .normal a' w') r a w1)
    (hp : pickH H p = some Hf := by as_aux_lemma => kernel_rfl) (hm : P.follows .mixedOrders = true := by as_aux_lemma => kernel_rfl) (hB : ordB .any l.toArray r = true := by as_aux_lemma => kernel_rfl) : (Code.region id l.toArray true).wp P Q a w :=
  wp_region_ord r hm hB (hS.mem.drew.stay hp) (h _ (hS.to hS.mem.drew))

theorem St.ordBeginS {id : Nat} {l : List Oper} {y : Code} (r : List (Nat × Nat)) (Hf : Heap) (p : List Nat) (hS : St c n E H A a w) (h : ∀ w1, St c n E H A a w1 → wpOrd P l.toArray (Stay Hf) (fun a' w' => y.wp P Q a' w') r a w1)
    (hp : pickH H p = some Hf := by as_aux_lemma => kernel_rfl) (hm : P.follows .mixedOrders = true := by as_aux_lemma => kernel_rfl) (hB : ordB .any l.toArray r = true := by as_aux_lemma => kernel_rfl) : ((Code.region id l.toArray true).seq y).wp P Q a w :=
  wp_seq (St.ordBegin r Hf p hS h hp hm hB)

/-- The operations at some places. -/
def opsAt (ops : Array Oper) : List Nat → Option (List Oper)
  | [] => some []
  | i :: l => match ops[i]?, opsAt ops l with
    | some o, some l' => some (o :: l')
    | _, _ => none

def marks : List Nat → List (Nat × Nat)
  | [] => []
  | i :: l => (i, 1) :: marks l

theorem apart_fine {Hf : Heap} (h : ∀ e ∈ Hf, e.2.own = false) : Hf.Pairwise apartP := by
  refine pairwise_of_get fun i j p q _ hp hq ho => ?_
  rw [h p (List.mem_of_getElem? hp), h q (List.mem_of_getElem? hq)] at ho
  simp at ho

theorem ordF_go {ν : Nat → Nat} (hF : ∀ w', Stay Hf w' → Fine (fun j => w'.heap.size + j) ⟨Hf, 0, []⟩ w') : ∀ (is : List Nat) (hs : List Hint) (l : List Oper) (E E' : Env) (s s' : LS) (rest : List (Nat × Nat)) (a : Act) (w : World), opsAt ops is = some l → evOps P n true ops ν hs l E s = some (E', s') → s.heap = Hf → s.k = 0 → guardsOk n ops l = true → Agree E a → n ≤ a.tmps.size → AllP s'.ob →
    (∀ a', Agree E' a' → a'.tmps.size = a.tmps.size → a'.defers = a.defers → wpOrd P ops (Stay Hf) R rest a' w) → wpOrd P ops (Stay Hf) R (marks is ++ rest) a w
  | [], hs, l, E, E', s, s', rest, a, w, ho, he, _, _, hg, hE, hsz, hob, K => by
    simp only [opsAt, Option.some.injEq] at ho
    subst ho
    cases hs with
    | nil =>
      simp only [evOps, Option.some.injEq, Prod.mk.injEq] at he
      obtain ⟨rfl, rfl⟩ := he
      exact K a hE rfl rfl
    | cons _ _ => simp [evOps] at he
  | i :: is, hs, l, E, E', s, s', rest, a, w, ho, he, hh, hk, hg, hE, hsz, hob, K => by
    simp only [opsAt] at ho
    split at ho
    · rename_i o l' h1 h2
      obtain rfl := Option.some.inj ho
      cases hs with
      | nil => simp [evOps] at he
      | cons hn hs =>
        simp only [evOps] at he
        split at he
        · rename_i E1 s1 e1
          simp only [guardsOk, Bool.and_eq_true] at hg
          have hg1 : ∀ d want, guardSlot ops o = some (d, want) → d < n := by
            intro d want hd
            have := hg.1
            rw [hd] at this
            simpa using this
          have hob1 : AllP s1.ob := by
            obtain ⟨l', e⟩ := evOps_obs _ _ _ _ _ _ he
            rw [e] at hob
            exact (allP_append hob).2
          obtain ⟨k1, k2⟩ := evOp_still e1
          have next : ∀ v, Agree E1 (a.put o.dst v) → wpOrd P ops (Stay Hf) R (marks is ++ rest) (a.put o.dst v) w := fun v hA =>
            ordF_go (ν := ν) hF is hs l' E1 E' s1 s' rest (a.put o.dst v) w h2 he (k1.trans hh) (k2.trans hk) hg.2 hA (by rw [put_size]; exact hsz) hob fun a' q1 q2 q3 => K a' q1 (q2.trans (put_size _ _ _)) (q3.trans (put_defers _ _ _))
          show wpOrd P ops (Stay Hf) R ((i, 1) :: (marks is ++ rest)) a w
          rcases evOp_q e1 hE hg1 hsz hob1 with ⟨hw, r, hA, hrun⟩ | ⟨hw, hA⟩
          · refine ⟨o, r.getD undef, h1, .inl ⟨hw, fun w' hV => ?_⟩, next _ hA⟩
            have := hrun w' (by
              have := hF w' hV
              exact ⟨by rw [hh]; exact this.holds, by rw [hh]; exact this.apart, by rw [hk]; exact this.name⟩)
            cases r with
            | none => exact .inr ⟨this, rfl⟩
            | some v => exact .inl this
          · exact ⟨o, undef, h1, .inr ⟨hw, rfl⟩, next _ hA⟩
        · simp at he
    · simp at ho

/-- What reading operations do, in short. -/
def SegF (P : Program) (n : Nat) (ops : Array Oper) (hs : List Hint) (is : List Nat) (E : Env) (Hf : Heap) (kE : List Nat) (K : Env → Prop) : Prop :=
  ∃ (pE : List (Nat × Value)) (ob : List Ob) (l : List Oper), opsAt ops is = some l ∧ evSeg P n true ops (fun _ => 0) hs l E Hf (sk pE kE) [] = some (selE pE E kE, [], obP ob) ∧ obQ ob ∧ K (selE pE E kE)

def segFB (P : Program) (n : Nat) (ops : Array Oper) (hs : List Hint) (is : List Nat) (E : Env) (Hf : Heap) (kE : List Nat) : Option (Env × Heap × List Prop) :=
  match opsAt ops is with
  | some l => evSeg P n true ops (fun _ => 0) hs l E Hf kE []
  | none => none

theorem segF {hs : List Hint} {is : List Nat} {kE : List Nat} {K : Env → Prop} (pE : List (Nat × Value)) (ob : List Ob) (hq : obQ ob) (h : K (selE pE E kE)) (he : segFB P n ops hs is E Hf (sk pE kE) = some (selE pE E kE, [], obP ob) := by as_aux_lemma => kernel_rfl) : SegF P n ops hs is E Hf kE K := by
  unfold segFB at he
  split at he
  · rename_i l hl
    exact ⟨pE, ob, l, hl, he, hq, h⟩
  · cases he

/-- Reading operations, which may come whenever. -/
theorem St.ordF (hs : List Hint) (is : List Nat) (kE : List Nat) {rest : List (Nat × Nat)} (hS : St c n E H A a w) (hap : Hf.Pairwise apartP) (h : SegF P n ops hs is E Hf kE fun E' => ∀ a', St c n E' H A a' w → wpOrd P ops (Stay Hf) R rest a' w) : wpOrd P ops (Stay Hf) R (marks is ++ rest) a w := by
  obtain ⟨pE, ob, l, h1, he, hq, hK⟩ := h
  obtain ⟨g1, g2, E1, s1, g3, g4, g5, e3⟩ := evSeg_spec he
  have hob : AllP s1.ob := e3 ▸ hq.all
  refine ordF_go (ν := fun _ => 0) (fun w' hV => ⟨hV, hap, fun j => by show w'.heap.size + (0 + j) = _; omega⟩) is hs l E E1 _ s1 rest a w h1 g3 rfl rfl g1 hS.env hS.size hob fun a' q1 q2 q3 => ?_
  exact hK a' ⟨q3.trans hS.defers, by rw [q2]; exact hS.size, pickE_agree q1 g4, hS.mem⟩

theorem nAt_of_wpList1 {i : Nat} {o : Oper} {K : Act → World → Prop} (hi : ops[i]? = some o) (h : (Region.wanted o (yielded ops a.tmps) = true ∧ nOp P o a w K) ∨ (Region.wanted o (yielded ops a.tmps) = false ∧ K (a.put o.dst undef) w)) : nAt P ops i K a w := by
  unfold nAt
  simp only [hi]
  rcases h with ⟨hw, h⟩ | ⟨hw, h⟩
  · rw [if_pos hw]; exact h
  · rw [if_neg (by rw [hw]; simp)]; exact h

/-- One operation that turns memory, or reads it, in its turn. -/
theorem St.ord1 (i : Nat) (hs : List Hint) (kE : List Nat) {rest : List (Nat × Nat)} {o : Oper} (p : List Nat) (hS : St c n E H A a w) (hi : ops[i]? = some o)
    (h : ∀ ν : Nat → Nat, Seg P n false ops ν hs [o] E H kE fun E' H' => pickH H' p = some Hf ∧ ∀ a' w', St c n E' H' A a' w' → wpOrd P ops (Stay Hf) R rest a' w') : wpOrd P ops (Stay Hf) R ((i, 0) :: rest) a w := by
  obtain ⟨pE, pH, ob, he, hq, hp, hk⟩ := h (fun j => w.heap.size + j)
  have hob := hq.all
  obtain ⟨g1, g2, E1, s1, g3, g4, g5, e3⟩ := evSeg_spec he
  rw [← e3] at hob
  refine nAt_of_wpList1 hi ?_
  cases hs with
  | nil => simp [evOps] at g3
  | cons hn hs =>
    simp only [evOps] at g3
    split at g3
    · rename_i E2 s2 h1
      cases hs with
      | cons _ _ => simp [evOps] at g3
      | nil =>
        simp only [evOps, Option.some.injEq, Prod.mk.injEq] at g3
        obtain ⟨rfl, rfl⟩ := g3
        simp only [guardsOk, Bool.and_true] at g1
        have hg1 : ∀ d want, guardSlot ops o = some (d, want) → d < n := by
          intro d want hd
          rw [hd] at g1
          simpa using g1
        have fin : ∀ (u : Value) (w' : World), Agree E2 (a.put o.dst u) → Fine (fun j => w.heap.size + j) s2 w' → Own H w w' → Grew w ⟨H, 0, []⟩ s2 → Stay Hf w' ∧ wpOrd P ops (Stay Hf) R rest (a.put o.dst u) w' := fun u w' hA F O G => by
          have hS' : St c n (selE pE E kE) (selH H pH) A (a.put o.dst u) w' := ⟨(put_defers _ _ _).trans hS.defers, by rw [put_size]; exact hS.size, pickE_agree hA g4, (O.ws hS.mem F.holds F.apart G.new).pick g5 g2⟩
          exact ⟨hS'.mem.stay hp, hk _ _ hS'⟩
        rcases evOp_sound h1 hS.env hg1 hS.size hS.mem.fine hob with ⟨hw, r, w1, ⟨hr, F1, O1, G1⟩, A1⟩ | ⟨hw, F1, G1, A1⟩
        · refine .inl ⟨hw, ?_⟩
          unfold nOp
          rw [hr]
          cases r with
          | none => exact fin _ _ A1 F1 O1 G1
          | some v => exact fin _ _ A1 F1 O1 G1
        · exact .inr ⟨hw, fin _ _ A1 F1 (Own.refl _ _) G1⟩
    · simp at g3

/-- The same behind all reading ones. -/
theorem St.ord2 (i : Nat) (hs : List Hint) (kE : List Nat) {rest : List (Nat × Nat)} {o : Oper} (hS : St c n E H A a w) (hi : ops[i]? = some o)
    (h : ∀ ν : Nat → Nat, Seg P n false ops ν hs [o] E H kE fun E' H' => ∀ a' w', St c n E' H' A a' w' → wpOrd P ops (Stay Hf) R rest a' w') : wpOrd P ops (Stay Hf) R ((i, 2) :: rest) a w := by
  obtain ⟨pE, pH, ob, he, hq, hk⟩ := h (fun j => w.heap.size + j)
  have hob := hq.all
  obtain ⟨g1, g2, E1, s1, g3, g4, g5, e3⟩ := evSeg_spec he
  rw [← e3] at hob
  refine nAt_of_wpList1 hi ?_
  cases hs with
  | nil => simp [evOps] at g3
  | cons hn hs =>
    simp only [evOps] at g3
    split at g3
    · rename_i E2 s2 h1
      cases hs with
      | cons _ _ => simp [evOps] at g3
      | nil =>
        simp only [evOps, Option.some.injEq, Prod.mk.injEq] at g3
        obtain ⟨rfl, rfl⟩ := g3
        simp only [guardsOk, Bool.and_true] at g1
        have hg1 : ∀ d want, guardSlot ops o = some (d, want) → d < n := by
          intro d want hd
          rw [hd] at g1
          simpa using g1
        have fin : ∀ (u : Value) (w' : World), Agree E2 (a.put o.dst u) → Fine (fun j => w.heap.size + j) s2 w' → Own H w w' → Grew w ⟨H, 0, []⟩ s2 → wpOrd P ops (Stay Hf) R rest (a.put o.dst u) w' := fun u w' hA F O G => by
          have hS' : St c n (selE pE E kE) (selH H pH) A (a.put o.dst u) w' := ⟨(put_defers _ _ _).trans hS.defers, by rw [put_size]; exact hS.size, pickE_agree hA g4, (O.ws hS.mem F.holds F.apart G.new).pick g5 g2⟩
          exact hk _ _ hS'
        rcases evOp_sound h1 hS.env hg1 hS.size hS.mem.fine hob with ⟨hw, r, w1, ⟨hr, F1, O1, G1⟩, A1⟩ | ⟨hw, F1, G1, A1⟩
        · refine .inl ⟨hw, ?_⟩
          unfold nOp
          rw [hr]
          cases r with
          | none => exact fin _ _ A1 F1 O1 G1
          | some v => exact fin _ _ A1 F1 O1 G1
        · exact .inr ⟨hw, fin _ _ A1 F1 (Own.refl _ _) G1⟩
    · simp at g3

/-- A call in its turn. -/
theorem St.ordC (i : Nat) {o : Oper} {rest : List (Nat × Nat)} (hS : St c n E H A a w) (f : FuncId) (args : Array Value) {R' : Ending → World → Prop} (hC : Calls P f args w R') (hk : ∀ e w', R' e w' → ∃ v, e = .returned v ∧ Stay Hf w' ∧ wpOrd P ops (Stay Hf) R rest (a.put o.dst v) w')
    (hi : ops[i]? = some o := by rfl) (hgn : o.guard = none := by rfl) (he : evCall P ops 0 0 E H o = some (f, args, []) := by as_aux_lemma => kernel_rfl) : wpOrd P ops (Stay Hf) R ((i, 0) :: rest) a w := by
  have hb : ∀ d want, guardSlot ops o = some (d, want) → d < a.tmps.size := by
    intro d want hd
    obtain ⟨j, hj, _⟩ := guardSlot_some hd
    rw [hgn] at hj; cases hj
  obtain ⟨hw, hr⟩ := evCall_run (c := c) (A := A) he trivial hS.env hb
  refine nAt_of_wpList1 hi (.inl ⟨hw, ?_⟩)
  unfold nOp
  rw [hr w hS.mem]
  exact hC.mono fun e w' hR => by
    obtain ⟨v, h1, h2, h3⟩ := hk e w' hR
    exact ⟨v, h1, h2, h3⟩

/-- The same behind all reading ones. -/
theorem St.ordC2 (i : Nat) {o : Oper} {rest : List (Nat × Nat)} (hS : St c n E H A a w) (f : FuncId) (args : Array Value) {R' : Ending → World → Prop} (hC : Calls P f args w R') (hk : ∀ e w', R' e w' → ∃ v, e = .returned v ∧ wpOrd P ops (Stay Hf) R rest (a.put o.dst v) w')
    (hi : ops[i]? = some o := by rfl) (hgn : o.guard = none := by rfl) (he : evCall P ops 0 0 E H o = some (f, args, []) := by as_aux_lemma => kernel_rfl) : wpOrd P ops (Stay Hf) R ((i, 2) :: rest) a w := by
  have hb : ∀ d want, guardSlot ops o = some (d, want) → d < a.tmps.size := by
    intro d want hd
    obtain ⟨j, hj, _⟩ := guardSlot_some hd
    rw [hgn] at hj; cases hj
  obtain ⟨hw, hr⟩ := evCall_run (c := c) (A := A) he trivial hS.env hb
  refine nAt_of_wpList1 hi (.inl ⟨hw, ?_⟩)
  unfold nOp
  rw [hr w hS.mem]
  exact hC.mono fun e w' hR => by
    obtain ⟨v, h1, h2⟩ := hk e w' hR
    exact ⟨v, h1, h2⟩

theorem ord_nil (h : R a w) {Hf : Heap} : wpOrd P ops (Stay Hf) R [] a w := h

theorem WS.pairs {l : List Nat} (h : WS c H A w) (hp : pickH H l = some Hf := by as_aux_lemma => kernel_rfl) (hi : incr 0 l = true := by rfl) : Hf.Pairwise apartP := (h.pick hp hi).apart

/-- An operation whose run is known. -/
def Runs1 (P : Program) (o : Oper) (a : Act) (w : World) (K : Act → World → Prop) : Prop := ∃ v w', (execOp a.eval o).run P w = .ok (.value v) w' ∧ K (a.put o.dst v) w'

theorem Runs1.list {o : Oper} {rest : List Oper} (h : Runs1 P o a w (wpList P ops Q rest)) (hg : o.guard = none := by rfl) : wpList P ops Q (o :: rest) a w := by
  obtain ⟨v, w', h1, h2⟩ := h
  unfold wpList
  rw [if_pos (by simp [Region.wanted, hg])]
  refine .inl ?_
  unfold Oper.wp
  rw [h1]
  exact h2

theorem Runs1.ord {i : Nat} {o : Oper} {rest : List (Nat × Nat)} (h : Runs1 P o a w (fun a' w' => Stay Hf w' ∧ wpOrd P ops (Stay Hf) R rest a' w')) (hi : ops[i]? = some o := by rfl) (hg : o.guard = none := by rfl) : wpOrd P ops (Stay Hf) R ((i, 0) :: rest) a w := by
  obtain ⟨v, w', h1, h2⟩ := h
  refine nAt_of_wpList1 hi (.inl ⟨by simp [Region.wanted, hg], ?_⟩)
  unfold nOp
  rw [h1]
  exact h2

theorem Runs1.ord2 {i : Nat} {o : Oper} {rest : List (Nat × Nat)} (h : Runs1 P o a w (fun a' w' => wpOrd P ops (Stay Hf) R rest a' w')) (hi : ops[i]? = some o := by rfl) (hg : o.guard = none := by rfl) : wpOrd P ops (Stay Hf) R ((i, 2) :: rest) a w := by
  obtain ⟨v, w', h1, h2⟩ := h
  refine nAt_of_wpList1 hi (.inl ⟨by simp [Region.wanted, hg], ?_⟩)
  unfold nOp
  rw [h1]
  exact h2

theorem St.ordV {l : List Nat} {r : List (Nat × Nat)} (hS : St c n E H A a w) (h : wpOrd P ops (Stay Hf) R r a w) (hp : pickH H l = some Hf := by as_aux_lemma => kernel_rfl) : Stay Hf w ∧ wpOrd P ops (Stay Hf) R r a w := ⟨hS.mem.stay hp, h⟩

end
end Go.Proofs.YtlnecfdbmoilbaaDoor.K
