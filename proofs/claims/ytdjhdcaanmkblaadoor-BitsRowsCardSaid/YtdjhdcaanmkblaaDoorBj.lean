/-
  A range over a function in a walk by computing: marks among the deferred calls; the body of a round.
-/
import Derived.Test.YtdjhdcaanmkblaaDoorBi
import Derived.Test.YtdjhdcaanmkblaaDoorM3
namespace Go.Proofs.YtdjhdcaanmkblaaDoor.K
open Go.RowKit Go.Shelf
set_option linter.unusedSimpArgs false
set_option linter.unusedVariables false

/-- The block of a loop's deferred calls, of which there are none. -/
def dfR (D : Nat) : Res := ⟨one D, fun w => w.heap[D]? = some (.deferred (some [])), fun w h k hk => by
  have hk : k = D := hk
  subst hk; exact lt_of_some h, fun w w' h e => (e D rfl).trans h⟩
def markD (D : Nat) : Deferred := { target := .collected D, args := #[] }

theorem enterM {P : Program} {f : FuncId} {fn : Func} {code : Code} {args : List Value} {w : World} {R : Ending → World → Prop} {D : Nat → Prop} {A : List Res} (hf : P.funcs[f]? = some fn) (hb : fn.body = some code) (n : Nat) (hn : fn.ntmps = n) (H : Heap) (hw : WS ⟨w, D, []⟩ H A w)
    (h : ∀ a, St ⟨w, D, []⟩ n (envOf 0 args) H A a w → code.wp P (bodyPostM Fence.wide 3 P fn R) a w) : Calls P f args.toArray w R := by
  refine callsIn_wide.1 (callsIn_of_wp_marks (n := 3) hf hb trivial (wpIn_wide.2 (h _ ⟨rfl, ?_, agree_envOf args 0 rfl, hw⟩)) rfl)
  simp [hn]; omega

theorem HE.cellsObj {w : World} {b : Nat} {x : HE} (h : x.holds w b) : ∃ o : Obj, w.heap[b]? = some o ∧ o.isCells = true := by
  cases x with
  | cells cs T => exact ⟨_, h, rfl⟩
  | row e m tot f => obtain ⟨c, h1, _⟩ := h; exact ⟨_, h1, rfl⟩
  | fn lo hi f => obtain ⟨c, T, fz, h1, _⟩ := h; exact ⟨_, h1, rfl⟩

section
variable {P : Program} {c : Cx} {n : Nat} {E : Env} {H : Heap} {A : List Res} {a : Act} {w : World} {Q : Exit → Act → World → Prop}
theorem St.retM0 {fn : Func} {R : Ending → World → Prop} {m : Nat} (h : Nat) (hS : St c n E H A a w) (v : Value) (ob : List Ob) (hq : obQ ob) (hR : WS c H A w → R (.returned v) w) (he : evRes P fn h E H = some (v, obP ob) := by as_aux_lemma => kernel_rfl) (hds : c.ds = [] := by rfl) : bodyPostM Fence.wide m P fn R .ret a w := by
  show LeavesInM Fence.wide m P fn a.tmps R a.defers .returning w
  rw [hS.defers, hds]
  exact ⟨v, evRes_run hS he hq.all, hR hS.mem⟩
/-- Blocks that hold no cells, and lie behind, may turn. -/
theorem WS.grown {Y : World} {row : Option Nat} {B : Nat} (h : WS c H [] w) (hg : w.grownBy Y row) (hr : ∀ r, row = some r → B ≤ r ∧ ∃ o : Obj, w.heap[r]? = some o ∧ o.isCells = false) (hB : c.w0.heap.size ≤ B) : WS c H [] Y := by
  have hk : ∀ e ∈ H, Y.heap[e.1]? = w.heap[e.1]? := fun e he => by
    refine hg.block e.1 (h.heap e he).lt fun q => ?_
    obtain ⟨_, o, ho, hc⟩ := hr e.1 q.symm
    obtain ⟨o2, ho2, hc2⟩ := HE.cellsObj (h.heap e he)
    rw [ho] at ho2; cases ho2
    rw [hc] at hc2; cases hc2
  refine ⟨fun e he => (h.heap e he).congr (hk e he), h.apart, h.mine, h.free, AllAr.nil _, ⟨hg.os.trans h.fr.os, hg.tape.trans h.fr.tape, hg.output.trans h.fr.output, Nat.le_trans h.fr.size hg.size, fun k hk2 hn => ?_, h.fr.foot⟩⟩
  rw [hg.block k (Nat.lt_of_lt_of_le hk2 h.fr.size) (fun q => ?_), h.fr.block k hk2 hn]
  have := (hr k q.symm).1
  omega
/-- The block of the deferred calls is held. -/
theorem WS.withD {D : Nat} {ds : List Deferred} (h : WS c H [] w) (hD : c.w0.heap.size ≤ D) (hK : w.heap[D]? = some (.deferred (some []))) : WS ⟨c.w0, c.D, ds⟩ H [dfR D] w := by
  refine ⟨h.heap, h.apart, h.mine, fun e he hk => ?_, AllAr.one hK, h.fr.to (fun k hk => .inl hk) (fun k hk => ?_)⟩
  · have hk : e.1 = D := hk.elim id (fun q => q.elim)
    obtain ⟨o, ho, hc⟩ := HE.cellsObj (h.heap e he)
    rw [hk, hK] at ho; cases ho; cases hc
  · have hk : k = D := hk.elim id (fun q => q.elim)
    exact .inr (hk ▸ hD)
theorem WS.dropD {D : Nat} (h : WS c H [dfR D] w) (o : Obj) : WS c H [] (w.putObj D o) := by
  have hK : w.heap[D]? = some (.deferred (some [])) := h.res (r := dfR D) 0
  have hg := grownBy_putObj' w D o
  have hD : c.D D ∨ c.w0.heap.size ≤ D := h.fr.foot D (.inl rfl)
  refine ⟨fun e he => (h.heap e he).congr (hg.block e.1 (h.heap e he).lt fun q => ?_), h.apart, h.mine, (fun e _ hk => hk.elim), AllAr.nil _, ⟨hg.os.trans h.fr.os, hg.tape.trans h.fr.tape, hg.output.trans h.fr.output, Nat.le_trans h.fr.size hg.size, fun k hk2 hn => ?_, fun k hk => hk.elim⟩⟩
  · have q : e.1 = D := Option.some.inj q
    exact h.free e he (.inl q)
  · rw [hg.block k (Nat.lt_of_lt_of_le hk2 h.fr.size) (fun q => ?_), h.fr.block k hk2 hn]
    have q : k = D := Option.some.inj q
    subst q
    rcases hD with hD | hD
    · exact hn hD
    · omega
theorem St.retM1 {fn : Func} {R : Ending → World → Prop} {m D : Nat} (h : Nat) (hS : St c n E H [dfR D] a w) (v : Value) (ob : List Ob) (hq : obQ ob) (hR : ∀ {w'}, WS c H [] w' → R (.returned v) w') (he : evRes P fn h E H = some (v, obP ob) := by as_aux_lemma => kernel_rfl) (hds : c.ds = [markD D] := by rfl) : bodyPostM Fence.wide m P fn R .ret a w := by
  show LeavesInM Fence.wide m P fn a.tmps R a.defers .returning w
  have hK : w.heap[D]? = some (.deferred (some [])) := hS.mem.res (r := dfR D) 0
  rw [hS.defers, hds]
  refine ⟨by simp, .inl ⟨D, _, rfl, run_takeDeferred hK, ?_⟩⟩
  have hW := hS.mem.dropD (.deferred none)
  exact ⟨v, evRes_run (A := []) ⟨hS.defers, hS.size, hS.env, hW⟩ he hq.all, hR hW⟩

/-! ## A round -/
theorem wpListIn_of {ops : Array Oper} {r m : Nat} (hQ : ¬ LetsOut Q) : ∀ (l : List Oper) (a : Act) (w : World), (∀ o ∈ l, (∀ c, o.op ≠ .defer c) ∧ ∀ c, o.op ≠ .call c) → wpList P ops Q l a w → wpListIn (Fence.wide.inRound r) m P ops Q l a w
  | [], _, _, _, h => h
  | o :: rest, a, w, hl, h => by
    obtain ⟨hd, hc⟩ := hl o List.mem_cons_self
    have ih := wpListIn_of (ops := ops) (r := r) (m := m) hQ rest
    have hr := fun o ho => hl o (List.mem_cons_of_mem _ ho)
    unfold wpList at h
    unfold wpListIn
    split at h
    · rename_i hw
      rw [if_pos hw]
      refine ⟨fun _ _ => trivial, ?_⟩
      rcases h with h | h
      · unfold Oper.wp at h
        rw [show (Fence.wide.inRound r).round = some r from rfl, Oper.semAt_some r _ _ hd]
        generalize hx : (execOp a.eval o).run P w = x at *
        cases x with
        | ok v w' =>
          cases v with
          | value v => exact ih _ _ hr h
          | skip => exact ih _ _ hr h
          | defer d => exact ih _ _ hr h
          | enter f args =>
            refine ⟨fun q => (by cases q), ((callsIn_wide.2 h).inRound r).mono fun e w'' h => ?_⟩
            cases e with
            | returned v => exact ih _ _ hr h
            | panicked ch => exact h
            | outgrown => exact h
          | row row args => exact ⟨fun q => (by cases q), fun c cs _ => let ⟨v, w'', r1, s⟩ := h c cs; ⟨v, w'', ih _ _ hr r1, stepsIn_wide.2 s⟩⟩
          | _ => exact h.elim
        | halt s w' =>
          cases s <;> first | exact h | exact h.elim
      · exact absurd h.2 hQ
    · rename_i hw
      rw [if_neg hw]
      exact ⟨fun _ _ => trivial, ih _ _ hr h⟩
def noCall : Op → Bool
  | .call _ => false
  | .defer _ => false
  | _ => true
theorem noCall_go {l : List Oper} (h : l.all (fun o => noCall o.op) = true) : ∀ o ∈ l, (∀ c, o.op ≠ .defer c) ∧ ∀ c, o.op ≠ .call c := fun o ho => by
  have := List.all_eq_true.1 h o ho
  refine ⟨fun c e => ?_, fun c e => ?_⟩ <;> rw [e] at this <;> cases this
theorem St.regI {id r m : Nat} {l : List Oper} (hs : List Hint) (kE : List Nat) (hS : St c n E H A a w)
    (h : ∀ ν : Nat → Nat, Seg P n false l.toArray ν hs l E H kE fun E' H' => ∀ a' w', St c n E' H' A a' w' → Q .normal a' w') (hl : l.all (fun o => noCall o.op) = true := by rfl) : (Code.region id l.toArray false).wpIn (Fence.wide.inRound r) m P Q a w := by
  have h1 := hS.seg1 (Q := fun e a w => e = .normal ∧ Q .normal a w) (rest := []) (h _) (fun E' H' h a' w' hs' => ⟨rfl, h a' w' hs'⟩)
  rw [List.append_nil] at h1
  have h2 := wpListIn_of (r := r) (m := m) (fun ⟨_, _, q⟩ => by cases q.1) l a w (noCall_go hl) h1
  exact wpIn_mono (wpIn_region_lit h2) (fun e a w q => by obtain ⟨rfl, q⟩ := q; exact q)
theorem St.regIS {id r m : Nat} {l : List Oper} {y : Code} (hs : List Hint) (kE : List Nat) (hS : St c n E H A a w)
    (h : ∀ ν : Nat → Nat, Seg P n false l.toArray ν hs l E H kE fun E' H' => ∀ a' w', St c n E' H' A a' w' → y.wpIn (Fence.wide.inRound r) m P Q a' w') (hl : l.all (fun o => noCall o.op) = true := by rfl) : ((Code.region id l.toArray false).seq y).wpIn (Fence.wide.inRound r) m P Q a w :=
  wpIn_seq (hS.regI hs kE h hl)
theorem St.condI {F : Fence} {m t : Nat} {x y : Code} {b : Bool} (hS : St c n E H A a w) (hl : look E t = some ([], .bool b)) (h1 : b = true → x.wpIn F m P Q a w) (h2 : b = false → y.wpIn F m P Q a w) : (Code.cond (.tmp t) x y).wpIn F m P Q a w := by
  have hc : a.eval (.tmp t) = .bool b := hS.env.at (look_mem hl) (fun p hp => nomatch hp)
  cases b with
  | true => exact wpIn_cond_true hc (h1 rfl)
  | false => exact wpIn_cond_false hc (h2 rfl)
theorem St.condCI {F : Fence} {m t : Nat} {x y : Code} {p q : Prop} (hS : St c n E H A a w) (b : Bool) [hp : Nrm b true p] [hq : Nrm b false q] (h1 : b = true → p → x.wpIn F m P Q a w) (h2 : b = false → q → y.wpIn F m P Q a w) (hl : look E t = some ([], .bool b) := by as_aux_lemma => kernel_rfl) : (Code.cond (.tmp t) x y).wpIn F m P Q a w :=
  hS.condI hl (fun h => h1 h (hp.go h)) (fun h => h2 h (hq.go h))
theorem wpIn_assign1 {id r m : Nat} {o : Oper} {x : Operand} (hg : o.guard = none) (ho : o.op = .assign x) (hQ : Q .normal (a.put o.dst (a.eval x)) w) : (Code.region id [o].toArray false).wpIn (Fence.wide.inRound r) m P Q a w := by
  refine wpIn_region_lit ?_
  unfold wpListIn
  rw [if_pos (by unfold Region.wanted; rw [hg])]
  refine ⟨fun _ _ => trivial, ?_⟩
  rw [show (Fence.wide.inRound r).round = some r from rfl, Oper.semAt_some r _ _ (fun c => by rw [ho]; intro q; cases q)]
  have : (execOp a.eval o).run P w = .ok (.value (a.eval x)) w := by unfold execOp; rw [ho]; rfl
  rw [this]
  exact hQ
/-- Behind the two assignments that begin a round. -/
def asgA (a : Act) (p1 p2 q1 q2 : Nat) (v1 v2 : Value) : Act :=
  (({ tmps := (#[p1, p2].zip #[v1, v2]).foldl (fun t (p, v) => t.setIfInBounds p v) a.tmps, defers := [] } : Act).put (some q1) (({ tmps := (#[p1, p2].zip #[v1, v2]).foldl (fun t (p, v) => t.setIfInBounds p v) a.tmps, defers := [] } : Act).eval (.tmp p1))).put (some q2)
    ((({ tmps := (#[p1, p2].zip #[v1, v2]).foldl (fun t (p, v) => t.setIfInBounds p v) a.tmps, defers := [] } : Act).put (some q1) (({ tmps := (#[p1, p2].zip #[v1, v2]).foldl (fun t (p, v) => t.setIfInBounds p v) a.tmps, defers := [] } : Act).eval (.tmp p1))).eval (.tmp p2))
theorem St.asg2 {c' : Cx} {H' : Heap} {A' : List Res} {W : World} (hS : St c n E H A a w) (p1 p2 q1 q2 : Nat) (v1 v2 : Value) (hb : p1 < n ∧ p2 < n ∧ q1 < n ∧ q2 < n) (hm : WS c' H' A' W) (hc : c'.ds = [])
    (hl1 : look (putE (putE E p1 [] v1) p2 [] v2) p1 = some ([], v1) := by as_aux_lemma => kernel_rfl) (hl2 : look (putE (putE (putE E p1 [] v1) p2 [] v2) q1 [] v1) p2 = some ([], v2) := by as_aux_lemma => kernel_rfl) :
    St c' n (putE (putE (putE (putE E p1 [] v1) p2 [] v2) q1 [] v1) q2 [] v2) H' A' (asgA a p1 p2 q1 q2 v1 v2) W := by
  have h0 : St c' n E H' A' { tmps := a.tmps, defers := [] } W := ⟨hc.symm, hS.size, hS.env, hm⟩
  have h2 := (h0.put (d := p1) (v := v1) hb.1).put (d := p2) (v := v2) hb.2.1
  have e1 : Act.eval _ (.tmp p1) = v1 := h2.env.at (look_mem hl1) (fun p hp => nomatch hp)
  have h3 := h2.put (d := q1) (v := v1) hb.2.2.1
  have e2 : Act.eval _ (.tmp p2) = v2 := h3.env.at (look_mem hl2) (fun p hp => nomatch hp)
  have h4 := h3.put (d := q2) (v := v2) hb.2.2.2
  have ea : ({ tmps := (#[p1, p2].zip #[v1, v2]).foldl (fun t (p, v) => t.setIfInBounds p v) a.tmps, defers := [] } : Act) = (({ tmps := a.tmps, defers := [] } : Act).put (some p1) v1).put (some p2) v2 := by
    rw [show (#[p1, p2].zip #[v1, v2]) = #[(p1, v1), (p2, v2)] from by simp]
    simp [Act.put]
  have e : asgA a p1 p2 q1 q2 v1 v2 = ((((({ tmps := a.tmps, defers := [] } : Act).put (some p1) v1).put (some p2) v2).put (some q1) v1).put (some q2) v2) := by
    unfold asgA
    rw [ea, e1, e2]
  rw [e]; exact h4
end

theorem keeps_of {W W' : World} {s1 s2 : Nat} {y1 y2 : HE} (hF : Fr W W' (orF (one s1) (one s2)) no) (h1 : y1.holds W s1) (h2 : y2.holds W s2) (B : Nat) : KeepsFrom B W W' := by
  refine ⟨hF.size, fun k o _ hk ho => (hF.block k (lt_of_some hk) fun q => ?_).trans hk⟩
  have go : ∀ {y : HE}, y.holds W k → False := fun hy => by
    obtain ⟨o2, ho2, hc2⟩ := HE.cellsObj hy
    rw [hk] at ho2; cases ho2; rw [ho] at hc2; cases hc2
  rcases q with q | q
  · have q : k = s1 := q
    subst q; exact go h1
  · have q : k = s2 := q
    subst q; exact go h2
theorem keepK_of {W W' : World} {s1 s2 : Nat} {K : Nat → Prop} (hF : Fr W W' (orF (one s1) (one s2)) no) (h : ∀ k, K k → k < W.heap.size ∧ ¬ one s1 k ∧ ¬ one s2 k) : KeepK K W W' :=
  ⟨hF.size, fun k hk => hF.block k (h k hk).1 fun q => q.elim (h k hk).2.1 (h k hk).2.2⟩
theorem RdS.of {W : World} {Bn g o c nw : Nat} {ws : Nat → Nat} {N : Nat} (hb : HE.holds W Bn (.fn 0 2 (roF [vi (N : Int), sc g o nw c]))) (hdb : HE.holds W 0 (.fn 0 64 dbT)) (hws : HE.holds W g (.fn o (o + nw) (u64s ws o))) : RdS W Bn g o c nw ws N := by
  obtain ⟨cs, T, fz, h1, h2⟩ := hb
  have e0 := h2 0 (by omega) (by omega)
  have e1 := h2 1 (by omega) (by omega)
  refine ⟨?_, ?_, hdb, hws⟩
  · unfold World.cell?; simp only [h1]; exact e0
  · unfold World.cell?; simp only [h1]; exact e1

/-! ## The rows of a set, gone through -/
theorem set_same {α : Type} {H : List α} {i : Nat} {x : α} (h : H[i]? = some x) : H.set i x = H := by
  apply List.ext_getElem?
  intro j
  rw [List.getElem?_set]
  split
  · rename_i e
    subst e
    split
    · exact h.symm
    · rename_i q
      rw [List.getElem?_eq_none (by omega)] at h; cases h
  · rfl
theorem St.rangeRows {w0 w1 : World} {nn p1 p2 q1 q2 bi : Nat} {E : Env} {H : Heap} {a : Act} {Q' : Exit → Act → World → Prop} {gop : Operand} {assign body : Code}
    (hS : St ⟨w0, no, []⟩ nn E H [] a w1) (Bn g o c nw : Nat) (ws : Nat → Nat) (N : Nat) (p : Nat → Bool) (hW : Words ws nw N p) (hN : N ≤ 1048576) (stop : Int) (h0 : 0 ≤ stop)
    (hg : a.eval gop = .func (.func 103) #[] #[.pointer (some ⟨Bn, 0, none⟩)]) (hRd : RdS w1 Bn g o c nw ws N)
    (i16 B16 : Nat) (T16 : TypeId) (h16 : H[i16]? = some (B16, .cells [vi 0] T16))
    (hassign : ∀ (r : Nat) (x : Int × Int) (W : World) (K : Act → World → Prop), K (asgA a p1 p2 q1 q2 (vi x.1) (vi x.2)) W → assign.wpIn (Fence.wide.inRound r) 1 Tryd.prog (Exit.then K (fun _ _ _ => False)) { tmps := (#[p1, p2].zip #[vi x.1, vi x.2]).foldl (fun t (p, v) => t.setIfInBounds p v) a.tmps, defers := [] } W)
    (hbody : ∀ (r k : Nat) (x : Int × Int) (W : World), WS ⟨w0, no, []⟩ (H.set i16 (B16, .cells [vi ((k : Nat) : Int)] T16)) [] W → ((k : Nat) : Int) ≤ stop → k < (runs p N).length →
      body.wpIn (Fence.wide.inRound r) 1 Tryd.prog (fun e _ W' => KeepsFrom w1.heap.size W W' ∧
        ((e = .normal ∧ KeepK (fun k => k = 0 ∨ k = g ∨ k = Bn) W W' ∧ WS ⟨w0, no, []⟩ (H.set i16 (B16, .cells [vi ((k + 1 : Nat) : Int)] T16)) [] W' ∧ ((k + 1 : Nat) : Int) ≤ stop) ∨
         (e = .exit bi ∧ WS ⟨w0, no, []⟩ (H.set i16 (B16, .cells [vi ((k + 1 : Nat) : Int)] T16)) [] W' ∧ ((k + 1 : Nat) : Int) = stop + 1) ∨ (e = .ret ∧ x ≠ (runs p N).getD k (0, 0)))) (asgA a p1 p2 q1 q2 (vi x.1) (vi x.2)) W)
    (hk : ∀ (D k : Nat) (W : World), (((k : Int) = stop + 1 ∧ k ≤ (runs p N).length) ∨ (k = (runs p N).length ∧ (k : Int) ≤ stop)) → St ⟨w0, no, [markD D]⟩ nn E (H.set i16 (B16, .cells [vi ((k : Nat) : Int)] T16)) [dfR D] { a with defers := [markD D] } W → Q' .normal { a with defers := [markD D] } W) :
    (Code.rangeFunc gop #[p1, p2] assign body).wp Tryd.prog (Exit.inBlock bi Q') a w1 := by
  refine (wpIn_wide (n := 3)).1 ?_
  have hw : w0.heap.size ≤ w1.heap.size := hS.mem.fr.size
  refine wpIn_rangeFunc_ownG (α := Int × Int) rfl (by decide) (gf := 103) (lb := #[.pointer (some ⟨Bn, 0, none⟩)]) hg trivial (enters_of Tryd.func103 (by kernel_rfl) rfl)
    (Rows_stops 2 (by decide) Bn g o c nw ws N p hW hN w1 hRd) keepK_t (keepK_b (fun k hk => hRd.lt hk)) (Below.refl _ _) (fun _ => rfl)
    (fun pre W => WS ⟨w0, no, []⟩ (H.set i16 (B16, .cells [vi ((pre.length : Nat) : Int)] T16)) [] W ∧ ((pre.length : Nat) : Int) ≤ stop)
    (fun cd xs W => (cd = .exit bi ∧ WS ⟨w0, no, []⟩ (H.set i16 (B16, .cells [vi ((xs.length : Nat) : Int)] T16)) [] W ∧ ((xs.length : Nat) : Int) = stop + 1) ∨ (cd = .ret ∧ ¬ xs <+: runs p N))
    (fun s W W' row hs hg2 hr => ⟨hs.1.grown hg2 hr hw, hs.2⟩)
    (fun cd s W W' row hs hg2 hr => hs.imp (fun q => ⟨q.1, q.2.1.grown hg2 hr hw, q.2.2⟩) id)
    ⟨by show WS _ (H.set i16 (B16, .cells [vi ((0 : Nat) : Int)] T16)) [] w1; rw [show ((0 : Nat) : Int) = 0 from rfl, set_same h16]; exact hS.mem, h0⟩
    (fun x => asgA a p1 p2 q1 q2 (vi x.1) (vi x.2)) ?assign ?body ?done ?stop
  case assign => exact fun l x W K h => hassign l x W K h
  case body =>
    rintro l pre x W ⟨h1, h2⟩ h3
    refine wpIn_mono (hbody l pre.length x W h1 h2 h3) ?_
    rintro e a' W' ⟨hkf, ⟨rfl, b1, b2, b3⟩ | ⟨rfl, b2, b3⟩ | ⟨rfl, b1⟩⟩
    · exact ⟨hkf, b1, by rw [List.length_append]; exact b2, by rw [List.length_append]; exact b3⟩
    · exact ⟨hkf, .inl ⟨rfl, by rw [List.length_append]; exact b2, by rw [List.length_append]; exact b3⟩⟩
    · refine ⟨hkf, .inr ⟨rfl, fun hp => b1 ?_⟩⟩
      obtain ⟨q1, q2⟩ := pfx_at hp
      rw [List.getD_eq_getElem?_getD, List.getElem?_eq_getElem q1]; exact q2.symm
  case done =>
    rintro D xs W hD rfl ⟨h1, h2⟩ hK
    show Q' .normal _ W
    rw [hS.defers]
    exact hk D _ W (.inr ⟨rfl, h2⟩) ⟨rfl, hS.size, hS.env, h1.withD (by show w0.heap.size ≤ D; omega) hK⟩
  case stop =>
    rintro D cd pre W hD hp (⟨rfl, h1, h2⟩ | ⟨rfl, h1⟩) hK
    · refine wpIn_exit ?_
      show Exit.inBlock bi Q' (.exit bi) _ W
      simp only [Exit.inBlock, if_true]
      rw [hS.defers]
      exact hk D _ W (.inl ⟨h2, hp.length_le⟩) ⟨rfl, hS.size, hS.env, h1.withD (by show w0.heap.size ≤ D; omega) hK⟩
    · exact absurd hp h1
end Go.Proofs.YtdjhdcaanmkblaaDoor.K
