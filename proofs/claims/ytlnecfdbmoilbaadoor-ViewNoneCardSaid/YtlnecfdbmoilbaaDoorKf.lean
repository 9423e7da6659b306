/-
  A walk by computing, sixth part: regions that draw, tests, calls, loops, ends.
-/
import Derived.Test.YtlnecfdbmoilbaaDoorKe
import Derived.Deep.LoopGhost
namespace Go.Proofs.YtlnecfdbmoilbaaDoor.K
set_option linter.unusedSimpArgs false
set_option linter.unusedVariables false

section
variable {P : Program} {c : Cx} {n : Nat} {E : Env} {H : Heap} {A : List Res} {a : Act} {w : World} {Q : Exit → Act → World → Prop}

theorem WS.drew (h : WS c H A w) : WS c H A { w with drawn := w.drawn + 1 } :=
  ⟨fun e he => (h.heap e he).congr rfl, h.apart, h.mine, h.free, h.ars.congr fun _ _ => rfl, ⟨h.fr.os, h.fr.tape, h.fr.output, h.fr.size, h.fr.block, h.fr.foot⟩⟩

theorem evSeg_spec {q : Bool} {ops : Array Oper} {ν : Nat → Nat} {hs : List Hint} {l : List Oper} {kE kH : List Nat} {E' : Env} {H' : Heap} {obs : List Prop} (he : evSeg P n q ops ν hs l E H kE kH = some (E', H', obs)) :
    guardsOk n ops l = true ∧ incr 0 kH = true ∧ ∃ E1 s1, evOps P n q ops ν hs l E ⟨H, 0, []⟩ = some (E1, s1) ∧ pickE E1 kE = some E' ∧ pickH s1.heap kH = some H' ∧ s1.ob = obs := by
  unfold evSeg at he
  split at he
  · rename_i hg
    simp only [Bool.and_eq_true] at hg
    split at he
    · rename_i E1 s1 h1
      split at he
      · rename_i E2 H2 h2 h3
        simp only [Option.some.injEq, Prod.mk.injEq] at he
        obtain ⟨rfl, rfl, rfl⟩ := he
        exact ⟨hg.1, hg.2, E1, s1, h1, h2, h3, rfl⟩
      · simp at he
    · simp at he
  · simp at he

/-- A part of a region that draws: operations that only read. -/
theorem quiet_seg {ops : Array Oper} {C : World → Prop} {K : Act → Prop} {l rest : List Oper} (hs : List Hint) (kE kH : List Nat) {E' : Env} {H' : Heap} {obs : List Prop} (he : evSeg P n true ops (fun _ => 0) hs l E H kE kH = some (E', H', obs)) (hob : AllP obs)
    (hE : Agree E a) (hsz : n ≤ a.tmps.size) (hd : a.defers = []) (hC : ∀ w, C w → WS c H A w)
    (h : ∀ a', Agree E' a' → n ≤ a'.tmps.size → a'.defers = [] → wpQuiet P ops C K rest a') : wpQuiet P ops C K (l ++ rest) a := by
  obtain ⟨h1, h2, E1, s1, h3, h4, h5, rfl⟩ := evSeg_spec he
  refine wpQuiet_evOps rest hs l _ _ _ _ a h3 h1 hE hsz (fun w hw => (hC w hw).fine) hob fun a' g1 g2 g3 _ => ?_
  exact h a' (pickE_agree g1 h4) (by rw [g2]; exact hsz) (g3.trans hd)

theorem evOps_heap {ops : Array Oper} {ν : Nat → Nat} : ∀ (hs : List Hint) (l : List Oper) (E E' : Env) (s s' : LS), evOps P n true ops ν hs l E s = some (E', s') → s'.heap = s.heap
  | [], [], E, E', s, s', he => by
    simp only [evOps, Option.some.injEq, Prod.mk.injEq] at he
    rw [← he.2]
  | hn :: hs, o :: l, E, E', s, s', he => by
    simp only [evOps] at he
    split at he
    · rename_i E1 s1 h1
      exact (evOps_heap hs l _ _ _ _ he).trans (evOp_still h1).1
    · simp at he
  | [], _ :: _, _, _, _, _, he => by simp [evOps] at he
  | _ :: _, [], _, _, _, _, he => by simp [evOps] at he

/-- A region that draws its order, whose operations only read. -/
theorem St.quiet {id : Nat} {l : List Oper} (hs : List Hint) (kE kH : List Nat) (hS : St c n E H A a w) (hm : P.follows .mixedOrders = true) (hB : Region.lexB .any l.toArray = true) {E' : Env} {H' : Heap} {obs : List Prop}
    (he : evSeg P n true l.toArray (fun _ => 0) hs l E H kE kH = some (E', H', obs)) (hob : AllP obs) (h : ∀ a' w', St c n E' H' A a' w' → Q .normal a' w') : (Code.region id l.toArray true).wp P Q a w := by
  refine wp_region_quiet (C := fun w' => WS c H A w') hm hB hS.mem.drew ?_
  have := quiet_seg (K := fun a' => ∀ w', WS c H A w' → Q .normal a' w') (rest := []) hs kE kH he hob hS.env hS.size hS.defers (C := fun w' => WS c H A w') (fun w h => h) fun a' h1 h2 h3 => wpQuiet_nil fun w' hw' => by
    obtain ⟨g1, g2, E1, s1, g3, g4, g5, _⟩ := evSeg_spec he
    have hh : s1.heap = H := evOps_heap _ _ _ _ _ _ g3
    exact h a' w' ⟨h3, h2, h1, hw'.pick (by rw [← hh]; exact g5) g2⟩
  rw [List.append_nil] at this
  simpa using this

/-- The same, told in parts: the whole region stands as a row of reading operations and calls. -/
theorem St.quiet_parts {id : Nat} {l : List Oper} (hS : St c n E H A a w) (hm : P.follows .mixedOrders = true) (hB : Region.lexB .any l.toArray = true)
    (h : wpQuiet P l.toArray (fun w' => WS c H A w') (fun a' => ∀ w', WS c H A w' → Q .normal a' w') l a) : (Code.region id l.toArray true).wp P Q a w :=
  wp_region_quiet (C := fun w' => WS c H A w') hm hB hS.mem.drew (by simpa using h)

theorem wpStill_of_quiet {ops : Array Oper} {K : Act → Prop} : ∀ (l : List Oper) (a : Act), wpQuiet P ops (fun w' => w' = w) K l a → wpStill P ops w K l a
  | [], a, h => h
  | o :: l, a, h => by
    unfold wpQuiet at h
    unfold wpStill
    split
    · rename_i hw
      rw [if_pos hw] at h
      obtain ⟨v, h1, h2⟩ := h
      have h1 := h1 w rfl
      unfold Oper.quietAt at h1
      unfold Oper.still
      generalize (execOp a.eval o).run P w = r at *
      cases r with
      | ok x w' =>
        cases x <;> simp only [Oper.quietUpon] at h1 <;> simp only [Oper.stillUpon]
        case value u => obtain ⟨e1, e2⟩ := h1; exact ⟨e1, by rw [e2]; exact wpStill_of_quiet l _ h2⟩
        case skip => obtain ⟨e1, e2⟩ := h1; exact ⟨e1, by rw [← e2]; exact wpStill_of_quiet l _ h2⟩
        case enter f args => obtain ⟨e1, e2⟩ := h1; exact ⟨e1, v, e2, wpStill_of_quiet l _ h2⟩
      | halt x w' => simp only [Oper.quietUpon] at h1
    · rename_i hw
      rw [if_neg hw] at h
      exact wpStill_of_quiet l _ h

/-- A region that draws its order: reading operations (k of them), then others, which wait for them. -/
theorem St.tail {id : Nat} {l : List Oper} (k : Nat) (hS : St c n E H A a w) (hm : P.follows .mixedOrders = true) (hB : Region.lexTailB .any l.toArray k = true)
    (h : ∀ w1, WS c H A w1 → wpQuiet P l.toArray (fun w' => w' = w1) (fun a' => wpList P l.toArray Q (l.drop k) a' w1) (l.take k) a) : (Code.region id l.toArray true).wp P Q a w :=
  wp_region_still_tail k hm hB (wpStill_of_quiet _ _ (h _ hS.mem.drew))

/-! ## Calls -/

def evCall (P : Program) (ops : Array Oper) (g h : Nat) (E : Env) (H : Heap) (o : Oper) : Option (FuncId × Array Value × List Prop) :=
  match okAll E [] o.op.operands.toList && opKnown o.op with
  | true => match absRun P h (fun _ => 0) true (execOp (rho E) o) ⟨H, 0, []⟩ with
    | some (.enter f args, s) => match g with
      | 0 => match o.guard with
        | none => some (f, args, s.ob)
        | some _ => none
      | 1 => match guardSlot ops o with
        | some (d, want) => match look E d with
          | some ([], v) => some (f, args, (v = .bool want) :: s.ob)
          | _ => none
        | none => none
      | _ => none
    | _ => none
  | false => none

theorem evCall_run {ops : Array Oper} {g h : Nat} {o : Oper} {f : FuncId} {args : Array Value} {obs : List Prop} (he : evCall P ops g h E H o = some (f, args, obs)) (hob : AllP obs) (hE : Agree E a) (hb : ∀ d want, guardSlot ops o = some (d, want) → d < a.tmps.size) :
    Region.wanted o (yielded ops a.tmps) = true ∧ ∀ w, WS c H A w → (execOp a.eval o).run P w = .ok (.enter f args) w := by
  unfold evCall at he
  split at he
  · rename_i hok
    simp only [Bool.and_eq_true] at hok
    split at he
    · rename_i f' args' s hr
      have heq : execOp a.eval o = execOp (rho E) o := execOp_congr o hok.2 fun x hx => agree_eval (C := []) hE (fun p hp => by cases hp) (okAll_mem hok.1 x hx)
      have fin : AllP s.ob → ∀ w, WS c H A w → (execOp a.eval o).run P w = .ok (.enter f' args') w := by
        intro hs w hw
        rw [absRun_any P h _ (fun j => w.heap.size + j)] at hr
        obtain ⟨w', h1, _, _, _, h5⟩ := absRun_sound P h _ true _ _ w _ _ hr hw.fine hs
        obtain ⟨rfl, _⟩ := h5 rfl
        rw [heq]; exact h1
      split at he
      · split at he
        · rename_i hg
          simp only [Option.some.injEq, Prod.mk.injEq] at he
          obtain ⟨rfl, rfl, rfl⟩ := he
          exact ⟨by simp [Region.wanted, hg], fin hob⟩
        · simp at he
      · split at he
        · rename_i d want hg
          split at he
          · rename_i v hl
            simp only [Option.some.injEq, Prod.mk.injEq] at he
            obtain ⟨rfl, rfl, rfl⟩ := he
            have hslot := hE.at (look_mem hl) (fun p hp => by cases hp)
            exact ⟨(wanted_iff hg a (hb _ _ hg)).2 (hslot.trans hob.1), fin hob.2⟩
          · simp at he
        · simp at he
      · simp at he
    · simp at he
  · simp at he

/-- A call has turned what is in D: blocks of arenas, blocks of our own. -/
theorem WS.stepX {w' : World} {H' : Heap} {A' : List Res} {D D' : Nat → Prop} (h : WS c H A w) (hf : Fr w w' D D') (hD : ∀ k, D k → inF A k ∨ ∃ e ∈ H, e.2.own = true ∧ e.1 = k) (ha : AllAr w' A') (hA : ∀ k, inF A' k → inF A k ∨ w.heap.size ≤ k)
    (hH : ∀ (j : Nat) (e' : Nat × HE), H'[j]? = some e' → ∃ e, H[j]? = some e ∧ e.1 = e'.1 ∧ e.2.own = e'.2.own ∧ (e'.2.holds w' e'.1 ∨ (e' = e ∧ ¬ D e.1))) : WS c H' A' w' := by
  have key : ∀ e' ∈ H', ∃ e ∈ H, e.1 = e'.1 ∧ e.2.own = e'.2.own := fun e' he => by
    obtain ⟨j, hj⟩ := List.mem_iff_getElem?.1 he
    obtain ⟨e, h1, h2, h3, _⟩ := hH j e' hj
    exact ⟨e, List.mem_of_getElem? h1, h2, h3⟩
  refine ⟨fun e' he => ?_, ?_, fun e' he ho => ?_, fun e' he hk => ?_, ha, ?_⟩
  · obtain ⟨j, hj⟩ := List.mem_iff_getElem?.1 he
    obtain ⟨e, h1, h2, h3, h4⟩ := hH j e' hj
    rcases h4 with h4 | ⟨rfl, h4⟩
    · exact h4
    · have hh := h.heap _ (List.mem_of_getElem? h1)
      exact hh.congr (hf.block _ hh.lt h4)
  · refine pairwise_of_get fun i j x y hij hx hy => ?_
    obtain ⟨x', a1, a2, a3, _⟩ := hH i x hx
    obtain ⟨y', b1, b2, b3, _⟩ := hH j y hy
    intro ho
    rw [← a2, ← b2]
    exact pairwise_get h.apart (by omega) a1 b1 (by rw [a3, b3]; exact ho)
  · obtain ⟨e, h1, h2, h3⟩ := key e' he
    rw [← h2]; exact h.mine e h1 (h3.trans ho)
  · obtain ⟨e, h1, h2, h3⟩ := key e' he
    rcases hA _ hk with hk | hk
    · exact h.free e h1 (h2 ▸ hk)
    · have := (h.heap e h1).lt; omega
  · refine ⟨hf.os.trans h.fr.os, hf.tape.trans h.fr.tape, hf.output.trans h.fr.output, Nat.le_trans h.fr.size hf.size, fun k hk hn => ?_, fun k hk => ?_⟩
    · refine (hf.block k (Nat.lt_of_lt_of_le hk h.fr.size) fun hd => ?_).trans (h.fr.block k hk hn)
      rcases hD k hd with h1 | ⟨e, he, ho, rfl⟩
      · rcases h.fr.foot k h1 with h2 | h2
        · exact hn h2
        · omega
      · rcases h.mine e he ho with h2 | h2
        · omega
        · exact hn h2
    · rcases hA k hk with h1 | h1
      · exact h.fr.foot k h1
      · exact .inr (Nat.le_trans h.fr.size h1)

theorem inF_set {A : List Res} {i : Nat} {r' : Res} {k : Nat} (h : inF (A.set i r') k) : r'.F k ∨ inF A k := by
  obtain ⟨s, hs, hk⟩ := inF_iff.1 h
  obtain ⟨m, hm⟩ := List.mem_iff_getElem?.1 hs
  rw [List.getElem?_set] at hm
  split at hm
  · split at hm
    · obtain rfl := Option.some.inj hm; exact .inl hk
    · simp at hm
  · exact .inr (inF_iff.2 ⟨s, List.mem_of_getElem? hm, hk⟩)

theorem inF_at {A : List Res} {i : Nat} {r : Res} (hi : A[i]? = some r) {k : Nat} (h : r.F k) : inF A k := inF_iff.2 ⟨r, List.mem_of_getElem? hi, h⟩

/-- What an arena may have won. -/
def Wins (w : World) (F F' : Nat → Prop) : Prop := ∀ k, F' k → F k ∨ w.heap.size ≤ k

theorem AllAr.set {w' : World} {D D' : Nat → Prop} (h : AllAr w A) {i : Nat} {r r' : Res} (hi : A[i]? = some r) (hr : r'.R w') (hf : Fr w w' D D') (hD : ∀ k, D k → r.F k ∨ ¬ inF A k) (hw : Wins w r.F r'.F) : AllAr w' (A.set i r') := by
  have hap : ∀ (j : Nat) (s : Res), j ≠ i → A[j]? = some s → ∀ k, r.F k → ¬ s.F k := by
    intro j s hj hs k hk hk2
    obtain ⟨hl, rfl⟩ := List.getElem?_eq_some_iff.1 hi
    obtain ⟨hl2, rfl⟩ := List.getElem?_eq_some_iff.1 hs
    have hp := List.pairwise_iff_getElem.1 h.apart
    rcases Nat.lt_or_ge i j with h1 | h1
    · exact hp i j hl hl2 h1 k hk hk2
    · exact hp j i hl2 hl (by omega) k hk2 hk
  have hap2 : ∀ (j : Nat) (s : Res), j ≠ i → A[j]? = some s → ∀ k, r'.F k → ¬ s.F k := by
    intro j s hj hs k hk hk2
    rcases hw k hk with h1 | h1
    · exact hap j s hj hs k h1 hk2
    · have := s.lt _ (h.each s (List.mem_of_getElem? hs)) _ hk2; omega
  refine ⟨fun s hs => ?_, ?_⟩
  · obtain ⟨m, hm⟩ := List.mem_iff_getElem?.1 hs
    rw [List.getElem?_set] at hm
    split at hm
    · split at hm
      · obtain rfl := Option.some.inj hm; exact hr
      · simp at hm
    · rename_i hne
      refine s.cg _ _ (h.each s (List.mem_of_getElem? hm)) fun k hk => hf.block k (s.lt _ (h.each s (List.mem_of_getElem? hm)) _ hk) fun hd => ?_
      rcases hD k hd with h1 | h1
      · exact hap m s (fun e => hne e.symm) hm k h1 hk
      · exact h1 (inF_at hm hk)
  · rw [List.pairwise_iff_getElem]
    intro a b ha hb hab k hk hk2
    have hA : ∀ (x : Nat) (hx : x < (A.set i r').length), (x = i ∧ (A.set i r')[x] = r') ∨ (x ≠ i ∧ A[x]? = some (A.set i r')[x]) := by
      intro x hx
      have e := List.getElem?_eq_getElem hx
      rw [List.getElem?_set] at e
      split at e
      · rename_i hxi
        split at e
        · exact .inl ⟨hxi.symm, (Option.some.inj e).symm⟩
        · cases e
      · rename_i hxi
        exact .inr ⟨fun h => hxi h.symm, e⟩
    rcases hA a ha with ⟨ea, va⟩ | ⟨ea, va⟩ <;> rcases hA b hb with ⟨eb, vb⟩ | ⟨eb, vb⟩
    · omega
    · rw [va] at hk; exact hap2 b _ eb vb k hk hk2
    · rw [vb] at hk2; exact hap2 a _ ea va k hk2 hk
    · obtain ⟨hl, e1⟩ := List.getElem?_eq_some_iff.1 va
      obtain ⟨hl2, e2⟩ := List.getElem?_eq_some_iff.1 vb
      rw [← e1] at hk; rw [← e2] at hk2
      exact List.pairwise_iff_getElem.1 h.apart a b hl hl2 hab k hk hk2

/-- A call that turns the arena at the place i. -/
theorem WS.stepA (h : WS c H A w) (i : Nat) {r r' : Res} {w' : World} (hi : A[i]? = some r) (hr : r'.R w') (hf : Fr w w' r.F r'.F) : WS c H (A.set i r') w' := by
  refine h.stepX hf (fun k hk => .inl (inF_at hi hk)) (h.ars.set hi hr hf (fun k hk => .inl hk) hf.foot) (fun k hk => ?_) (fun j e' he => ⟨e', he, rfl, rfl, .inr ⟨rfl, fun hk => ?_⟩⟩)
  · rcases inF_set hk with h1 | h1
    · rcases hf.foot k h1 with h2 | h2
      · exact .inl (inF_at hi h2)
      · exact .inr h2
    · exact .inl h1
  · exact h.free e' (List.mem_of_getElem? he) (inF_at hi hk)

/-- One block of our own is another one now. -/
theorem heap_set_cases {j : Nat} {s : Nat} {y : HE} {k : Nat} {e' : Nat × HE} (he : (H.set j (s, y))[k]? = some e') : (k = j ∧ e' = (s, y)) ∨ (k ≠ j ∧ H[k]? = some e') := by
  rw [List.getElem?_set] at he
  split at he
  · rename_i hkj
    split at he
    · exact .inl ⟨hkj.symm, (Option.some.inj he).symm⟩
    · cases he
  · rename_i hkj
    exact .inr ⟨fun h => hkj h.symm, he⟩

/-- A call that turns a block of our own. -/
theorem WS.stepM (h : WS c H A w) (j : Nat) {s : Nat} {x y : HE} {w' : World} (hj : H[j]? = some (s, x)) (hx : x.own = true) (hy : y.own = true) (hs : y.holds w' s) (hf : Fr w w' (one s) no) : WS c (H.set j (s, y)) A w' := by
  refine h.stepX hf (fun k hk => .inr ⟨_, List.mem_of_getElem? hj, hx, (show k = s from hk).symm⟩) (h.ars.congr fun k hk => hf.block k (h.ars.lt hk) fun e => ?_) (fun k hk => .inl hk) (fun k e' he => ?_)
  · exact h.free _ (List.mem_of_getElem? hj) ((show k = s from e) ▸ hk)
  · rcases heap_set_cases he with ⟨rfl, rfl⟩ | ⟨hk, he⟩
    · exact ⟨_, hj, rfl, hx.trans hy.symm, .inl hs⟩
    · exact ⟨e', he, rfl, rfl, .inr ⟨rfl, fun e => pairwise_get h.apart hk he hj (.inr hx) e⟩⟩

/-- A call that turns an arena and a block of our own. -/
theorem WS.stepAM (h : WS c H A w) (i j : Nat) {r r' : Res} {s : Nat} {x y : HE} {w' : World} (hi : A[i]? = some r) (hr : r'.R w') (hj : H[j]? = some (s, x)) (hx : x.own = true) (hy : y.own = true) (hs : y.holds w' s) (hw : Wins w r.F r'.F) (hf : Fr w w' (orF r.F (one s)) no) : WS c (H.set j (s, y)) (A.set i r') w' := by
  refine h.stepX hf (fun k hk => ?_) (h.ars.set hi hr hf (fun k hk => ?_) hw) (fun k hk => ?_) (fun k e' he => ?_)
  · rcases hk with hk | hk
    · exact .inl (inF_at hi hk)
    · exact .inr ⟨_, List.mem_of_getElem? hj, hx, (show k = s from hk).symm⟩
  · rcases hk with hk | hk
    · exact .inl hk
    · exact .inr ((show k = s from hk) ▸ h.free _ (List.mem_of_getElem? hj))
  · rcases inF_set hk with h1 | h1
    · rcases hw k h1 with h2 | h2
      · exact .inl (inF_at hi h2)
      · exact .inr h2
    · exact .inl h1
  · rcases heap_set_cases he with ⟨rfl, rfl⟩ | ⟨hk, he⟩
    · exact ⟨_, hj, rfl, hx.trans hy.symm, .inl hs⟩
    · refine ⟨e', he, rfl, rfl, .inr ⟨rfl, fun e => ?_⟩⟩
      rcases e with e | e
      · exact h.free e' (List.mem_of_getElem? he) (inF_at hi e)
      · exact pairwise_get h.apart hk he hj (.inr hx) e

/-- A call that makes an arena. -/
theorem WS.newA (h : WS c H A w) {r : Res} {w' : World} (hr : r.R w') (hf : Fr w w' no r.F) : WS c H (A ++ [r]) w' := by
  have hn : ∀ k, r.F k → w.heap.size ≤ k := fun k hk => (hf.foot k hk).resolve_left fun h => h
  have hb : ∀ k, k < w.heap.size → w'.heap[k]? = w.heap[k]? := fun k hk => hf.block k hk fun h => h
  refine h.stepX hf (fun k hk => hk.elim) ⟨fun s hs => ?_, ?_⟩ (fun k hk => ?_) (fun j e' he => ⟨e', he, rfl, rfl, .inr ⟨rfl, fun h => h⟩⟩)
  · rcases List.mem_append.1 hs with hs | hs
    · exact s.cg _ _ (h.ars.each s hs) fun k hk => hb k (s.lt _ (h.ars.each s hs) _ hk)
    · obtain rfl := List.mem_singleton.1 hs; exact hr
  · rw [List.pairwise_append]
    refine ⟨h.ars.apart, List.pairwise_singleton _ _, fun s hs q hq k hk hk2 => ?_⟩
    obtain rfl := List.mem_singleton.1 hq
    have := s.lt _ (h.ars.each s hs) _ hk
    have := hn k hk2
    omega
  · obtain ⟨s, hs, hk2⟩ := inF_iff.1 hk
    rcases List.mem_append.1 hs with hs | hs
    · exact .inl (inF_iff.2 ⟨s, hs, hk2⟩)
    · rw [List.mem_singleton.1 hs] at hk2; exact .inr (hn k hk2)

/-- Arenas that are of no use any more. -/
theorem WS.dropA (h : WS c H A w) (l : List Nat) {A' : List Res} (hA : ∀ r ∈ A', r ∈ A) (ha : A'.Pairwise fun r s => ∀ k, r.F k → ¬ s.F k) : WS c H A' w := by
  have hi : ∀ k, inF A' k → inF A k := fun k hk => by
    obtain ⟨s, hs, hk⟩ := inF_iff.1 hk
    exact inF_iff.2 ⟨s, hA s hs, hk⟩
  exact ⟨h.heap, h.apart, h.mine, fun e he hk => h.free e he (hi _ hk), ⟨fun r hr => h.ars.each r (hA r hr), ha⟩, h.fr.to (fun k hk => .inl hk) (fun k hk => h.fr.foot k (hi k hk))⟩

/-- What lay there at the begin, and may not turn, lies there yet. -/
theorem WS.acq (h : WS c H A w) {g lo hi : Nat} {f : Nat → Value} (hx : HE.holds c.w0 g (.fn lo hi f)) (hD : ¬ c.D g) : WS c (H ++ [(g, .fn lo hi f)]) A w := by
  have hl := hx.lt
  refine ⟨fun e he => ?_, ?_, fun e he ho => ?_, fun e he hk => ?_, h.ars, h.fr⟩
  · rcases List.mem_append.1 he with he | he
    · exact h.heap e he
    · obtain rfl := List.mem_singleton.1 he; exact hx.congr (h.fr.block g hl hD)
  · rw [List.pairwise_append]
    refine ⟨h.apart, List.pairwise_singleton _ _, fun p hp q hq => ?_⟩
    obtain rfl := List.mem_singleton.1 hq
    intro ho e
    have e : p.1 = g := e
    rcases ho with ho | ho
    · rcases h.mine p hp ho with h1 | h1
      · omega
      · exact hD (e ▸ h1)
    · cases ho
  · rcases List.mem_append.1 he with he | he
    · exact h.mine e he ho
    · obtain rfl := List.mem_singleton.1 he; cases ho
  · rcases List.mem_append.1 he with he | he
    · exact h.free e he hk
    · obtain rfl := List.mem_singleton.1 he
      rcases h.fr.foot _ hk with h1 | h1
      · exact hD h1
      · have : c.w0.heap.size ≤ g := h1
        omega

/-- A block that is new to the list. -/
theorem WS.add {g : Nat} {x : HE} (h : WS c H A w) (hx : x.holds w g) (hg : x.own = true → c.w0.heap.size ≤ g ∨ c.D g) (hn : ¬ inF A g) (hd : ∀ e ∈ H, x.own = true ∨ e.2.own = true → e.1 ≠ g) : WS c (H ++ [(g, x)]) A w := by
  refine ⟨fun e he => ?_, ?_, fun e he ho => ?_, fun e he => ?_, h.ars, h.fr⟩
  · rcases List.mem_append.1 he with he | he
    · exact h.heap e he
    · obtain rfl := List.mem_singleton.1 he; exact hx
  · rw [List.pairwise_append]
    refine ⟨h.apart, List.pairwise_singleton _ _, fun p hp q hq => ?_⟩
    obtain rfl := List.mem_singleton.1 hq
    intro ho e
    exact hd p hp (ho.symm) e
  · rcases List.mem_append.1 he with he | he
    · exact h.mine e he ho
    · obtain rfl := List.mem_singleton.1 he; exact hg ho
  · rcases List.mem_append.1 he with he | he
    · exact h.free e he
    · obtain rfl := List.mem_singleton.1 he; exact hn

/-- A call stands next. -/
theorem St.call {ops : Array Oper} {o : Oper} {rest : List Oper} (g h : Nat) (hS : St c n E H A a w) {f : FuncId} {args : Array Value} {obs : List Prop} (he : evCall P ops g h E H o = some (f, args, obs)) (hob : AllP obs) (hg : guardsOk n ops [o] = true) {R : Ending → World → Prop} (hC : Calls P f args w R)
    (hk : ∀ e w', R e w' → ∃ v, e = .returned v ∧ wpList P ops Q rest (a.put o.dst v) w') : wpList P ops Q (o :: rest) a w := by
  have hb : ∀ d want, guardSlot ops o = some (d, want) → d < a.tmps.size := by
    intro d want hd
    simp only [guardsOk, hd, Bool.and_true] at hg
    have : d < n := by simpa using hg
    exact Nat.lt_of_lt_of_le this hS.size
  obtain ⟨hw, hr⟩ := evCall_run (c := c) (A := A) he hob hS.env hb
  unfold wpList
  rw [if_pos hw]
  refine .inl ?_
  unfold Oper.wp
  rw [hr w hS.mem]
  refine hC.mono fun e w' hR => ?_
  obtain ⟨v, rfl, hk⟩ := hk e w' hR
  exact hk

/-- Behind a call: its answer stands in its slot. -/
theorem St.put {d : Nat} {v : Value} (hS : St c n E H A a w) (hd : d < n) : St c n (putE E d [] v) H A (a.put (some d) v) w :=
  ⟨(put_defers _ _ _).trans hS.defers, by rw [put_size]; exact hS.size, agree_put hS.env (Nat.lt_of_lt_of_le hd hS.size) rfl (.inl ⟨(fun p hp => nomatch hp), rfl⟩), hS.mem⟩

theorem St.put_none {v : Value} (hS : St c n E H A a w) : St c n E H A (a.put none v) w := hS

theorem St.to {H' : Heap} {A' : List Res} {w' : World} (hS : St c n E H A a w) (h : WS c H' A' w') : St c n E H' A' a w' := ⟨hS.defers, hS.size, hS.env, h⟩

/-- A call among reading operations, in a region that draws. -/
theorem quiet_call {ops : Array Oper} {C : World → Prop} {K : Act → Prop} {o : Oper} {rest : List Oper} (g h : Nat) {f : FuncId} {args : Array Value} {obs : List Prop} (he : evCall P ops g h E H o = some (f, args, obs)) (hob : AllP obs) (hg : guardsOk n ops [o] = true)
    (hE : Agree E a) (hsz : n ≤ a.tmps.size) (hd : a.defers = []) (hC : ∀ w, C w → WS c H A w) {v : Value} (hc : ∀ w, C w → Calls P f args w fun e w' => e = .returned v ∧ C w')
    (hk : ∀ a', a' = a.put o.dst v → wpQuiet P ops C K rest a') : wpQuiet P ops C K (o :: rest) a := by
  have hb : ∀ d want, guardSlot ops o = some (d, want) → d < a.tmps.size := by
    intro d want hd
    simp only [guardsOk, hd, Bool.and_true] at hg
    have : d < n := by simpa using hg
    exact Nat.lt_of_lt_of_le this hsz
  obtain ⟨hw, hr⟩ := evCall_run (c := c) (A := A) he hob hE hb
  unfold wpQuiet
  rw [if_pos hw]
  refine ⟨v, fun w hCw => ?_, hk _ rfl⟩
  unfold Oper.quietAt
  rw [hr w (hC w hCw)]
  exact ⟨rfl, hc w hCw⟩

/-! ## Tests, rows of statements, loops -/

theorem St.cond {t : Nat} {x y : Code} {b : Bool} (hS : St c n E H A a w) (hl : look E t = some ([], .bool b)) (h1 : b = true → x.wp P Q a w) (h2 : b = false → y.wp P Q a w) : (Code.cond (.tmp t) x y).wp P Q a w :=
  wp_cond_split (hS.env.at (look_mem hl) (fun p hp => nomatch hp)) h1 h2

theorem pop_then {K : Act → World → Prop} (h : K a w) : Exit.then K Q .normal a w := h
theorem pop_then_exit {K : Act → World → Prop} {i : Nat} (h : Q (.exit i) a w) : Exit.then K Q (.exit i) a w := h
theorem pop_then_ret {K : Act → World → Prop} (h : Q .ret a w) : Exit.then K Q .ret a w := h
theorem pop_block {i : Nat} (h : Q .normal a w) : Exit.inBlock i Q .normal a w := h
theorem pop_block_hit {i : Nat} (h : Q .normal a w) : Exit.inBlock i Q (.exit i) a w := by
  simp only [Exit.inBlock, if_true]; exact h
theorem pop_block_miss {i j : Nat} (hne : Nat.beq j i = false) (h : Q (.exit j) a w) : Exit.inBlock i Q (.exit j) a w := by
  have : ¬ j = i := fun e => by rw [e] at hne; simp at hne
  simp only [Exit.inBlock, if_neg this]; exact h
theorem pop_block_ret {i : Nat} (h : Q .ret a w) : Exit.inBlock i Q .ret a w := h

theorem St.region_seq {id : Nat} {l : List Oper} {y : Code} (hs : List Hint) (kE kH : List Nat) (hS : St c n E H A a w)
    (h : ∀ ν : Nat → Nat, ∃ E' H' obs, evSeg P n false l.toArray ν hs l E H kE kH = some (E', H', obs) ∧ AllP obs ∧ ∀ a' w', St c n E' H' A a' w' → y.wp P Q a' w') : ((Code.region id l.toArray false).seq y).wp P Q a w :=
  wp_seq (hS.region hs kE kH h)

theorem St.quiet_seq {id : Nat} {l : List Oper} {y : Code} (hs : List Hint) (kE kH : List Nat) (hS : St c n E H A a w) (hm : P.follows .mixedOrders = true) (hB : Region.lexB .any l.toArray = true) {E' : Env} {H' : Heap} {obs : List Prop}
    (he : evSeg P n true l.toArray (fun _ => 0) hs l E H kE kH = some (E', H', obs)) (hob : AllP obs) (h : ∀ a' w', St c n E' H' A a' w' → y.wp P Q a' w') : ((Code.region id l.toArray true).seq y).wp P Q a w :=
  wp_seq (hS.quiet hs kE kH hm hB he hob h)

/-- A region in parts: its row of operations stands as the goal. -/
theorem wp_region_seq {id : Nat} {l : List Oper} {y : Code} (h : wpList P l.toArray (Exit.then (y.wp P Q) Q) l a w) : ((Code.region id l.toArray false).seq y).wp P Q a w := wp_seq (wp_region_lit h)

theorem list_nil_seq {ops : Array Oper} {y : Code} (h : y.wp P Q a w) : wpList P ops (Exit.then (y.wp P Q) Q) [] a w := h
theorem list_nil {ops : Array Oper} (h : Q .normal a w) : wpList P ops Q [] a w := h

/-- The next k operations of a row. -/
theorem St.ops {ops : Array Oper} {l : List Oper} (k : Nat) (hs : List Hint) (kE kH : List Nat) (hS : St c n E H A a w)
    (h : ∀ ν : Nat → Nat, ∃ E' H' obs, evSeg P n false ops ν hs (l.take k) E H kE kH = some (E', H', obs) ∧ AllP obs ∧ ∀ a' w', St c n E' H' A a' w' → wpList P ops Q (l.drop k) a' w') : wpList P ops Q l a w := by
  have := St.seg (Q := Q) (rest := l.drop k) hs kE kH hS h
  rwa [List.take_append_drop] at this

theorem quiet_ops {ops : Array Oper} {C : World → Prop} {K : Act → Prop} {l : List Oper} (k : Nat) (hs : List Hint) (kE kH : List Nat) {E' : Env} {H' : Heap} {obs : List Prop} (he : evSeg P n true ops (fun _ => 0) hs (l.take k) E H kE kH = some (E', H', obs)) (hob : AllP obs)
    (hE : Agree E a) (hsz : n ≤ a.tmps.size) (hd : a.defers = []) (hC : ∀ w, C w → WS c H A w)
    (h : ∀ a', Agree E' a' → n ≤ a'.tmps.size → a'.defers = [] → wpQuiet P ops C K (l.drop k) a') : wpQuiet P ops C K l a := by
  have := quiet_seg (rest := l.drop k) hs kE kH he hob hE hsz hd hC h
  rwa [List.take_append_drop] at this

/-- What is known, spelt otherwise. -/
theorem St.conv {E' : Env} {H' : Heap} (hS : St c n E H A a w) (he : E = E') (hh : H = H') : St c n E' H' A a w := by
  subst he; subst hh; exact hS

/-- A row told by another function that is the same on it. -/
theorem WS.refn {i : Nat} {b : Nat} {e : TypeId} {m tot : Nat} {f g : Nat → Value} {H' : Heap} (h : WS c H A w) (hi : H[i]? = some (b, .row e m tot f)) (hg : ∀ o, o < m → g o = f o) (hH : H.set i (b, .row e m tot g) = H') : WS c H' A w := by
  subst hH
  have key : ∀ (j : Nat) (p : Nat × HE), (H.set i (b, .row e m tot g))[j]? = some p → ∃ p', H[j]? = some p' ∧ p'.1 = p.1 ∧ p'.2.own = p.2.own ∧ (p'.2.holds w p'.1 → p.2.holds w p.1) := by
    intro j p hp
    rw [List.getElem?_set] at hp
    split at hp
    · rename_i e1
      split at hp
      · obtain rfl := Option.some.inj hp
        refine ⟨(b, .row e m tot f), by rw [← e1]; exact hi, rfl, rfl, ?_⟩
        rintro ⟨cc, h1, h2, h3, h4⟩
        exact ⟨cc, h1, h2, h3, fun o ho => by rw [hg o ho]; exact h4 o ho⟩
      · simp at hp
    · exact ⟨p, hp, rfl, rfl, fun h => h⟩
  refine ⟨fun p hp => ?_, ?_, fun p hp ho => ?_, fun p hp => ?_, h.ars, h.fr⟩
  · obtain ⟨j, hj⟩ := List.mem_iff_getElem?.1 hp
    obtain ⟨p', h1, _, _, h4⟩ := key j p hj
    exact h4 (h.heap p' (List.mem_of_getElem? h1))
  · refine pairwise_of_get fun j k p q hjk hp hq => ?_
    obtain ⟨p', h1, h2, h3, _⟩ := key j p hp
    obtain ⟨q', k1, k2, k3, _⟩ := key k q hq
    intro ho
    rw [← h2, ← k2]
    exact pairwise_get h.apart (by omega) h1 k1 (by rw [h3, k3]; exact ho)
  · obtain ⟨j, hj⟩ := List.mem_iff_getElem?.1 hp
    obtain ⟨p', h1, h2, h3, _⟩ := key j p hj
    rw [← h2]
    exact h.mine p' (List.mem_of_getElem? h1) (h3.trans ho)
  · obtain ⟨j, hj⟩ := List.mem_iff_getElem?.1 hp
    obtain ⟨p', h1, h2, _, _⟩ := key j p hj
    rw [← h2]
    exact h.free p' (List.mem_of_getElem? h1)

/-- A loop: what is known at each round's head hangs on a state x, of which a number falls. -/
theorem St.loop {σ : Type} {body : Code} (Ef : σ → Env) (Hf : σ → Heap) (Af : σ → List Res) (I : σ → Prop) (μ : σ → Nat) (x0 : σ) (h0 : I x0) (hS : St c n (Ef x0) (Hf x0) (Af x0) a w)
    (round : ∀ x, I x → ∀ a w, St c n (Ef x) (Hf x) (Af x) a w → body.wp P (Exit.then (fun a' w' => ∃ x', I x' ∧ μ x' < μ x ∧ St c n (Ef x') (Hf x') (Af x') a' w') Q) a w) : (Code.loop body).wp P Q a w := by
  refine wp_loop_ghost (fun k a w => ∃ x, μ x = k ∧ I x ∧ St c n (Ef x) (Hf x) (Af x) a w) (μ x0) ⟨x0, rfl, h0, hS⟩ ?_
  rintro k a w ⟨x, rfl, hI, hS⟩
  refine wp_mono (round x hI a w hS) ?_
  intro e a' w' hq
  cases e with
  | normal =>
    obtain ⟨x', h1, h2, h3⟩ := hq
    exact ⟨μ x', h2, x', rfl, h1, h3⟩
  | _ => exact hq

theorem St.loop_seq {σ : Type} {body y : Code} (Ef : σ → Env) (Hf : σ → Heap) (Af : σ → List Res) (I : σ → Prop) (μ : σ → Nat) (x0 : σ) (h0 : I x0) (hS : St c n (Ef x0) (Hf x0) (Af x0) a w)
    (round : ∀ x, I x → ∀ a w, St c n (Ef x) (Hf x) (Af x) a w → body.wp P (Exit.then (fun a' w' => ∃ x', I x' ∧ μ x' < μ x ∧ St c n (Ef x') (Hf x') (Af x') a' w') (Exit.then (y.wp P Q) Q)) a w) : ((Code.loop body).seq y).wp P Q a w :=
  wp_seq (hS.loop Ef Hf Af I μ x0 h0 round)

/-- Where the ways meet again: what is known hangs on a state. -/
theorem St.meet {σ : Type} {x y : Code} (Ef : σ → Env) (Hf : σ → Heap) (Af : σ → List Res) (I : σ → Prop)
    (h1 : x.wp P (Exit.then (fun a' w' => ∃ z, I z ∧ St c n (Ef z) (Hf z) (Af z) a' w') Q) a w) (h2 : ∀ z, I z → ∀ a w, St c n (Ef z) (Hf z) (Af z) a w → y.wp P Q a w) : (x.seq y).wp P Q a w := by
  refine wp_seq (wp_mono h1 ?_)
  intro e a' w' hq
  cases e with
  | normal => obtain ⟨z, hz, hs⟩ := hq; exact h2 z hz a' w' hs
  | _ => exact hq

/-! ## The ends -/

def resultsOf (E : Env) (fn : Func) : Sem Value := do
  let vs ← fn.results.mapM fun r => match r with
    | .tmp t => pure (rho E (.tmp t))
    | .cell t ty => do loadVar ty (← asAddr (rho E (.tmp t)))
  pure (if h : vs.size = 1 then vs[0] else .tuple vs)

/-- The answers, off slots and blocks. -/
def evRes (P : Program) (fn : Func) (h : Nat) (E : Env) (H : Heap) : Option (Value × List Prop) :=
  match (fn.results.toList.all fun r => match r with
    | .tmp t => okO E [] (.tmp t)
    | .cell t _ => okO E [] (.tmp t)) with
  | true => match absRun P h (fun _ => 0) true (resultsOf E fn) ⟨H, 0, []⟩ with
    | some (v, s) => some (v, s.ob)
    | none => none
  | false => none

theorem mapM_congr {α β : Type} {f g : α → Sem β} (l : Array α) (h : ∀ x ∈ l.toList, f x = g x) : l.mapM f = l.mapM g := by
  rw [Array.mapM_eq_mapM_toList, Array.mapM_eq_mapM_toList]
  congr 1
  have : ∀ (l : List α), (∀ x ∈ l, f x = g x) → l.mapM f = l.mapM g := by
    intro l
    induction l with
    | nil => intro _; rfl
    | cons x l ih =>
      intro h
      rw [List.mapM_cons, List.mapM_cons, h x List.mem_cons_self, ih fun y hy => h y (List.mem_cons_of_mem _ hy)]
  exact this _ h

theorem evRes_run {fn : Func} {h : Nat} {v : Value} {obs : List Prop} (hS : St c n E H A a w) (he : evRes P fn h E H = some (v, obs)) (hob : AllP obs) : (results fn a.tmps).run P w = .ok v w := by
  unfold evRes at he
  split at he
  · rename_i hok
    split at he
    · rename_i v' s hr
      simp only [Option.some.injEq, Prod.mk.injEq] at he
      obtain ⟨rfl, rfl⟩ := he
      have heq : results fn a.tmps = resultsOf E fn := by
        unfold results resultsOf
        rw [mapM_congr]
        intro r hr
        have := List.all_eq_true.1 hok r hr
        cases r with
        | tmp t =>
          have := agree_eval (C := []) hS.env (fun p hp => nomatch hp) this
          show pure (a.tmps.getD t undef) = _
          exact congrArg pure this
        | cell t ty =>
          have := agree_eval (C := []) hS.env (fun p hp => nomatch hp) this
          show (do loadVar ty (← asAddr (a.tmps.getD t undef))) = _
          rw [show a.tmps.getD t undef = _ from this]
      rw [absRun_any P h _ (fun j => w.heap.size + j)] at hr
      obtain ⟨w', h1, _, _, _, h5⟩ := absRun_sound P h _ true _ _ w _ _ hr hS.mem.fine hob
      obtain ⟨rfl, _⟩ := h5 rfl
      rw [heq]; exact h1
    · simp at he
  · simp at he

theorem St.ret {fn : Func} {R : Ending → World → Prop} (h : Nat) {v : Value} {obs : List Prop} (hS : St c n E H A a w) (he : evRes P fn h E H = some (v, obs)) (hob : AllP obs) (hR : WS c H A w → R (.returned v) w) : bodyPost P fn R .ret a w :=
  bodyPost_ret (evRes_run hS he hob) hS.defers (hR hS.mem)

theorem St.fall {fn : Func} {R : Ending → World → Prop} (h : Nat) {v : Value} {obs : List Prop} (hS : St c n E H A a w) (he : evRes P fn h E H = some (v, obs)) (hob : AllP obs) (hR : WS c H A w → R (.returned v) w) : bodyPost P fn R .normal a w :=
  bodyPost_end (evRes_run hS he hob) hS.defers (hR hS.mem)

end

/-- The slots of the parameters. -/
def envOf : Nat → List Value → Env
  | _, [] => []
  | i, v :: l => (i, [], v) :: envOf (i + 1) l

theorem agree_envOf {args : List Value} {extra : Array Value} : ∀ (l : List Value) (i : Nat), args.drop i = l → Agree (envOf i l) { tmps := args.toArray ++ extra, defers := [] }
  | [], _, _ => fun e he => nomatch he
  | v :: l, i, hd => by
    intro e he
    rcases List.mem_cons.1 he with rfl | he
    · refine .inl ⟨(fun p hp => nomatch hp), ?_⟩
      have hi : args[i]? = some v := by
        have := congrArg (fun l => l[0]?) hd
        simpa using this
      have hlt := (List.getElem?_eq_some_iff.1 hi).1
      simp only [Array.getD_eq_getD_getElem?]
      rw [Array.getElem?_append_left (by simpa using hlt)]
      simp [hi]
    · refine agree_envOf l (i + 1) ?_ e he
      have := congrArg (List.drop 1) hd
      simpa [List.drop_drop, Nat.add_comm] using this

/-- A call begins: the parameters are known. -/
theorem enter {P : Program} {f : FuncId} {fn : Func} {code : Code} {args : List Value} {w : World} {R : Ending → World → Prop} {D : Nat → Prop} {A : List Res} (hf : P.funcs[f]? = some fn) (hb : fn.body = some code) (n : Nat) (hn : fn.ntmps = n) (H : Heap) (hw : WS ⟨w, D⟩ H A w)
    (h : ∀ a, St ⟨w, D⟩ n (envOf 0 args) H A a w → code.wp P (bodyPost P fn R) a w) : Calls P f args.toArray w R := by
  refine calls_of_wp hf hb (h _ ⟨rfl, ?_, agree_envOf args 0 rfl, hw⟩)
  simp [hn]; omega

/-- What is known of memory as a call begins. -/
def AllH (w : World) (D : Nat → Prop) (A : List Res) : Heap → Prop
  | [] => True
  | e :: l => (e.2.holds w e.1 ∧ (e.2.own = true → D e.1) ∧ ¬ inF A e.1 ∧ ∀ q ∈ l, apartP e q) ∧ AllH w D A l

theorem AllH.mem {w : World} {D : Nat → Prop} {A : List Res} : ∀ {H : Heap}, AllH w D A H → (∀ e ∈ H, e.2.holds w e.1 ∧ (e.2.own = true → D e.1) ∧ ¬ inF A e.1) ∧ H.Pairwise apartP
  | [], _ => ⟨(fun e he => nomatch he), List.Pairwise.nil⟩
  | x :: l, h => by
    obtain ⟨⟨h1, h2, h3, h4⟩, h5⟩ := h
    obtain ⟨h6, h7⟩ := AllH.mem h5
    refine ⟨fun e he => ?_, List.pairwise_cons.2 ⟨h4, h7⟩⟩
    rcases List.mem_cons.1 he with rfl | he
    · exact ⟨h1, h2, h3⟩
    · exact h6 e he

theorem WS.begin {w : World} {D : Nat → Prop} {A : List Res} {H : Heap} (ha : AllAr w A) (hD : ∀ k, inF A k → D k) (h : AllH w D A H) : WS ⟨w, D⟩ H A w := by
  obtain ⟨h1, h2⟩ := h.mem
  exact ⟨fun e he => (h1 e he).1, h2, fun e he ho => .inr ((h1 e he).2.1 ho), fun e he => (h1 e he).2.2, ha, (Fr.refl w D).to (fun k hk => .inl hk) (fun k hk => .inl (hD k hk))⟩

theorem apart_ro {g lo hi g' lo' hi' : Nat} {f f' : Nat → Value} : apartP (g, .fn lo hi f) (g', .fn lo' hi' f') := fun h => by rcases h with h | h <;> cases h
theorem apart_ne {p q : Nat × HE} (h : p.1 ≠ q.1) : apartP p q := fun _ => h

/-! ## Calls that touch no arena, read one, write one -/

theorem WS.keep0 {c : Cx} {H : Heap} {A : List Res} {w w' : World} (h : WS c H A w) (hf : Fr w w' no no) : WS c H A w' := by
  have hb : ∀ k, k < w.heap.size → w'.heap[k]? = w.heap[k]? := fun k hk => hf.block k hk (fun h => h)
  exact h.stepX hf (fun k hk => hk.elim) (h.ars.congr fun k hk => hb k (h.ars.lt hk)) (fun k hk => .inl hk) (fun j e' he => ⟨e', he, rfl, rfl, .inr ⟨rfl, fun h => h⟩⟩)

theorem Ar.keep {r : ArS} {w w' : World} {D' : Nat → Prop} (h : Ar w r) (hf : Fr w w' no D') : Ar w' r := h.congr fun k hk => hf.block k (h.lt hk) (fun h => h)

theorem WS.ar {c : Cx} {H : Heap} {A : List Res} {r : Res} {w : World} (h : WS c H A w) (i : Nat) (hi : A[i]? = some r) : r.R w := h.ars.each r (List.mem_of_getElem? hi)

theorem AllAr.one {w : World} {r : Res} (h : r.R w) : AllAr w [r] := ⟨fun s hs => by obtain rfl := List.mem_singleton.1 hs; exact h, List.pairwise_singleton _ _⟩

/-- The frame at the end. -/
theorem WS.fr0 {c : Cx} {H : Heap} {A : List Res} {w : World} (h : WS c H A w) : Fr c.w0 w c.D no := h.fr.none
theorem WS.frA {c : Cx} {H : Heap} {r : Res} {w : World} (h : WS c H [r] w) : Fr c.w0 w c.D r.F := h.fr.to (fun k hk => .inl hk) (fun k hk => h.fr.foot k (.inl hk))
theorem WS.wins {F : Nat → Prop} {w0 : World} {s : Nat} {H : Heap} {r : Res} {w : World} (h : WS ⟨w0, orF F (K.one s)⟩ H [r] w) {x : HE} (i : Nat) (hi : H[i]? = some (s, x)) : Wins w0 F r.F := fun k hk => by
  rcases h.fr.foot k (.inl hk) with h1 | h1
  · rcases h1 with h1 | h1
    · exact .inl h1
    · exact absurd (.inl ((show k = s from h1) ▸ hk)) (h.free _ (List.mem_of_getElem? hi))
  · exact .inr h1

theorem tuple2 {a b c d : Value} (h : a = c) (k : b = d) : Value.tuple #[a, b] = .tuple #[c, d] := by rw [h, k]
theorem tuple3 {a b c a' b' c' : Value} (h : a = a') (k : b = b') (l : c = c') : Value.tuple #[a, b, c] = .tuple #[a', b', c'] := by rw [h, k, l]
theorem vint {k : IntKind} {a b : Int} (h : a = b) : Value.int k a = .int k b := by rw [h]
theorem vbool {a b : Bool} (h : a = b) : Value.bool a = .bool b := by rw [h]
theorem vstr {a b : ByteArray} (h : a = b) : Value.string a = .string b := by rw [h]
theorem retd {a b : Value} (h : a = b) : Ending.returned a = .returned b := by rw [h]

/-! ## Spellings -/
def iand (k : IntKind) (a b : Int) : Int := k.wrap ((BitVec.ofInt k.bits a &&& BitVec.ofInt k.bits b).toNat : Int)
def ior (k : IntKind) (a b : Int) : Int := k.wrap ((BitVec.ofInt k.bits a ||| BitVec.ofInt k.bits b).toNat : Int)
def ixor (k : IntKind) (a b : Int) : Int := k.wrap ((BitVec.ofInt k.bits a ^^^ BitVec.ofInt k.bits b).toNat : Int)
def iandNot (k : IntKind) (a b : Int) : Int := k.wrap ((BitVec.ofInt k.bits a &&& ~~~(BitVec.ofInt k.bits b)).toNat : Int)
def imin (x y : Int) : Int := if y < x then y else x
def imax (x y : Int) : Int := if x < y then y else x

theorem quo_in {x d : Int} (h0 : 0 ≤ x) (h1 : x ≤ 9223372036854775807) (hd : 1 ≤ d) : IntKind.i64.wrap (Int.tdiv x d) = x / d := by
  rw [Int.tdiv_eq_ediv_of_nonneg h0]
  have h2 : 0 ≤ x / d := Int.ediv_nonneg h0 (by omega)
  have h3 : x / d ≤ x := Int.ediv_le_self d h0
  rw [IntKind.wrap_i64]; omega
theorem rem_in {x d : Int} (h0 : 0 ≤ x) : Int.tmod x d = x % d := Int.tmod_eq_emod_of_nonneg h0
theorem i64_in {x : Int} (h : -9223372036854775808 ≤ x ∧ x ≤ 9223372036854775807) : IntKind.i64.wrap x = x := by rw [IntKind.wrap_i64]; omega
theorem u64_in {x : Int} (h : 0 ≤ x ∧ x ≤ 18446744073709551615) : IntKind.u64.wrap x = x := by
  unfold IntKind.wrap
  have : x % (2 ^ IntKind.u64.bits : Int) = x := Int.emod_eq_of_lt h.1 (by simp [IntKind.bits]; omega)
  simp [this, IntKind.signed]
theorem u8_in {x : Int} (h : 0 ≤ x ∧ x ≤ 255) : IntKind.u8.wrap x = x := by
  unfold IntKind.wrap
  have : x % (2 ^ IntKind.u8.bits : Int) = x := Int.emod_eq_of_lt h.1 (by simp [IntKind.bits]; omega)
  simp [this, IntKind.signed]

/-! ## Slices that came in -/

theorem HE.of_cells {w : World} {g : Nat} {cs : List Value} {T : TypeId} {hi : Nat} {f : Nat → Value} (h : HE.holds w g (.cells cs T)) (e : ∀ o, o < hi → cs[o]? = some (f o)) : HE.holds w g (.fn 0 hi f) := by
  refine ⟨cs.toArray, T, (0, 0), h, fun o _ ho => ?_⟩
  simpa using e o ho

theorem HE.of_row {w : World} {g : Nat} {e : TypeId} {n tot : Nat} {f f' : Nat → Value} (h : HE.holds w g (.row e n tot f)) (hf : ∀ o, o < n → f o = f' o) : HE.holds w g (.fn 0 n f') := by
  obtain ⟨c, h1, h2, h3, h4⟩ := h
  exact ⟨c, e, (0, 0), h1, fun o _ ho => by rw [h4 o ho, hf o ho]⟩

/-- A list of whole numbers in a row of cells, from a place on. -/
def ints (l : List Int) (o x : Nat) : Value := .int .i64 (l.getD (x - o) 0)

theorem shr_in {x : Int} {k : Nat} {d : Int} (h : (2 : Int) ^ k = d) (hd : 0 ≤ d) : Int.fdiv x (2 ^ k) = x / d := by
  rw [h]; exact Int.fdiv_eq_ediv_of_nonneg _ hd

theorem bat_byte (s : ByteArray) (i : Int) : 0 ≤ bat s i ∧ bat s i ≤ 255 := by
  unfold bat
  have := (s.data.toList.getD i.toNat 0).toNat_lt
  omega

theorem cell_block {w : World} {a : Addr} {v : Value} (h : w.cell? a = some v) : a.spot = none ∧ ∃ c T fz, w.heap[a.block]? = some (.cells c T fz) ∧ c[a.off]? = some v := by
  unfold World.cell? at h
  split at h
  · rename_i c T fz hb
    split at h
    · simp at h
    · rename_i hs
      refine ⟨?_, c, T, fz, hb, h⟩
      simpa using hs
  · simp at h

theorem spot_none {w : World} {a : Addr} {v : Value} (h : w.cell? (a.add 0) = some v) : a.spot = none := (cell_block (by simpa [Addr.add] using h)).1

theorem ints_of_cells {w : World} {b o n : Nat} {zs : List Int} (h : ∀ i, i < zs.length → w.cell? ((⟨b, o, none⟩ : Addr).add i) = some (.int .i64 (zs.getD i 0))) (hn : 0 < n) (hn2 : n ≤ zs.length) :
    HE.holds w b (.fn o (o + (zs.take n).length) (ints (zs.take n) o)) := by
  have e : ∀ i, (⟨b, o, none⟩ : Addr).add i = ⟨b, o + i, none⟩ := fun i => addr_add _ rfl i
  obtain ⟨_, c, T, fz, hb, _⟩ := cell_block (h 0 (by omega))
  rw [e] at hb
  refine ⟨c, T, fz, hb, fun x hx hx2 => ?_⟩
  have hl : (zs.take n).length = n := by rw [List.length_take]; omega
  have hi := h (x - o) (by omega)
  rw [e, show o + (x - o) = x by omega] at hi
  obtain ⟨_, c', T', fz', hb', hc'⟩ := cell_block hi
  have : c' = c := by
    have hb' : w.heap[b]? = some (.cells c' T' fz') := hb'
    have hb : w.heap[b]? = some (.cells c T fz) := hb
    rw [hb] at hb'
    injection hb' with hb'
    injection hb' with h1
    exact h1.symm
  subst this
  have hc' : c'[x]? = some (Value.int .i64 (zs.getD (x - o) 0)) := hc'
  rw [hc']
  have : (zs.take n).getD (x - o) 0 = zs.getD (x - o) 0 := by
    rw [List.getD_eq_getElem?_getD, List.getD_eq_getElem?_getD, List.getElem?_take_of_lt (by omega)]
  simp only [ints, this]

end Go.Proofs.YtlnecfdbmoilbaaDoor.K
