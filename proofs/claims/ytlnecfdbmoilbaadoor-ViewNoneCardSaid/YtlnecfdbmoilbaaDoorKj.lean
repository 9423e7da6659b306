/-
  A walk by computing, tenth part: begins, loops and calls in short; how values are spelt.
-/
import Derived.Test.YtlnecfdbmoilbaaDoorKi
namespace Go.Proofs.YtlnecfdbmoilbaaDoor.K
set_option linter.unusedSimpArgs false
set_option linter.unusedVariables false

abbrev vi (x : Int) : Value := .int .i64 x
abbrev vu (x : Int) : Value := .int .u64 x
abbrev v8 (x : Int) : Value := .int .u8 x
abbrev vb (x : Bool) : Value := .bool x
abbrev pt (b o : Nat) : Value := .pointer (some ⟨b, o, none⟩)
abbrev sc (b o n c : Nat) : Value := .slice (some ⟨b, o, none⟩) n c
abbrev vnil : Value := .slice none 0 0
abbrev pnil : Value := .pointer none

def AllF (w : World) : Heap → Prop
  | [] => True
  | e :: l => (e.2.own = false ∧ e.2.holds w e.1) ∧ AllF w l

theorem AllF.mem {w : World} : ∀ {H : Heap}, AllF w H → ∀ e ∈ H, e.2.own = false ∧ e.2.holds w e.1
  | [], _, _, he => nomatch he
  | x :: l, h, e, he => by
    rcases List.mem_cons.1 he with rfl | he
    · exact h.1
    · exact AllF.mem h.2 e he

def AllN (D : Nat → Prop) : Heap → Prop
  | [] => True
  | e :: l => ¬ D e.1 ∧ AllN D l

theorem AllN.mem {D : Nat → Prop} : ∀ {H : Heap}, AllN D H → ∀ e ∈ H, ¬ D e.1
  | [], _, _, he => nomatch he
  | x :: l, h, e, he => by
    rcases List.mem_cons.1 he with rfl | he
    · exact h.1
    · exact AllN.mem h.2 e he

theorem AllF.apart {w : World} {H : Heap} (h : AllF w H) : H.Pairwise apartP := by
  refine pairwise_of_get fun i j p q hij hp hq ho => ?_
  have h1 := (h.mem p (List.mem_of_getElem? hp)).1
  have h2 := (h.mem q (List.mem_of_getElem? hq)).1
  rw [h1, h2] at ho
  simp at ho

/-- What came in: blocks that are read alone. -/
theorem WS.startL {w : World} {H : Heap} {D : Nat → Prop} (h : AllF w H) : WS ⟨w, D⟩ H [] w :=
  ⟨fun e he => (h.mem e he).2, h.apart, fun e he ho => (by rw [(h.mem e he).1] at ho; cases ho), fun e he hf => hf, AllAr.nil w, (Fr.refl w D).to (fun k hk => .inl hk) (fun k hk => hk.elim)⟩

/-- And an arena. -/
theorem WS.startA {w : World} {H : Heap} {r : Res} (hr : r.R w) (h : AllF w H) (hn : AllN r.F H) : WS ⟨w, r.F⟩ H [r] w :=
  ⟨fun e he => (h.mem e he).2, h.apart, fun e he ho => (by rw [(h.mem e he).1] at ho; cases ho), fun e he hf => hf.elim (hn.mem e he) id, AllAr.one hr, (Fr.refl w r.F).to (fun k hk => .inl hk) (fun k hk => .inl (hk.elim id (fun h => h.elim)))⟩

theorem startM_apart {w : World} {H : Heap} {s : Nat} {y : HE} (h : AllF w H) (hn : AllN (one s) H) : (H ++ [(s, y)]).Pairwise apartP := by
  rw [List.pairwise_append]
  refine ⟨h.apart, List.pairwise_singleton _ _, fun p hp q hq ho e => ?_⟩
  obtain rfl := List.mem_singleton.1 hq
  exact hn.mem p hp e

/-- And a block that may be turned. -/
theorem WS.startM {w : World} {H : Heap} {s : Nat} {y : HE} (hs : y.holds w s) (h : AllF w H) (hn : AllN (one s) H) : WS ⟨w, one s⟩ (H ++ [(s, y)]) [] w := by
  refine ⟨fun e he => ?_, startM_apart h hn, fun e he ho => ?_, fun e he hf => hf, AllAr.nil w, (Fr.refl w _).to (fun k hk => .inl hk) (fun k hk => hk.elim)⟩
  · rcases List.mem_append.1 he with he | he
    · exact (h.mem e he).2
    · obtain rfl := List.mem_singleton.1 he; exact hs
  · rcases List.mem_append.1 he with he | he
    · rw [(h.mem e he).1] at ho; cases ho
    · obtain rfl := List.mem_singleton.1 he; exact .inr rfl

/-- An arena, and a block that may be turned. -/
theorem WS.startAM {w : World} {H : Heap} {r : Res} {s : Nat} {y : HE} (hr : r.R w) (hs : y.holds w s) (h : AllF w H) (hn : AllN (one s) H) (hf : AllN r.F H) (hsf : ¬ r.F s) : WS ⟨w, orF r.F (one s)⟩ (H ++ [(s, y)]) [r] w := by
  refine ⟨fun e he => ?_, startM_apart h hn, fun e he ho => ?_, fun e he hk => ?_, AllAr.one hr, (Fr.refl w _).to (fun k hk => .inl hk) (fun k hk => .inl (hk.elim .inl (fun h => h.elim)))⟩
  · rcases List.mem_append.1 he with he | he
    · exact (h.mem e he).2
    · obtain rfl := List.mem_singleton.1 he; exact hs
  · rcases List.mem_append.1 he with he | he
    · rw [(h.mem e he).1] at ho; cases ho
    · obtain rfl := List.mem_singleton.1 he; exact .inr (.inr rfl)
  · rcases hk with hk | hk
    · rcases List.mem_append.1 he with he | he
      · exact hf.mem e he hk
      · obtain rfl := List.mem_singleton.1 he; exact hsf hk
    · exact hk

section
variable {P : Program} {c : Cx} {n : Nat} {E : Env} {H : Heap} {A : List Res} {a : Act} {w : World} {Q : Exit → Act → World → Prop}

theorem fst_get {H : Heap} {i g : Nat} (hi : (H[i]?).map (·.1) = some g) : ∃ x, H[i]? = some (g, x) := by
  cases h : H[i]? with
  | none => rw [h] at hi; cases hi
  | some e => rw [h] at hi; obtain rfl := Option.some.inj hi; exact ⟨e.2, rfl⟩
theorem own_get {H : Heap} {i g : Nat} (hi : (H[i]?).map (fun e => (e.1, e.2.own)) = some (g, true)) : ∃ x, H[i]? = some (g, x) ∧ x.own = true := by
  cases h : H[i]? with
  | none => rw [h] at hi; cases hi
  | some e =>
    rw [h] at hi
    have := Option.some.inj hi
    simp only [Prod.mk.injEq] at this
    exact ⟨e.2, by rw [← this.1], this.2⟩
theorem WS.nF (h : WS c H A w) (i j : Nat) {g : Nat} {r : Res} (hi : (H[i]?).map (·.1) = some g := by as_aux_lemma => kernel_rfl) (hj : A[j]? = some r := by rfl) : ¬ r.F g := fun hk => by
  obtain ⟨x, hx⟩ := fst_get hi
  exact h.free _ (List.mem_of_getElem? hx) (inF_at hj hk)
theorem WS.neq (h : WS c H A w) (i j : Nat) {g s : Nat} (hi : (H[i]?).map (·.1) = some g := by as_aux_lemma => kernel_rfl) (hj : (H[j]?).map (fun e => (e.1, e.2.own)) = some (s, true) := by as_aux_lemma => kernel_rfl) (hij : i ≠ j := by decide) : ¬ K.one s g := fun e => by
  obtain ⟨x, hx⟩ := fst_get hi
  obtain ⟨y, hy, ho⟩ := own_get hj
  exact pairwise_get h.apart hij hx hy (.inr ho) e
theorem WS.nq (h : WS c H A w) (i j : Nat) (g s : Nat) (hi : (H[i]?).map (·.1) = some g := by as_aux_lemma => kernel_rfl) (hj : (H[j]?).map (fun e => (e.1, e.2.own)) = some (s, true) := by as_aux_lemma => kernel_rfl) (hij : i ≠ j := by decide) : g ≠ s := h.neq i j hi hj hij
theorem WS.res (h : WS c H A w) {r : Res} (i : Nat) (hi : A[i]? = some r := by rfl) : r.R w := h.ars.each _ (List.mem_of_getElem? hi)
theorem Res.keep {r : Res} {w w' : World} {D' : Nat → Prop} (h : r.R w) (hf : Fr w w' no D') : r.R w' := r.cg _ _ h fun k hk => hf.block k (r.lt _ h _ hk) (fun h => h)
/-- A new row beside what a call has turned. -/
theorem WS.addNew {H' : Heap} {A' : List Res} {w' : World} {N : Nat} (h : WS c H' A' w') {g : Nat} {e : TypeId} {m tot : Nat} {f : Nat → Value} (hg : N ≤ g) (ho : HE.holds w' g (.row e m tot f)) (hc : c.w0.heap.size ≤ N) (hb : ∀ e ∈ H', e.1 < N) (hA : ∀ k, inF A' k → k < N) : WS c (H' ++ [(g, .row e m tot f)]) A' w' :=
  h.add ho (fun _ => .inl (Nat.le_trans hc hg)) (fun hn => by have := hA g hn; omega) (fun e he _ => by have := hb e he; omega)
theorem WS.arf (h : WS c H A w) {b : Nat} {F : Nat → Prop} {m : AM} (i : Nat) (hi : A[i]? = some (arR b F m) := by rfl) : Ar w ⟨b, F, m⟩ := h.ars.each _ (List.mem_of_getElem? hi)

/-- What is known at a loop's head. -/
structure LSt where
  E : Env
  H : Heap
  A : List Res
  I : Prop
  m : Nat

def slots : Env → List Nat
  | [] => []
  | e :: l => e.1 :: slots l

theorem St.env' {E' : Env} (hS : St c n E H A a w) (he : pickE E (slots E') = some E') : St c n E' H A a w := ⟨hS.defers, hS.size, pickE_agree hS.env he, hS.mem⟩

theorem St.loopC {σ : Type} {body : Code} (L : σ → LSt) (x0 : σ) (h0 : (L x0).I) (hS : St c n E H A a w)
    (round : ∀ x, (L x).I → ∀ a w, St c n (L x).E (L x).H (L x).A a w → body.wp P (Exit.then (fun a' w' => ∃ x', (L x').I ∧ (L x').m < (L x).m ∧ St c n (L x').E (L x').H (L x').A a' w') Q) a w)
    (he : pickE E (slots (L x0).E) = some (L x0).E := by as_aux_lemma => kernel_rfl) (hh : H = (L x0).H := by as_aux_lemma => kernel_rfl) (ha : A = (L x0).A := by rfl) : (Code.loop body).wp P Q a w := by
  subst hh; subst ha
  exact (hS.env' he).loop (fun x => (L x).E) (fun x => (L x).H) (fun x => (L x).A) (fun x => (L x).I) (fun x => (L x).m) x0 h0 round

theorem St.next {σ : Type} {L : σ → LSt} {k : Nat} (x' : σ) (hI : (L x').I) (hm : (L x').m < k) (hS : St c n E H A a w) (he : pickE E (slots (L x').E) = some (L x').E := by as_aux_lemma => kernel_rfl) (hh : H = (L x').H := by as_aux_lemma => kernel_rfl) (ha : A = (L x').A := by rfl) :
    ∃ x', (L x').I ∧ (L x').m < k ∧ St c n (L x').E (L x').H (L x').A a w := by
  subst hh; subst ha
  exact ⟨x', hI, hm, hS.env' he⟩

/-- Where ways meet again. -/
theorem St.meetC {σ : Type} {x y : Code} (L : σ → LSt) (h1 : x.wp P (Exit.then (fun a' w' => ∃ z, (L z).I ∧ (L z).m < 1 ∧ St c n (L z).E (L z).H (L z).A a' w') Q) a w)
    (h2 : ∀ z, (L z).I → ∀ a w, St c n (L z).E (L z).H (L z).A a w → y.wp P Q a w) : (x.seq y).wp P Q a w :=
  St.meet (fun x => (L x).E) (fun x => (L x).H) (fun x => (L x).A) (fun x => (L x).I) (wp_mono h1 (fun e a' w' hq => by
    cases e with
    | normal => obtain ⟨z, h1, h2, h3⟩ := hq; exact ⟨z, h1, h3⟩
    | _ => exact hq)) h2

theorem St.call0n {ops : Array Oper} {o : Oper} {rest : List Oper} (hS : St c n E H A a w) (f : FuncId) (args : Array Value) {v : Value} (hC : Calls P f args w fun e w' => e = .returned v ∧ Fr w w' no no)
    (h : ∀ a' w', St c n E H A a' w' → wpList P ops Q rest a' w')
    (he : evCall P ops 0 0 E H o = some (f, args, []) := by as_aux_lemma => kernel_rfl) (hg : guardsOk n ops [o] = true := by as_aux_lemma => kernel_rfl) (hd : o.dst = none := by rfl) : wpList P ops Q (o :: rest) a w := by
  refine hS.call 0 0 he trivial hg hC ?_
  rintro _ w' ⟨rfl, hF⟩
  refine ⟨v, rfl, ?_⟩
  rw [hd]
  exact h _ _ (hS.to (hS.mem.keep0 hF))

/-- A row told by another function that is the same on it. -/
theorem WS.tellR (h : WS c H A w) (i : Nat) {b : Nat} {e : TypeId} {m tot : Nat} {f : Nat → Value} (g : Nat → Value) (hg : ∀ o, o < m → g o = f o) (hi : H[i]? = some (b, .row e m tot f) := by as_aux_lemma => kernel_rfl) : WS c (H.set i (b, .row e m tot g)) A w := h.refn hi hg rfl

end
end Go.Proofs.YtlnecfdbmoilbaaDoor.K
