/-
  A walk by computing, fifth part: arenas in memory; the state of a walk; regions, tests, loops, calls, ends.
-/
import Derived.Test.YtlnecfdbmoilbaaDoorKd
import Derived.Deep.Quiet
import Derived.StillTail
namespace Go.Proofs.YtlnecfdbmoilbaaDoor.K
set_option linter.unusedSimpArgs false
set_option linter.unusedVariables false

/-! ## Arenas -/

/-- An arena, plainly: how many pages there may be, which are there, what each byte is. -/
structure AM where
  cap : Nat
  com : Nat → Bool
  mem : Nat → UInt8
  armed : Bool
  refuse : Nat

/-- How many of the numbers below n are so. -/
def countTo (p : Nat → Bool) : Nat → Nat
  | 0 => 0
  | n + 1 => countTo p n + (if p n then 1 else 0)

/-- Words of 64 bits that tell which of the numbers below n are so. -/
structure Words (ws : Nat → Nat) (nw n : Nat) (p : Nat → Bool) : Prop where
  many : nw = (n + 63) / 64
  bit : ∀ j, j < nw → ∀ i, i < 64 → (ws j).testBit i = (decide (64 * j + i < n) && p (64 * j + i))
  small : ∀ j, j < nw → ws j < 2 ^ 64

/-- A slice of words in memory, whatever stands behind them. -/
def WordsAt (w : World) (bw off nw : Nat) (ws : Nat → Nat) : Prop :=
  ∃ c T fz, w.heap[bw]? = some (.cells c T fz) ∧ ∀ j, j < nw → c[off + j]? = some (.int .u64 (ws j : Int))

/-- Where an arena's parts lie. -/
structure Lie where
  bp : Nat
  bw : Nat
  ow : Nat
  nw : Nat
  cw : Nat
  ws : Nat → Nat
  pb : Nat → Nat
  TA : TypeId
  TP : TypeId

/-- An arena in the list of those that a walk knows: its block, the blocks that are its own, what it is. -/
structure ArS where
  b : Nat
  F : Nat → Prop
  m : AM

def pageOf (m : AM) (pb : Nat → Nat) (i : Nat) : Value := .pointer (if m.com i then some ⟨pb i, 0, none⟩ else none)

structure ArAt (w : World) (r : ArS) (d : Lie) : Prop where
  head : w.heap[r.b]? = some (.cells #[.slice (some ⟨d.bp, 0, none⟩) r.m.cap r.m.cap, .int .i64 (r.m.cap : Int), .slice (some ⟨d.bw, d.ow, none⟩) d.nw d.cw, .int .i64 (countTo r.m.com r.m.cap : Int), .bool r.m.armed, .int .i64 (r.m.refuse : Int)] d.TA (0, 0))
  pages : ∃ c, w.heap[d.bp]? = some (.cells c d.TP (0, 0)) ∧ c.size = r.m.cap ∧ ∀ i, i < r.m.cap → c[i]? = some (pageOf r.m d.pb i)
  words : WordsAt w d.bw d.ow d.nw d.ws
  set : Words d.ws d.nw r.m.cap r.m.com
  page : ∀ i, i < r.m.cap → r.m.com i = true → ∃ c T, w.heap[d.pb i]? = some (.cells c T (0, 0)) ∧ c.size = 4096 ∧ ∀ o, o < 4096 → c[o]? = some (.int .u8 ((r.m.mem (4096 * i + o)).toNat : Int))
  ne1 : r.b ≠ d.bp
  ne2 : r.b ≠ d.bw
  ne3 : d.bp ≠ d.bw
  ne4 : ∀ i, i < r.m.cap → r.m.com i = true → d.pb i ≠ r.b ∧ d.pb i ≠ d.bp ∧ d.pb i ≠ d.bw
  inj : ∀ i j, i < r.m.cap → r.m.com i = true → j < r.m.cap → r.m.com j = true → d.pb i = d.pb j → i = j
  capLe : r.m.cap ≤ 1048576
  refuseLe : r.m.refuse < 2 ^ 63
  foot : ∀ k, r.F k ↔ (k = r.b ∨ k = d.bp ∨ k = d.bw ∨ ∃ i, i < r.m.cap ∧ r.m.com i = true ∧ k = d.pb i)

def Ar (w : World) (r : ArS) : Prop := ∃ d, ArAt w r d

theorem lt_of_some {w : World} {b : Nat} {o : Obj} (h : w.heap[b]? = some o) : b < w.heap.size := (Array.getElem?_eq_some_iff.1 h).1

theorem Ar.lt {w : World} {r : ArS} (h : Ar w r) {k : Nat} (hk : r.F k) : k < w.heap.size := by
  obtain ⟨d, h⟩ := h
  rcases (h.foot k).1 hk with rfl | rfl | rfl | ⟨i, h1, h2, rfl⟩
  · exact lt_of_some h.head
  · obtain ⟨c, hc, _⟩ := h.pages; exact lt_of_some hc
  · obtain ⟨c, T, fz, hc, _⟩ := h.words; exact lt_of_some hc
  · obtain ⟨c, T, hc, _⟩ := h.page i h1 h2; exact lt_of_some hc

theorem Ar.self {w : World} {r : ArS} (h : Ar w r) : r.F r.b := by
  obtain ⟨d, h⟩ := h
  exact (h.foot _).2 (.inl rfl)

theorem Ar.congr {w w' : World} {r : ArS} (h : Ar w r) (e : ∀ k, r.F k → w'.heap[k]? = w.heap[k]?) : Ar w' r := by
  obtain ⟨d, h⟩ := h
  refine ⟨d, ?_, ?_, ?_, h.set, ?_, h.ne1, h.ne2, h.ne3, h.ne4, h.inj, h.capLe, h.refuseLe, h.foot⟩
  · rw [e _ ((h.foot _).2 (.inl rfl))]; exact h.head
  · obtain ⟨c, hc, r⟩ := h.pages
    exact ⟨c, by rw [e _ ((h.foot _).2 (.inr (.inl rfl)))]; exact hc, r⟩
  · obtain ⟨c, T, fz, hc, r⟩ := h.words
    exact ⟨c, T, fz, by rw [e _ ((h.foot _).2 (.inr (.inr (.inl rfl))))]; exact hc, r⟩
  · intro i h1 h2
    obtain ⟨c, T, hc, r⟩ := h.page i h1 h2
    exact ⟨c, T, by rw [e _ ((h.foot _).2 (.inr (.inr (.inr ⟨i, h1, h2, rfl⟩))))]; exact hc, r⟩

/-- A part of memory, and what is known of it. -/
structure Res where
  F : Nat → Prop
  R : World → Prop
  lt : ∀ w, R w → ∀ k, F k → k < w.heap.size
  cg : ∀ w w', R w → (∀ k, F k → w'.heap[k]? = w.heap[k]?) → R w'

def arR (b : Nat) (F : Nat → Prop) (m : AM) : Res := ⟨F, fun w => Ar w ⟨b, F, m⟩, fun _ h _ hk => Ar.lt h hk, fun _ _ h e => Ar.congr h e⟩

def inF : List Res → Nat → Prop
  | [], _ => False
  | r :: l, k => r.F k ∨ inF l k

theorem inF_iff {A : List Res} {k : Nat} : inF A k ↔ ∃ r ∈ A, r.F k := by
  induction A with
  | nil => simp [inF]
  | cons r l ih => simp [inF, ih]

structure AllAr (w : World) (A : List Res) : Prop where
  each : ∀ r ∈ A, r.R w
  apart : A.Pairwise fun r s => ∀ k, r.F k → ¬ s.F k

theorem AllAr.congr {w w' : World} {A : List Res} (h : AllAr w A) (e : ∀ k, inF A k → w'.heap[k]? = w.heap[k]?) : AllAr w' A :=
  ⟨fun r hr => r.cg _ _ (h.each r hr) fun k hk => e k (inF_iff.2 ⟨r, hr, hk⟩), h.apart⟩

theorem AllAr.lt {w : World} {A : List Res} (h : AllAr w A) {k : Nat} (hk : inF A k) : k < w.heap.size := by
  obtain ⟨r, hr, hk⟩ := inF_iff.1 hk
  exact r.lt _ (h.each r hr) _ hk

theorem AllAr.nil (w : World) : AllAr w [] := ⟨(fun _ h => nomatch h), List.Pairwise.nil⟩

/-- No block at all; those of either. -/
def no : Nat → Prop := fun _ => False
def orF (D D' : Nat → Prop) : Nat → Prop := fun k => D k ∨ D' k
def one (s : Nat) : Nat → Prop := fun k => k = s

/-- From w to w' nothing but what is in D, and new blocks, has turned; D': what may turn then. -/
structure Fr (w w' : World) (D D' : Nat → Prop) : Prop where
  os : w'.os = w.os
  tape : w'.tape = w.tape
  output : w'.output = w.output
  size : w.heap.size ≤ w'.heap.size
  block : ∀ k, k < w.heap.size → ¬ D k → w'.heap[k]? = w.heap[k]?
  foot : ∀ k, D' k → D k ∨ w.heap.size ≤ k

theorem Fr.refl (w : World) (D : Nat → Prop) : Fr w w D D := ⟨rfl, rfl, rfl, Nat.le_refl _, fun _ _ _ => rfl, fun _ h => .inl h⟩

theorem Fr.trans {a b c : World} {A B C : Nat → Prop} (h : Fr a b A B) (k : Fr b c B C) : Fr a c A C := by
  refine ⟨k.os.trans h.os, k.tape.trans h.tape, k.output.trans h.output, Nat.le_trans h.size k.size, fun i hi hn => ?_, fun i hi => ?_⟩
  · rw [k.block i (Nat.lt_of_lt_of_le hi h.size) ?_, h.block i hi hn]
    intro hb
    rcases h.foot i hb with hb | hb
    · exact hn hb
    · omega
  · rcases k.foot i hi with hi | hi
    · exact h.foot i hi
    · exact .inr (Nat.le_trans h.size hi)

theorem Fr.to {w w' : World} {D D' D2 D2' : Nat → Prop} (h : Fr w w' D D') (h1 : ∀ k, D k → D2 k ∨ w.heap.size ≤ k) (h2 : ∀ k, D2' k → D2 k ∨ w.heap.size ≤ k) : Fr w w' D2 D2' :=
  ⟨h.os, h.tape, h.output, h.size, fun k hk hn => h.block k hk fun hd => by
    rcases h1 k hd with h3 | h3
    · exact hn h3
    · omega, h2⟩

/-- Nothing turns any more. -/
theorem Fr.none {w w' : World} {D D' : Nat → Prop} (h : Fr w w' D D') : Fr w w' D no := ⟨h.os, h.tape, h.output, h.size, h.block, fun _ h => h.elim⟩

/-! ## The state of a walk -/

/-- Where the walk began, and what it may turn of what lay then. -/
structure Cx where
  w0 : World
  D : Nat → Prop

/-- Memory: our own blocks, the arenas, and that all else is as it was. -/
structure WS (c : Cx) (H : Heap) (A : List Res) (w : World) : Prop where
  heap : ∀ e ∈ H, e.2.holds w e.1
  apart : H.Pairwise apartP
  mine : ∀ e ∈ H, e.2.own = true → c.w0.heap.size ≤ e.1 ∨ c.D e.1
  free : ∀ e ∈ H, ¬ inF A e.1
  ars : AllAr w A
  fr : Fr c.w0 w c.D (inF A)

structure St (c : Cx) (n : Nat) (E : Env) (H : Heap) (A : List Res) (a : Act) (w : World) : Prop where
  defers : a.defers = []
  size : n ≤ a.tmps.size
  env : Agree E a
  mem : WS c H A w

theorem Own.ws {c : Cx} {H H' : Heap} {A : List Res} {w w' : World} (h : WS c H A w) (hO : Own H w w') (hh : ∀ e ∈ H', e.2.holds w' e.1) (ha : H'.Pairwise apartP)
    (hn : ∀ e ∈ H', (∃ e' ∈ H, e'.1 = e.1 ∧ e'.2.own = e.2.own) ∨ (w.heap.size ≤ e.1 ∧ e.2.own = true)) : WS c H' A w' := by
  have hk : ∀ k, inF A k → w'.heap[k]? = w.heap[k]? := fun k hk => hO.block k (h.ars.lt hk) fun e he _ hek => h.free e he (hek ▸ hk)
  refine ⟨hh, ha, fun e he ho => ?_, fun e he hf => ?_, h.ars.congr hk, ?_⟩
  · rcases hn e he with ⟨e', he', h1, h2⟩ | ⟨h1, _⟩
    · rw [← h1]; exact h.mine e' he' (h2.trans ho)
    · exact .inl (Nat.le_trans h.fr.size h1)
  · rcases hn e he with ⟨e', he', h1, _⟩ | ⟨h1, _⟩
    · exact h.free e' he' (h1 ▸ hf)
    · have := h.ars.lt hf; omega
  · refine ⟨hO.os.trans h.fr.os, hO.tape.trans h.fr.tape, hO.output.trans h.fr.output, Nat.le_trans h.fr.size hO.size, fun k hk hn => ?_, h.fr.foot⟩
    rw [hO.block k (Nat.lt_of_lt_of_le hk h.fr.size) ?_, h.fr.block k hk hn]
    intro e he ho hek
    rcases h.mine e he ho with h1 | h1
    · omega
    · exact hn (hek ▸ h1)

theorem WS.fine {c : Cx} {H : Heap} {A : List Res} {w : World} (h : WS c H A w) : Fine (fun j => w.heap.size + j) ⟨H, 0, []⟩ w :=
  ⟨h.heap, h.apart, fun j => by show w.heap.size + (0 + j) = _; omega⟩

/-- Some of the slots, some of the blocks are known yet. -/
def pickE (E : Env) : List Nat → Option Env
  | [] => some []
  | t :: l => match look E t, pickE E l with
    | some ([], v), some l' => some ((t, [], v) :: l')
    | _, _ => none

def pickH (H : Heap) : List Nat → Option Heap
  | [] => some []
  | i :: l => match H[i]?, pickH H l with
    | some e, some l' => some (e :: l')
    | _, _ => none

def incr : Nat → List Nat → Bool
  | _, [] => true
  | m, i :: l => Nat.ble m i && incr (i + 1) l

theorem pickE_agree {E E' : Env} {a : Act} (h : Agree E a) : ∀ {l : List Nat}, pickE E l = some E' → Agree E' a := by
  intro l
  induction l generalizing E' with
  | nil => intro he; simp only [pickE, Option.some.injEq] at he; subst he; intro e he; cases he
  | cons t l ih =>
    intro he
    simp only [pickE] at he
    split at he
    · rename_i v l' h1 h2
      obtain rfl := Option.some.inj he
      intro e he
      rcases List.mem_cons.1 he with rfl | he
      · exact h _ (look_mem h1)
      · exact ih h2 e he
    · simp at he

theorem pickH_spec {H H' : Heap} : ∀ {l : List Nat}, pickH H l = some H' → (∀ (j : Nat) (e : Nat × HE), H'[j]? = some e → ∃ i, l[j]? = some i ∧ H[i]? = some e) := by
  intro l
  induction l generalizing H' with
  | nil => intro he; simp only [pickH, Option.some.injEq] at he; subst he; intro j e h; simp at h
  | cons i l ih =>
    intro he
    simp only [pickH] at he
    split at he
    · rename_i e0 l' h1 h2
      obtain rfl := Option.some.inj he
      intro j e h
      cases j with
      | zero => simp at h; subst h; exact ⟨i, rfl, h1⟩
      | succ j => exact ih h2 j e (by simpa using h)
    · simp at he

theorem incr_lt : ∀ {l : List Nat} {m : Nat}, incr m l = true → (∀ x ∈ l, m ≤ x) ∧ ∀ (i j x y : Nat), i < j → l[i]? = some x → l[j]? = some y → x < y := by
  intro l
  induction l with
  | nil => intro m _; exact ⟨(fun x h => nomatch h), fun i j x y _ h => by simp at h⟩
  | cons z l ih =>
    intro m h
    simp only [incr, Bool.and_eq_true] at h
    have hz : m ≤ z := Nat.le_of_ble_eq_true h.1
    obtain ⟨h1, h2⟩ := ih h.2
    refine ⟨fun x hx => ?_, fun i j x y hij hx hy => ?_⟩
    · rcases List.mem_cons.1 hx with rfl | hx
      · exact hz
      · have := h1 x hx; omega
    · cases j with
      | zero => omega
      | succ j =>
        cases i with
        | zero =>
          simp at hx hy
          subst hx
          have := h1 y (List.mem_of_getElem? hy)
          omega
        | succ i => exact h2 i j x y (by omega) (by simpa using hx) (by simpa using hy)

theorem pickH_apart {H H' : Heap} {l : List Nat} (h : H.Pairwise apartP) (hp : pickH H l = some H') (hi : incr 0 l = true) : H'.Pairwise apartP := by
  refine pairwise_of_get fun i j x y hij hx hy => ?_
  obtain ⟨i', h1, h2⟩ := pickH_spec hp i x hx
  obtain ⟨j', k1, k2⟩ := pickH_spec hp j y hy
  exact pairwise_get h (Nat.ne_of_lt ((incr_lt hi).2 i j i' j' hij h1 k1)) h2 k2

theorem pickH_mem {H H' : Heap} {l : List Nat} (hp : pickH H l = some H') : ∀ e ∈ H', e ∈ H := by
  intro e he
  obtain ⟨j, hj⟩ := List.mem_iff_getElem?.1 he
  obtain ⟨i, _, h⟩ := pickH_spec hp j e hj
  exact List.mem_of_getElem? h

theorem WS.pick {c : Cx} {H H' : Heap} {A : List Res} {w : World} {l : List Nat} (h : WS c H A w) (hp : pickH H l = some H') (hi : incr 0 l = true) : WS c H' A w :=
  ⟨fun e he => h.heap e (pickH_mem hp e he), pickH_apart h.apart hp hi, fun e he => h.mine e (pickH_mem hp e he), fun e he => h.free e (pickH_mem hp e he), h.ars, h.fr⟩

/-- A row of operations, what is kept of slots and blocks behind it, and what is to be shown. -/
def evSeg (P : Program) (n : Nat) (q : Bool) (ops : Array Oper) (ν : Nat → Nat) (hs : List Hint) (l : List Oper) (E : Env) (H : Heap) (kE kH : List Nat) : Option (Env × Heap × List Prop) :=
  match guardsOk n ops l && incr 0 kH with
  | true => match evOps P n q ops ν hs l E ⟨H, 0, []⟩ with
    | some (E', s') => match pickE E' kE, pickH s'.heap kH with
      | some E2, some H2 => some (E2, H2, s'.ob)
      | _, _ => none
    | none => none
  | false => none

theorem St.seg {P : Program} {c : Cx} {n : Nat} {E : Env} {H : Heap} {A : List Res} {a : Act} {w : World} {ops : Array Oper} {Q : Exit → Act → World → Prop} {l rest : List Oper} (hs : List Hint) (kE kH : List Nat) (hS : St c n E H A a w)
    (h : ∀ ν : Nat → Nat, ∃ E' H' obs, evSeg P n false ops ν hs l E H kE kH = some (E', H', obs) ∧ AllP obs ∧ ∀ a' w', St c n E' H' A a' w' → wpList P ops Q rest a' w') : wpList P ops Q (l ++ rest) a w := by
  obtain ⟨E', H', obs, he, hob, hk⟩ := h (fun j => w.heap.size + j)
  unfold evSeg at he
  split at he
  · rename_i hg
    simp only [Bool.and_eq_true] at hg
    split at he
    · rename_i E1 s1 h1
      split at he
      · rename_i E2 H2 h2 h3
        simp only [Option.some.injEq, Prod.mk.injEq] at he
        obtain ⟨rfl, rfl, rfl⟩ := he
        refine wpList_evOps rest hs l _ _ _ _ _ _ h1 hg.1 hS.env hS.size hS.mem.fine hob fun a' w' g1 g2 g3 g4 g5 g6 => ?_
        exact hk a' w' ⟨g3.trans hS.defers, by rw [g2]; exact hS.size, pickE_agree g1 h2, (g5.ws hS.mem g4.holds g4.apart g6.new).pick h3 hg.2⟩
      · simp at he
    · simp at he
  · simp at he

theorem St.region {P : Program} {c : Cx} {n : Nat} {E : Env} {H : Heap} {A : List Res} {a : Act} {w : World} {id : Nat} {Q : Exit → Act → World → Prop} {l : List Oper} (hs : List Hint) (kE kH : List Nat) (hS : St c n E H A a w)
    (h : ∀ ν : Nat → Nat, ∃ E' H' obs, evSeg P n false l.toArray ν hs l E H kE kH = some (E', H', obs) ∧ AllP obs ∧ ∀ a' w', St c n E' H' A a' w' → Q .normal a' w') : (Code.region id l.toArray false).wp P Q a w := by
  refine wp_region_lit ?_
  have := St.seg (Q := Q) (rest := []) (ops := l.toArray) hs kE kH hS h
  rw [List.append_nil] at this
  exact this

end Go.Proofs.YtlnecfdbmoilbaaDoor.K
