/-
  A walk by computing: the operations of one statement are carried out upon a list of slots and a list of blocks, by the kernel; one theorem says that the machine does the same.
-/
import Derived.Tactics
import Derived.Laws.World
import Derived.KernelRfl
import Derived.Deep.Quiet
namespace Go.Proofs.YtlnecfdbmoilbaaDoor.K

/-- What is known of a block: exactly these cells; or its cells from lo on, below hi (a block of somebody else's, to be read alone); or, of one of our own that has tot cells, the first n. -/
inductive HE where
  | cells (cs : List Value) (T : TypeId)
  | fn (lo hi : Nat) (f : Nat → Value)
  | row (e : TypeId) (n tot : Nat) (f : Nat → Value)

def HE.own : HE → Bool
  | .cells _ _ => true
  | .fn _ _ _ => false
  | .row _ _ _ _ => true

def HE.holds (w : World) (b : Nat) : HE → Prop
  | .cells cs T => w.heap[b]? = some (.cells cs.toArray T (0, 0))
  | .fn lo hi f => ∃ c T fz, w.heap[b]? = some (.cells c T fz) ∧ ∀ o, lo ≤ o → o < hi → c[o]? = some (f o)
  | .row e n tot f => ∃ c, w.heap[b]? = some (.cells c e (0, 0)) ∧ c.size = tot ∧ n ≤ tot ∧ ∀ o, o < n → c[o]? = some (f o)

abbrev Heap := List (Nat × HE)

structure LS where
  heap : Heap
  k : Nat
  ob : List Prop

def oneCell : Value → Bool
  | .agg _ => false
  | .tuple _ => false
  | _ => true

/-- The memory of one operation: the block that it touches is the h-th of the list; new blocks are called ν k, ν (k + 1), ..; ro: it may only read. -/
def absRun {α : Type} (P : Program) (h : Nat) (ν : Nat → Nat) (ro : Bool) : Sem α → LS → Option (α × LS)
  | .pure a, s => some (a, s)
  | .load _ a k, s => match s.heap[h]? with
    | some (b, .cells cs _) => match a.spot, cs[a.off]? with
      | none, some v => absRun P h ν ro (k v) { s with ob := (a.block = b) :: s.ob }
      | _, _ => none
    | some (b, .fn lo hi f) => match a.spot with
      | none => absRun P h ν ro (k (f a.off)) { s with ob := (a.block = b) :: (lo ≤ a.off ∧ a.off < hi) :: s.ob }
      | _ => none
    | some (b, .row _ n _ f) => match a.spot with
      | none => absRun P h ν ro (k (f a.off)) { s with ob := (a.block = b) :: (a.off < n) :: s.ob }
      | _ => none
    | none => none
  | .store _ a v k, s => match ro, oneCell v with
    | false, true => match s.heap[h]? with
      | some (b, .cells cs T) => match a.spot, a.off.blt cs.length with
        | none, true => absRun P h ν ro k { s with heap := s.heap.set h (b, .cells (cs.set a.off v) T), ob := (a.block = b) :: s.ob }
        | _, _ => none
      | some (b, .row e n tot f) => match a.spot with
        | none => absRun P h ν ro k { s with heap := s.heap.set h (b, .row e n tot (fun x => if x = a.off then v else f x)), ob := (a.block = b) :: (a.off < n) :: s.ob }
        | _ => none
      | _ => none
    | _, _ => none
  | .new o k, s => match ro, o with
    | false, .cells c T (0, 0) => absRun P h ν ro (k (ν s.k)) { s with heap := s.heap ++ [(ν s.k, .cells c.toList T)], k := s.k + 1 }
    | _, _ => none
  | .shape r k, s => match s.heap[h]? with
    | some (b, .cells cs T) => absRun P h ν ro (k (some (T, cs.length))) { s with ob := (r = b) :: s.ob }
    | _ => none
  | .freeze _ _ _, _ => none
  | .frozen a k, s => match s.heap[h]? with
    | some (b, .cells _ _) => absRun P h ν ro (k false) { s with ob := (a.block = b) :: s.ob }
    | _ => none
  | .getObj _ _, _ => none
  | .setObj _ _ _, _ => none
  | .choose _ _, _ => none
  | .sys _ _, _ => none
  | .program k, s => absRun P h ν ro (k P) s
  | .mark _ k, s => absRun P h ν ro k s
  | .halt _, _ => none

/-- All of a list of statements. -/
def AllP : List Prop → Prop
  | [] => True
  | p :: l => p ∧ AllP l

/-- Blocks of our own are apart from all others of the list. -/
def apartP (x y : Nat × HE) : Prop := x.2.own = true ∨ y.2.own = true → x.1 ≠ y.1

structure Fine (ν : Nat → Nat) (s : LS) (w : World) : Prop where
  holds : ∀ e ∈ s.heap, e.2.holds w e.1
  apart : s.heap.Pairwise apartP
  name : ∀ j, ν (s.k + j) = w.heap.size + j

/-- From w to w' nothing but blocks of our own, and new ones, has turned. -/
structure Own (H : Heap) (w w' : World) : Prop where
  os : w'.os = w.os
  tape : w'.tape = w.tape
  output : w'.output = w.output
  drawn : w'.drawn = w.drawn
  size : w.heap.size ≤ w'.heap.size
  block : ∀ k, k < w.heap.size → (∀ e ∈ H, e.2.own = true → e.1 ≠ k) → w'.heap[k]? = w.heap[k]?

theorem Own.refl (H : Heap) (w : World) : Own H w w := ⟨rfl, rfl, rfl, rfl, Nat.le_refl _, fun _ _ _ => rfl⟩

theorem Own.trans {H H' : Heap} {a b c : World} (h : Own H a b) (k : Own H' b c) (hh : ∀ e ∈ H', e.2.own = true → (∃ e' ∈ H, e'.2.own = true ∧ e'.1 = e.1) ∨ a.heap.size ≤ e.1) : Own H a c :=
  ⟨k.os.trans h.os, k.tape.trans h.tape, k.output.trans h.output, k.drawn.trans h.drawn, Nat.le_trans h.size k.size, fun i hi hn => by
    rw [k.block i (Nat.lt_of_lt_of_le hi h.size) ?_, h.block i hi hn]
    intro e he ho hei
    rcases hh e he ho with ⟨e', he', ho', h1⟩ | h1
    · exact hn e' he' ho' (h1.trans hei)
    · omega⟩

theorem HE.holds.lt {w : World} {b : Nat} {x : HE} (h : x.holds w b) : b < w.heap.size := by
  cases x with
  | cells cs T =>
    have h : w.heap[b]? = some _ := h
    exact (Array.getElem?_eq_some_iff.1 h).1
  | fn lo hi f =>
    obtain ⟨c, T, fz, h, _⟩ := h
    exact (Array.getElem?_eq_some_iff.1 h).1
  | row e n tot f =>
    obtain ⟨c, h, _⟩ := h
    exact (Array.getElem?_eq_some_iff.1 h).1

theorem HE.holds.congr {w w' : World} {b : Nat} {x : HE} (h : x.holds w b) (e : w'.heap[b]? = w.heap[b]?) : x.holds w' b := by
  cases x with
  | cells cs T => exact e.trans h
  | fn lo hi f =>
    obtain ⟨c, T, fz, h, r⟩ := h
    exact ⟨c, T, fz, e.trans h, r⟩
  | row e' n tot f =>
    obtain ⟨c, h, r⟩ := h
    exact ⟨c, e.trans h, r⟩

theorem cell_of_block {w : World} {a : Addr} {c : Array Value} {T : TypeId} {fz : Nat × Nat} (h : w.heap[a.block]? = some (.cells c T fz)) (hs : a.spot = none) : w.cell? a = c[a.off]? := by
  simp [World.cell?, h, hs]

theorem heap_setCell_eq {w : World} {a : Addr} {v : Value} {c : Array Value} {T : TypeId} {fz : Nat × Nat} (h : w.heap[a.block]? = some (.cells c T fz)) (hs : a.spot = none) :
    (w.setCell a v).heap[a.block]? = some (.cells (c.setIfInBounds a.off v) T fz) := by
  simp [World.setCell, Array.getElem?_modify, h, hs]

theorem heap_setCell_ne {w : World} {a : Addr} {v : Value} {k : Nat} (h : k ≠ a.block) : (w.setCell a v).heap[k]? = w.heap[k]? := by
  simp only [World.setCell, Array.getElem?_modify]
  rw [if_neg (by omega)]

theorem setCell_size (w : World) (a : Addr) (v : Value) : (w.setCell a v).heap.size = w.heap.size := by
  simp [World.setCell]

theorem mem_set_cases {α : Type} {l : List α} {n : Nat} {a x : α} (h : x ∈ l.set n a) : x = a ∨ ∃ m, m ≠ n ∧ l[m]? = some x := by
  obtain ⟨m, hm⟩ := List.mem_iff_getElem?.1 h
  by_cases e : n = m
  · subst e
    rw [List.getElem?_set] at hm
    simp at hm
    exact .inl hm.2.symm
  · rw [List.getElem?_set_ne e] at hm
    exact .inr ⟨m, fun h => e h.symm, hm⟩

theorem pairwise_get {l : Heap} (h : l.Pairwise apartP) {i j : Nat} {x y : Nat × HE} (hij : i ≠ j) (hx : l[i]? = some x) (hy : l[j]? = some y) : apartP x y := by
  obtain ⟨hi, rfl⟩ := List.getElem?_eq_some_iff.1 hx
  obtain ⟨hj, rfl⟩ := List.getElem?_eq_some_iff.1 hy
  rw [List.pairwise_iff_getElem] at h
  rcases Nat.lt_or_ge i j with hlt | hge
  · exact h i j hi hj hlt
  · have := h j i hj hi (by omega)
    intro ho e
    exact this ho.symm e.symm

theorem pairwise_of_get {l : Heap} (h : ∀ (i j : Nat) (x y : Nat × HE), i < j → l[i]? = some x → l[j]? = some y → apartP x y) : l.Pairwise apartP := by
  rw [List.pairwise_iff_getElem]
  intro i j hi hj hij
  exact h i j _ _ hij (List.getElem?_eq_getElem hi) (List.getElem?_eq_getElem hj)

/-- One block of our own is written. -/
theorem fine_store {ν : Nat → Nat} {s : LS} {w : World} {h : Nat} {b : Nat} {x y : HE} {a : Addr} {v : Value} {ob : List Prop} (F : Fine ν s w) (hx : s.heap[h]? = some (b, x)) (hb : a.block = b) (hox : x.own = true) (hoy : y.own = true)
    (hy : y.holds (w.setCell a v) b) : Fine ν { s with heap := s.heap.set h (b, y), ob := ob } (w.setCell a v) := by
  subst hb
  refine ⟨?_, ?_, ?_⟩
  · intro e he
    rcases mem_set_cases he with rfl | ⟨m, hm, hg⟩
    · exact hy
    · have := pairwise_get F.apart (fun h => hm h.symm) hx hg (.inl hox)
      exact (F.holds e (List.mem_of_getElem? hg)).congr (heap_setCell_ne fun h => this h.symm)
  · refine pairwise_of_get fun i j p q hij hp hq => ?_
    have key : ∀ (i : Nat) (p : Nat × HE), (s.heap.set h (a.block, y))[i]? = some p → ∃ p', s.heap[i]? = some p' ∧ p'.1 = p.1 ∧ p'.2.own = p.2.own := by
      intro i p hp
      rw [List.getElem?_set] at hp
      split at hp
      · rename_i e
        split at hp
        · obtain rfl := Option.some.inj hp
          exact ⟨(a.block, x), by rw [← e]; exact hx, rfl, hox.trans hoy.symm⟩
        · simp at hp
      · exact ⟨p, hp, rfl, rfl⟩
    obtain ⟨p', h1, h2, h3⟩ := key i p hp
    obtain ⟨q', k1, k2, k3⟩ := key j q hq
    have := pairwise_get F.apart (by omega) h1 k1
    intro ho
    rw [← h2, ← k2]
    exact this (by rw [h3, k3]; exact ho)
  · intro j
    show ν (s.k + j) = _
    rw [setCell_size]
    exact F.name j

theorem own_store {H : Heap} {w : World} {h b : Nat} {x : HE} {a : Addr} {v : Value} (hx : H[h]? = some (b, x)) (hb : a.block = b) (hox : x.own = true) : Own H w (w.setCell a v) := by
  subst hb
  refine ⟨rfl, rfl, rfl, rfl, by rw [setCell_size]; exact Nat.le_refl _, fun k _ hk => heap_setCell_ne fun e => ?_⟩
  exact hk _ (List.mem_of_getElem? hx) hox e.symm

theorem heap_alloc_lt (w : World) (o : Obj) {k : Nat} (h : k < w.heap.size) : (w.alloc o).heap[k]? = w.heap[k]? := by
  show (w.heap.push o)[k]? = _
  rw [Array.getElem?_push, if_neg (by omega)]

theorem heap_alloc_self (w : World) (o : Obj) : (w.alloc o).heap[w.heap.size]? = some o := by
  show (w.heap.push o)[w.heap.size]? = _
  simp

theorem alloc_size (w : World) (o : Obj) : (w.alloc o).heap.size = w.heap.size + 1 := by
  show (w.heap.push o).size = _
  simp

theorem own_alloc (H : Heap) (w : World) (o : Obj) : Own H w (w.alloc o) :=
  ⟨rfl, rfl, rfl, rfl, by rw [alloc_size]; omega, fun _ hk _ => heap_alloc_lt w o hk⟩

theorem fine_alloc {ν : Nat → Nat} {s : LS} {w : World} {x : HE} {o : Obj} {ob : List Prop} (F : Fine ν s w) (hx : x.holds (w.alloc o) w.heap.size) :
    Fine ν { s with heap := s.heap ++ [(ν s.k, x)], k := s.k + 1, ob := ob } (w.alloc o) := by
  have hk : ν s.k = w.heap.size := F.name 0
  refine ⟨?_, ?_, ?_⟩
  · intro e he
    rcases List.mem_append.1 he with he | he
    · exact (F.holds e he).congr (heap_alloc_lt w o (F.holds e he).lt)
    · obtain rfl := List.mem_singleton.1 he
      show x.holds _ (ν s.k)
      rw [hk]; exact hx
  · rw [List.pairwise_append]
    refine ⟨F.apart, List.pairwise_singleton _ _, fun p hp q hq => ?_⟩
    obtain rfl := List.mem_singleton.1 hq
    intro _ e
    have := (F.holds p hp).lt
    have e : p.1 = ν s.k := e
    omega
  · intro j
    show ν (s.k + 1 + j) = _
    rw [alloc_size, Nat.add_assoc, F.name (1 + j)]
    omega

/-- What may have turned along the list of blocks: a block stays where it stood, own or not; new ones are own, behind all. -/
structure Grew (w : World) (s s' : LS) : Prop where
  old : ∀ (i : Nat) (e : Nat × HE), s.heap[i]? = some e → ∃ e', s'.heap[i]? = some e' ∧ e'.1 = e.1 ∧ e'.2.own = e.2.own
  new : ∀ e ∈ s'.heap, (∃ e' ∈ s.heap, e'.1 = e.1 ∧ e'.2.own = e.2.own) ∨ (w.heap.size ≤ e.1 ∧ e.2.own = true)
  obs : ∃ l, s'.ob = l ++ s.ob

theorem Grew.refl (w : World) (s : LS) : Grew w s s := ⟨fun _ e h => ⟨e, h, rfl, rfl⟩, fun e h => .inl ⟨e, h, rfl, rfl⟩, [], rfl⟩

theorem Grew.trans {w w' : World} {a b c : LS} (h : Grew w a b) (k : Grew w' b c) (hs : w.heap.size ≤ w'.heap.size) : Grew w a c := by
  refine ⟨fun i e he => ?_, fun e he => ?_, ?_⟩
  · obtain ⟨e1, h1, h2, h3⟩ := h.old i e he
    obtain ⟨e2, k1, k2, k3⟩ := k.old i e1 h1
    exact ⟨e2, k1, k2.trans h2, k3.trans h3⟩
  · rcases k.new e he with ⟨e', he', h2, h3⟩ | ⟨h2, h3⟩
    · rcases h.new e' he' with ⟨e'', he'', g2, g3⟩ | ⟨g2, g3⟩
      · exact .inl ⟨e'', he'', g2.trans h2, g3.trans h3⟩
      · exact .inr ⟨by omega, h3 ▸ g3⟩
    · exact .inr ⟨by omega, h3⟩
  · obtain ⟨l1, e1⟩ := h.obs
    obtain ⟨l2, e2⟩ := k.obs
    exact ⟨l2 ++ l1, by rw [e2, e1, List.append_assoc]⟩

theorem Grew.own {w : World} {a b : LS} (h : Grew w a b) : ∀ e ∈ b.heap, e.2.own = true → (∃ e' ∈ a.heap, e'.2.own = true ∧ e'.1 = e.1) ∨ w.heap.size ≤ e.1 := by
  intro e he ho
  rcases h.new e he with ⟨e', he', h2, h3⟩ | ⟨h2, _⟩
  · exact .inl ⟨e', he', h3.trans ho, h2⟩
  · exact .inr h2

theorem grew_store {w : World} {s : LS} {h b : Nat} {x y : HE} {ob : List Prop} (hx : s.heap[h]? = some (b, x)) (ho : x.own = y.own) : Grew w s { s with heap := s.heap.set h (b, y), ob := ob ++ s.ob } := by
  refine ⟨fun i e he => ?_, fun e he => ?_, ⟨ob, rfl⟩⟩
  · by_cases hi : h = i
    · subst hi
      rw [hx] at he
      obtain rfl := Option.some.inj he
      refine ⟨(b, y), ?_, rfl, ho.symm⟩
      show (s.heap.set h (b, y))[h]? = _
      rw [List.getElem?_set]
      simp [(List.getElem?_eq_some_iff.1 hx).1]
    · exact ⟨e, by show (s.heap.set h (b, y))[i]? = _; rw [List.getElem?_set_ne hi]; exact he, rfl, rfl⟩
  · rcases mem_set_cases he with rfl | ⟨m, _, hg⟩
    · exact .inl ⟨_, List.mem_of_getElem? hx, rfl, ho⟩
    · exact .inl ⟨e, List.mem_of_getElem? hg, rfl, rfl⟩

theorem grew_alloc {ν : Nat → Nat} {w : World} {s : LS} {x : HE} (hk : ν s.k = w.heap.size) (ho : x.own = true) : Grew w s { s with heap := s.heap ++ [(ν s.k, x)], k := s.k + 1 } := by
  refine ⟨fun i e he => ⟨e, ?_, rfl, rfl⟩, fun e he => ?_, ⟨[], rfl⟩⟩
  · show (s.heap ++ [_])[i]? = _
    rw [List.getElem?_append_left (List.getElem?_eq_some_iff.1 he).1]
    exact he
  · rcases List.mem_append.1 he with he | he
    · exact .inl ⟨e, he, rfl, rfl⟩
    · obtain rfl := List.mem_singleton.1 he
      exact .inr ⟨Nat.le_of_eq hk.symm, ho⟩

theorem grew_ob {w : World} {s : LS} (l : List Prop) : Grew w s { s with ob := l ++ s.ob } := ⟨fun _ e h => ⟨e, h, rfl, rfl⟩, fun e h => .inl ⟨e, h, rfl, rfl⟩, l, rfl⟩

theorem allP_append {l m : List Prop} (h : AllP (l ++ m)) : AllP l ∧ AllP m := by
  induction l with
  | nil => exact ⟨trivial, h⟩
  | cons p l ih => obtain ⟨h1, h2⟩ := h; exact ⟨⟨h1, (ih h2).1⟩, (ih h2).2⟩

theorem allP_append_mk {l m : List Prop} (h : AllP l) (k : AllP m) : AllP (l ++ m) := by
  induction l with
  | nil => exact k
  | cons p l ih => exact ⟨h.1, ih h.2⟩

theorem Fine.ob {ν : Nat → Nat} {s : LS} {w : World} (F : Fine ν s w) (l : List Prop) : Fine ν { s with ob := l } w := ⟨F.holds, F.apart, F.name⟩

theorem ob1 {a l s : List Prop} {p : Prop} (h : a = l ++ p :: s) : ∃ l', a = l' ++ s := ⟨l ++ [p], by rw [h, List.append_assoc]; rfl⟩
theorem ob2 {a l s : List Prop} {p q : Prop} (h : a = l ++ p :: q :: s) : ∃ l', a = l' ++ s := ⟨l ++ [p, q], by rw [h, List.append_assoc]; rfl⟩

theorem absRun_obs {α : Type} (P : Program) (h : Nat) (ν : Nat → Nat) (ro : Bool) (m : Sem α) : ∀ (s : LS) (x : α) (s' : LS), absRun P h ν ro m s = some (x, s') → ∃ l, s'.ob = l ++ s.ob := by
  induction m with
  | pure a => intro s x s' he; simp only [absRun, Option.some.injEq, Prod.mk.injEq] at he; exact ⟨[], by rw [← he.2]; rfl⟩
  | load md a k ih =>
    intro s x s' he
    simp only [absRun] at he
    split at he
    · split at he
      · obtain ⟨l, hl⟩ := ih _ _ x s' he; exact ob1 hl
      · simp at he
    · split at he
      · obtain ⟨l, hl⟩ := ih _ _ x s' he; exact ob2 hl
      · simp at he
    · split at he
      · obtain ⟨l, hl⟩ := ih _ _ x s' he; exact ob2 hl
      · simp at he
    · simp at he
  | store md a v k ih =>
    intro s x s' he
    simp only [absRun] at he
    split at he
    · split at he
      · split at he
        · obtain ⟨l, hl⟩ := ih _ x s' he; exact ob1 hl
        · simp at he
      · split at he
        · obtain ⟨l, hl⟩ := ih _ x s' he; exact ob2 hl
        · simp at he
      · simp at he
    · simp at he
  | new o k ih =>
    intro s x s' he
    simp only [absRun] at he
    split at he
    · obtain ⟨l, hl⟩ := ih _ { heap := s.heap ++ [(ν s.k, _)], k := s.k + 1, ob := s.ob } x s' he; exact ⟨l, hl⟩
    · simp at he
  | shape r k ih =>
    intro s x s' he
    simp only [absRun] at he
    split at he
    · obtain ⟨l, hl⟩ := ih _ _ x s' he; exact ob1 hl
    · simp at he
  | freeze a n k ih => intro s x s' he; simp [absRun] at he
  | frozen a k ih =>
    intro s x s' he
    simp only [absRun] at he
    split at he
    · obtain ⟨l, hl⟩ := ih _ _ x s' he; exact ob1 hl
    · simp at he
  | getObj r k ih => intro s x s' he; simp [absRun] at he
  | setObj r o k ih => intro s x s' he; simp [absRun] at he
  | choose q k ih => intro s x s' he; simp [absRun] at he
  | sys c k ih => intro s x s' he; simp [absRun] at he
  | program k ih => intro s x s' he; exact ih P s x s' he
  | mark mm k ih => intro s x s' he; exact ih s x s' he
  | halt hh => intro s x s' he; simp [absRun] at he

theorem absRun_sound {α : Type} (P : Program) (h : Nat) (ν : Nat → Nat) (ro : Bool) (m : Sem α) : ∀ (s : LS) (w : World) (x : α) (s' : LS), absRun P h ν ro m s = some (x, s') → Fine ν s w → AllP s'.ob →
    ∃ w', m.run P w = .ok x w' ∧ Fine ν s' w' ∧ Own s.heap w w' ∧ Grew w s s' ∧ (ro = true → w' = w ∧ s'.heap = s.heap ∧ s'.k = s.k) := by
  induction m with
  | pure a =>
    intro s w x s' he F _
    simp only [absRun, Option.some.injEq, Prod.mk.injEq] at he
    obtain ⟨rfl, rfl⟩ := he
    exact ⟨w, rfl, F, .refl _ _, .refl _ _, fun _ => ⟨rfl, rfl, rfl⟩⟩
  | load md a k ih =>
    intro s w x s' he F hob
    simp only [absRun] at he
    split at he
    · rename_i b cs T hx
      split at he
      · rename_i v hsp hv
        obtain ⟨w', hr, F', hO, hG, hR⟩ := ih v _ w x s' he (F.ob _) hob
        obtain ⟨l, hl⟩ := hG.obs
        have hb : a.block = b := by rw [hl] at hob; exact (allP_append hob).2.1
        have hh := F.holds _ (List.mem_of_getElem? hx)
        have hc : w.cell? a = some v := by
          rw [cell_of_block (hb ▸ hh) hsp]; simpa using hv
        refine ⟨w', ?_, F', hO, (grew_ob (w := w) [_]).trans hG (Nat.le_refl _), fun h => ?_⟩
        · simp only [Sem.run, hc]; exact hr
        · obtain ⟨h1, h2, h3⟩ := hR h; exact ⟨h1, h2, h3⟩
      · simp at he
    · rename_i b lo hi f hx
      split at he
      · rename_i hsp
        obtain ⟨w', hr, F', hO, hG, hR⟩ := ih (f a.off) _ w x s' he (F.ob _) hob
        obtain ⟨l, hl⟩ := hG.obs
        rw [hl] at hob
        obtain ⟨hb, hin, _⟩ := (allP_append hob).2
        obtain ⟨c, T, fz, hh, hf⟩ := F.holds _ (List.mem_of_getElem? hx)
        have hc : w.cell? a = some (f a.off) := by
          rw [cell_of_block (hb ▸ hh) hsp]; exact hf _ hin.1 hin.2
        refine ⟨w', ?_, F', hO, (grew_ob (w := w) [_, _]).trans hG (Nat.le_refl _), fun h => ?_⟩
        · simp only [Sem.run, hc]; exact hr
        · obtain ⟨h1, h2, h3⟩ := hR h; exact ⟨h1, h2, h3⟩
      · simp at he
    · rename_i b e n tot f hx
      split at he
      · rename_i hsp
        obtain ⟨w', hr, F', hO, hG, hR⟩ := ih (f a.off) _ w x s' he (F.ob _) hob
        obtain ⟨l, hl⟩ := hG.obs
        rw [hl] at hob
        obtain ⟨hb, hin, _⟩ := (allP_append hob).2
        obtain ⟨c, hh, _, _, hf⟩ := F.holds _ (List.mem_of_getElem? hx)
        have hc : w.cell? a = some (f a.off) := by
          rw [cell_of_block (hb ▸ hh) hsp]; exact hf _ hin
        refine ⟨w', ?_, F', hO, (grew_ob (w := w) [_, _]).trans hG (Nat.le_refl _), fun h => ?_⟩
        · simp only [Sem.run, hc]; exact hr
        · obtain ⟨h1, h2, h3⟩ := hR h; exact ⟨h1, h2, h3⟩
      · simp at he
    · simp at he
  | store md a v k ih =>
    intro s w x s' he F hob
    simp only [absRun] at he
    split at he
    · rename_i hone
      have hrun : ∀ u, w.cell? a = some u → w.frozen? a = false → (Sem.store md a v k).run P w = k.run P (w.setCell a v) := by
        intro u hc hf
        cases v <;> simp_all [Sem.run, oneCell]
      split at he
      · rename_i b cs T hx
        split at he
        · rename_i hsp hlt
          have hlt : a.off < cs.length := by simpa using hlt
          have hh := F.holds _ (List.mem_of_getElem? hx)
          have goal : ∀ hb : a.block = b, ∃ w', (Sem.store md a v k).run P w = .ok x w' ∧ Fine ν s' w' ∧ Own s.heap w w' ∧ Grew w s s' ∧ (false = true → w' = w ∧ s'.heap = s.heap ∧ s'.k = s.k) := by
            intro hb
            have hh' : w.heap[a.block]? = some (.cells cs.toArray T (0, 0)) := hb ▸ hh
            have F1 : Fine ν { s with heap := s.heap.set h (b, .cells (cs.set a.off v) T), ob := (a.block = b) :: s.ob } (w.setCell a v) :=
              fine_store F hx hb rfl rfl (by
                subst hb
                show (w.setCell a v).heap[a.block]? = _
                rw [heap_setCell_eq hh' hsp]; simp)
            obtain ⟨w', hr, F', hO, hG, _⟩ := ih _ _ x s' he F1 hob
            refine ⟨w', ?_, F', ?_, ?_, fun h => by cases h⟩
            · rw [hrun (cs[a.off]) (by rw [cell_of_block hh' hsp]; simp [hlt]) (by simp [World.frozen?, hh'])]
              exact hr
            · refine (own_store hx hb rfl).trans hO fun e he ho => ?_
              rcases mem_set_cases he with rfl | ⟨m, _, hg⟩
              · exact .inl ⟨_, List.mem_of_getElem? hx, rfl, rfl⟩
              · exact .inl ⟨e, List.mem_of_getElem? hg, ho, rfl⟩
            · exact (grew_store (w := w) (y := .cells (cs.set a.off v) T) (ob := [_]) hx rfl).trans hG (Nat.le_of_eq (setCell_size w a v).symm)
          have hb : a.block = b := by
            by_cases hb : a.block = b
            · exact hb
            · exfalso
              -- the obligation stands in what is left behind
              have : ∃ l, s'.ob = l ++ ((a.block = b) :: s.ob) := by
                exact absRun_obs P h ν false k _ x s' he
              obtain ⟨l, hl⟩ := this
              rw [hl] at hob
              exact hb (allP_append hob).2.1
          exact goal hb
        · simp at he
      · rename_i b e n tot f hx
        split at he
        · rename_i hsp
          obtain ⟨l, hl⟩ := absRun_obs P h ν false k _ x s' he
          have hob' := hob
          rw [hl] at hob'
          obtain ⟨hb, hin, _⟩ := (allP_append hob').2
          obtain ⟨c, hh, ht, hnt, hf⟩ := F.holds _ (List.mem_of_getElem? hx)
          have hh' : w.heap[a.block]? = some (.cells c e (0, 0)) := hb ▸ hh
          have F1 : Fine ν { s with heap := s.heap.set h (b, .row e n tot (fun x => if x = a.off then v else f x)), ob := (a.block = b) :: (a.off < n) :: s.ob } (w.setCell a v) :=
            fine_store F hx hb rfl rfl (by
              subst hb
              refine ⟨_, heap_setCell_eq hh' hsp, by simpa using ht, hnt, fun o h2 => ?_⟩
              rw [Array.getElem?_setIfInBounds]
              by_cases e : a.off = o
              · subst e; simp; omega
              · have e' : ¬ o = a.off := fun h => e h.symm
                rw [if_neg e]; simp only [if_neg e']; exact hf o h2)
          obtain ⟨w', hr, F', hO, hG, _⟩ := ih _ _ x s' he F1 hob
          refine ⟨w', ?_, F', ?_, ?_, fun h => by cases h⟩
          · rw [hrun (f a.off) (by rw [cell_of_block hh' hsp]; exact hf _ hin) (by simp [World.frozen?, hh'])]
            exact hr
          · refine (own_store hx hb rfl).trans hO fun e he ho => ?_
            rcases mem_set_cases he with rfl | ⟨m, _, hg⟩
            · exact .inl ⟨_, List.mem_of_getElem? hx, rfl, rfl⟩
            · exact .inl ⟨e, List.mem_of_getElem? hg, ho, rfl⟩
          · exact (grew_store (w := w) (y := .row e n tot (fun x => if x = a.off then v else f x)) (ob := [_, _]) hx rfl).trans hG (Nat.le_of_eq (setCell_size w a v).symm)
        · simp at he
      · simp at he
    · simp at he
  | new o k ih =>
    intro s w x s' he F hob
    simp only [absRun] at he
    split at he
    · rename_i c T
      have hk : ν s.k = w.heap.size := F.name 0
      have F1 : Fine ν { s with heap := s.heap ++ [(ν s.k, .cells c.toList T)], k := s.k + 1, ob := s.ob } (w.alloc (.cells c T (0, 0))) :=
        fine_alloc F (by show (w.alloc _).heap[w.heap.size]? = _; rw [heap_alloc_self])
      rw [hk] at he
      obtain ⟨w', hr, F', hO, hG, _⟩ := ih w.heap.size _ _ x s' he (by rw [hk] at F1; exact F1) hob
      refine ⟨w', hr, F', ?_, ?_, fun h => by cases h⟩
      · refine (own_alloc _ w _).trans hO fun e he ho => ?_
        rcases List.mem_append.1 he with he | he
        · exact .inl ⟨e, he, ho, rfl⟩
        · obtain rfl := List.mem_singleton.1 he
          exact .inr (Nat.le_refl _)
      · have := grew_alloc (ν := ν) (w := w) (s := s) (x := .cells c.toList T) hk rfl
        rw [hk] at this
        exact this.trans hG (Nat.le_of_lt (by rw [alloc_size]; exact Nat.lt_succ_self _))
    · simp at he
  | shape r k ih =>
    intro s w x s' he F hob
    simp only [absRun] at he
    split at he
    · rename_i b cs T hx
      obtain ⟨w', hr, F', hO, hG, hR⟩ := ih _ _ w x s' he (F.ob _) hob
      obtain ⟨l, hl⟩ := hG.obs
      have hb : r = b := by rw [hl] at hob; exact (allP_append hob).2.1
      have hh : w.heap[b]? = some (.cells cs.toArray T (0, 0)) := F.holds _ (List.mem_of_getElem? hx)
      refine ⟨w', ?_, F', hO, (grew_ob (w := w) [_]).trans hG (Nat.le_refl _), hR⟩
      have : w.shape? r = some (T, cs.length) := by subst hb; simp [World.shape?, hh]
      simp only [Sem.run, this]; exact hr
    · simp at he
  | freeze a n k ih => intro s w x s' he; simp [absRun] at he
  | frozen a k ih =>
    intro s w x s' he F hob
    simp only [absRun] at he
    split at he
    · rename_i b cs T hx
      obtain ⟨w', hr, F', hO, hG, hR⟩ := ih _ _ w x s' he (F.ob _) hob
      obtain ⟨l, hl⟩ := hG.obs
      have hb : a.block = b := by rw [hl] at hob; exact (allP_append hob).2.1
      have hh : w.heap[b]? = some (.cells cs.toArray T (0, 0)) := F.holds _ (List.mem_of_getElem? hx)
      refine ⟨w', ?_, F', hO, (grew_ob (w := w) [_]).trans hG (Nat.le_refl _), hR⟩
      have : w.frozen? a = false := by subst hb; simp [World.frozen?, hh]
      simp only [Sem.run, this]; exact hr
    · simp at he
  | getObj r k ih => intro s w x s' he; simp [absRun] at he
  | setObj r o k ih => intro s w x s' he; simp [absRun] at he
  | choose q k ih => intro s w x s' he; simp [absRun] at he
  | sys c k ih => intro s w x s' he; simp [absRun] at he
  | program k ih =>
    intro s w x s' he F hob
    exact ih P s w x s' he F hob
  | mark mm k ih =>
    intro s w x s' he F hob
    exact ih s w x s' he F hob
  | halt hh => intro s w x s' he; simp [absRun] at he
end Go.Proofs.YtlnecfdbmoilbaaDoor.K
