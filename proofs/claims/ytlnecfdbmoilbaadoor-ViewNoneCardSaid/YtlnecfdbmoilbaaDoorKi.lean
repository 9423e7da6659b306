/-
  A walk by computing, ninth part: the same in short.
-/
import Derived.Test.YtlnecfdbmoilbaaDoorKh
namespace Go.Proofs.YtlnecfdbmoilbaaDoor.K
set_option linter.unusedSimpArgs false
set_option linter.unusedVariables false

/-- What is to be shown: e, t, u: of itself; p: a statement. -/
inductive Ob where
  | e (b : Nat)
  | t (x : Bool)
  | u
  | p (P : Prop)

def Ob.sem : Ob → Prop
  | .e b => b = b
  | .t x => (Value.bool x) = .bool x
  | .u => undef = undef
  | .p P => P

def obP : List Ob → List Prop
  | [] => []
  | o :: l => o.sem :: obP l

def obQ : List Ob → Prop
  | [] => True
  | .p P :: l => P ∧ obQ l
  | .e _ :: l => obQ l
  | .t _ :: l => obQ l
  | .u :: l => obQ l

theorem obQ.all : ∀ {l : List Ob}, obQ l → AllP (obP l)
  | [], _ => trivial
  | .p P :: l, h => ⟨h.1, obQ.all h.2⟩
  | .e _ :: l, h => ⟨rfl, obQ.all (l := l) h⟩
  | .t _ :: l, h => ⟨rfl, obQ.all (l := l) h⟩
  | .u :: l, h => ⟨rfl, obQ.all (l := l) h⟩

def sk : List (Nat × Value) → List Nat → List Nat
  | [], k => k
  | (t, _) :: l, k => t :: sk l k

def keepE (E : Env) : List Nat → Env
  | [] => []
  | t :: k => match look E t with
    | some (_, v) => (t, [], v) :: keepE E k
    | none => keepE E k

/-- New slots, and some of the old ones. -/
def selE : List (Nat × Value) → Env → List Nat → Env
  | [], E, k => keepE E k
  | (t, v) :: l, E, k => (t, [], v) :: selE l E k

abbrev PH := List (Nat × Option (Nat × HE))
def selH (H : Heap) : PH → Heap
  | [] => []
  | (_, some e) :: l => e :: selH H l
  | (i, none) :: l => match H[i]? with
    | some e => e :: selH H l
    | none => selH H l

def hk : PH → List Nat
  | [] => []
  | (i, _) :: l => i :: hk l

section
variable {P : Program} {c : Cx} {n : Nat} {E : Env} {H : Heap} {A : List Res} {a : Act} {w : World} {Q : Exit → Act → World → Prop}

/-- What a row of operations does, in short. -/
def Seg (P : Program) (n : Nat) (q : Bool) (ops : Array Oper) (ν : Nat → Nat) (hs : List Hint) (l : List Oper) (E : Env) (H : Heap) (kE : List Nat) (K : Env → Heap → Prop) : Prop :=
  ∃ (pE : List (Nat × Value)) (pH : PH) (ob : List Ob), evSeg P n q ops ν hs l E H (sk pE kE) (hk pH) = some (selE pE E kE, selH H pH, obP ob) ∧ obQ ob ∧ K (selE pE E kE) (selH H pH)

theorem seg {q : Bool} {ops : Array Oper} {ν : Nat → Nat} {hs : List Hint} {l : List Oper} {kE : List Nat} {K : Env → Heap → Prop} (pE : List (Nat × Value)) (pH : PH) (ob : List Ob) (hq : obQ ob) (h : K (selE pE E kE) (selH H pH))
    (he : evSeg P n q ops ν hs l E H (sk pE kE) (hk pH) = some (selE pE E kE, selH H pH, obP ob) := by as_aux_lemma => kernel_rfl) : Seg P n q ops ν hs l E H kE K := ⟨pE, pH, ob, he, hq, h⟩

theorem St.seg1 {ops : Array Oper} {l rest : List Oper} {hs : List Hint} {kE : List Nat} {K : Env → Heap → Prop} (hS : St c n E H A a w) (h : Seg P n false ops (fun j => w.heap.size + j) hs l E H kE K)
    (hK : ∀ E' H', K E' H' → ∀ a' w', St c n E' H' A a' w' → wpList P ops Q rest a' w') : wpList P ops Q (l ++ rest) a w := by
  obtain ⟨pE, pH, ob, he, hq, hk⟩ := h
  have hob := hq.all
  unfold evSeg at he
  split at he
  · rename_i hg
    simp only [Bool.and_eq_true] at hg
    split at he
    · rename_i E1 s1 h1
      split at he
      · rename_i E2 H2 h2 h3
        simp only [Option.some.injEq, Prod.mk.injEq] at he
        obtain ⟨rfl, rfl, e3⟩ := he
        rw [← e3] at hob
        refine wpList_evOps rest hs l _ _ _ _ _ _ h1 hg.1 hS.env hS.size hS.mem.fine hob fun a' w' g1 g2 g3 g4 g5 g6 => ?_
        exact hK _ _ hk a' w' ⟨g3.trans hS.defers, by rw [g2]; exact hS.size, pickE_agree g1 h2, (g5.ws hS.mem g4.holds g4.apart g6.new).pick h3 hg.2⟩
      · simp at he
    · simp at he
  · simp at he

/-- The next k operations of a row. -/
theorem St.opsC {ops : Array Oper} {l : List Oper} (k : Nat) (hs : List Hint) (kE : List Nat) (hS : St c n E H A a w)
    (h : ∀ ν : Nat → Nat, Seg P n false ops ν hs (l.take k) E H kE fun E' H' => ∀ a' w', St c n E' H' A a' w' → wpList P ops Q (l.drop k) a' w') : wpList P ops Q l a w := by
  have := hS.seg1 (rest := l.drop k) (h _) (fun E' H' h => h)
  rwa [List.take_append_drop] at this

theorem St.regC {id : Nat} {l : List Oper} (hs : List Hint) (kE : List Nat) (hS : St c n E H A a w)
    (h : ∀ ν : Nat → Nat, Seg P n false l.toArray ν hs l E H kE fun E' H' => ∀ a' w', St c n E' H' A a' w' → Q .normal a' w') : (Code.region id l.toArray false).wp P Q a w := by
  refine wp_region_lit ?_
  have := hS.seg1 (Q := Q) (rest := []) (h _) (fun E' H' h => h)
  rwa [List.append_nil] at this

theorem St.regS {id : Nat} {l : List Oper} {y : Code} (hs : List Hint) (kE : List Nat) (hS : St c n E H A a w)
    (h : ∀ ν : Nat → Nat, Seg P n false l.toArray ν hs l E H kE fun E' H' => ∀ a' w', St c n E' H' A a' w' → y.wp P Q a' w') : ((Code.region id l.toArray false).seq y).wp P Q a w :=
  wp_seq (hS.regC hs kE h)

/-- A region that draws its order, whose operations only read. -/
theorem St.drawC {id : Nat} {l : List Oper} (hs : List Hint) (kE : List Nat) (hS : St c n E H A a w) (h : Seg P n true l.toArray (fun _ => 0) hs l E H kE fun E' H' => ∀ a' w', St c n E' H' A a' w' → Q .normal a' w')
    (hm : P.follows .mixedOrders = true := by as_aux_lemma => kernel_rfl) (hB : Region.lexB .any l.toArray = true := by as_aux_lemma => kernel_rfl) : (Code.region id l.toArray true).wp P Q a w := by
  obtain ⟨pE, pH, ob, he, hq, hk⟩ := h
  exact hS.quiet hs _ _ hm hB he hq.all hk

theorem St.drawS {id : Nat} {l : List Oper} {y : Code} (hs : List Hint) (kE : List Nat) (hS : St c n E H A a w) (h : Seg P n true l.toArray (fun _ => 0) hs l E H kE fun E' H' => ∀ a' w', St c n E' H' A a' w' → y.wp P Q a' w')
    (hm : P.follows .mixedOrders = true := by as_aux_lemma => kernel_rfl) (hB : Region.lexB .any l.toArray = true := by as_aux_lemma => kernel_rfl) : ((Code.region id l.toArray true).seq y).wp P Q a w :=
  wp_seq (hS.drawC hs kE h hm hB)

/-- A region that leaves the world as it is. -/
theorem St.stillC {id : Nat} {l : List Oper} (hs : List Hint) (kE : List Nat) (hS : St c n E H A a w) (h : Seg P n true l.toArray (fun _ => 0) hs l E H kE fun E' H' => ∀ a', St c n E' H' A a' w → Q .normal a' w) : (Code.region id l.toArray false).wp P Q a w := by
  obtain ⟨pE, pH, ob, he, hq, hk⟩ := h
  exact hS.still hs _ _ he hq.all hk

theorem St.stillS {id : Nat} {l : List Oper} {y : Code} (hs : List Hint) (kE : List Nat) (hS : St c n E H A a w) (h : Seg P n true l.toArray (fun _ => 0) hs l E H kE fun E' H' => ∀ a', St c n E' H' A a' w → y.wp P Q a' w) : ((Code.region id l.toArray false).seq y).wp P Q a w :=
  wp_seq (hS.stillC hs kE h)

/-- A part of a region that draws. -/
theorem quietC {ops : Array Oper} {C : World → Prop} {K : Act → Prop} {l : List Oper} (k : Nat) (hs : List Hint) (kE : List Nat) (hE : Agree E a) (hsz : n ≤ a.tmps.size) (hd : a.defers = []) (hC : ∀ w, C w → WS c H A w)
    (h : Seg P n true ops (fun _ => 0) hs (l.take k) E H kE fun E' _ => ∀ a', Agree E' a' → n ≤ a'.tmps.size → a'.defers = [] → wpQuiet P ops C K (l.drop k) a') : wpQuiet P ops C K l a := by
  obtain ⟨pE, pH, ob, he, hq, hk⟩ := h
  exact quiet_ops k hs _ _ he hq.all hE hsz hd hC hk

/-- What a test says, plainly. -/
class Nrm (b v : Bool) (p : outParam Prop) : Prop where
  go : b = v → p

instance (priority := low) nrmVar (b v : Bool) : Nrm b v (b = v) := ⟨id⟩
instance (priority := mid) nrmDecT (p : Prop) [Decidable p] : Nrm (decide p) true p := ⟨of_decide_eq_true⟩
instance (priority := mid) nrmDecF (p : Prop) [Decidable p] : Nrm (decide p) false (¬ p) := ⟨of_decide_eq_false⟩
instance nrmLt (x y : Int) : Nrm (decide (x < y)) false (y ≤ x) := ⟨fun h => Int.not_lt.1 (of_decide_eq_false h)⟩
instance nrmLe (x y : Int) : Nrm (decide (x ≤ y)) false (y < x) := ⟨fun h => Int.not_le.1 (of_decide_eq_false h)⟩
instance nrmEqT {α : Type} [BEq α] [LawfulBEq α] (x y : α) : Nrm (x == y) true (x = y) := ⟨fun h => eq_of_beq h⟩
instance nrmEqF {α : Type} [BEq α] [LawfulBEq α] (x y : α) : Nrm (x == y) false (x ≠ y) := ⟨fun h e => by subst e; simp at h⟩
instance nrmNeT {α : Type} [BEq α] [LawfulBEq α] (x y : α) : Nrm (x != y) true (x ≠ y) := ⟨fun h e => by subst e; simp at h⟩
instance nrmNeF {α : Type} [BEq α] [LawfulBEq α] (x y : α) : Nrm (x != y) false (x = y) := ⟨fun h => by simpa using h⟩
instance nrmNotT (b : Bool) (p : Prop) [h : Nrm b false p] : Nrm (!b) true p := ⟨fun e => h.go (by simpa using e)⟩
instance nrmNotF (b : Bool) (p : Prop) [h : Nrm b true p] : Nrm (!b) false p := ⟨fun e => h.go (by simpa using e)⟩
instance nrmAndT (a b : Bool) (p q : Prop) [h : Nrm a true p] [k : Nrm b true q] : Nrm (a && b) true (p ∧ q) := ⟨fun e => by rw [Bool.and_eq_true] at e; exact ⟨h.go e.1, k.go e.2⟩⟩
instance nrmAndF (a b : Bool) (p q : Prop) [h : Nrm a false p] [k : Nrm b false q] : Nrm (a && b) false (p ∨ q) := ⟨fun e => by rw [Bool.and_eq_false_iff] at e; exact e.imp h.go k.go⟩
instance nrmOrT (a b : Bool) (p q : Prop) [h : Nrm a true p] [k : Nrm b true q] : Nrm (a || b) true (p ∨ q) := ⟨fun e => by rw [Bool.or_eq_true] at e; exact e.imp h.go k.go⟩
instance nrmOrF (a b : Bool) (p q : Prop) [h : Nrm a false p] [k : Nrm b false q] : Nrm (a || b) false (p ∧ q) := ⟨fun e => by rw [Bool.or_eq_false_iff] at e; exact ⟨h.go e.1, k.go e.2⟩⟩

theorem nrm {b v : Bool} {p : Prop} [h : Nrm b v p] (e : b = v) : p := h.go e

/-- A test. -/
theorem St.condC {t : Nat} {x y : Code} {p q : Prop} (hS : St c n E H A a w) (b : Bool) [hp : Nrm b true p] [hq : Nrm b false q] (h1 : b = true → p → x.wp P Q a w) (h2 : b = false → q → y.wp P Q a w) (hl : look E t = some ([], .bool b) := by as_aux_lemma => kernel_rfl) : (Code.cond (.tmp t) x y).wp P Q a w :=
  hS.cond hl (fun h => h1 h (hp.go h)) (fun h => h2 h (hq.go h))
theorem St.condT {t : Nat} {x y : Code} (hS : St c n E H A a w) (h1 : x.wp P Q a w) (hl : look E t = some ([], .bool true) := by as_aux_lemma => kernel_rfl) : (Code.cond (.tmp t) x y).wp P Q a w := hS.cond hl (fun _ => h1) (fun h => nomatch h)
theorem St.condF {t : Nat} {x y : Code} (hS : St c n E H A a w) (h1 : y.wp P Q a w) (hl : look E t = some ([], .bool false) := by as_aux_lemma => kernel_rfl) : (Code.cond (.tmp t) x y).wp P Q a w := hS.cond hl (fun h => nomatch h) (fun _ => h1)
/-- A test whose answer is known. -/
theorem St.condK {t : Nat} {x y : Code} (hS : St c n E H A a w) (b v : Bool) (hb : b = v) (h1 : (if v then x else y).wp P Q a w) (hl : look E t = some ([], .bool b) := by as_aux_lemma => kernel_rfl) : (Code.cond (.tmp t) x y).wp P Q a w := by
  subst hb
  cases b with
  | true => exact hS.condT h1 hl
  | false => exact hS.condF h1 hl

/-- A slot's value, told otherwise. -/
theorem St.fix (hS : St c n E H A a w) (t : Nat) {v : Value} (v' : Value) (hv : v = v') (hl : look E t = some ([], v) := by as_aux_lemma => kernel_rfl) : St c n ((t, [], v') :: E) H A a w := by
  subst hv
  refine ⟨hS.defers, hS.size, fun e he => ?_, hS.mem⟩
  rcases List.mem_cons.1 he with rfl | he
  · exact hS.env _ (look_mem hl)
  · exact hS.env e he

/-- What is known, written out. -/
theorem St.show (hS : St c n E H A a w) (E' : Env) (H' : Heap) (he : E = E' := by as_aux_lemma => kernel_rfl) (hh : H = H' := by as_aux_lemma => kernel_rfl) : St c n E' H' A a w := hS.conv he hh

/-- A call that leaves the world as it is, or turns nothing that is known. -/
theorem St.call0 {ops : Array Oper} {o : Oper} {rest : List Oper} (hS : St c n E H A a w) (f : FuncId) (args : Array Value) {v : Value} (d : Nat) (hC : Calls P f args w fun e w' => e = .returned v ∧ Fr w w' no no)
    (h : ∀ a' w', St c n (putE E d [] v) H A a' w' → wpList P ops Q rest a' w')
    (he : evCall P ops 0 0 E H o = some (f, args, []) := by as_aux_lemma => kernel_rfl) (hg : guardsOk n ops [o] = true := by as_aux_lemma => kernel_rfl) (hd : o.dst = some d := by rfl) (hdn : d < n := by decide) : wpList P ops Q (o :: rest) a w := by
  refine hS.call 0 0 he trivial hg hC ?_
  rintro _ w' ⟨rfl, hF⟩
  refine ⟨v, rfl, ?_⟩
  rw [hd]
  exact h _ _ ((hS.to (hS.mem.keep0 hF)).put hdn)

/-- A call. -/
theorem St.callC {ops : Array Oper} {o : Oper} {rest : List Oper} (hS : St c n E H A a w) (f : FuncId) (args : Array Value) {R : Ending → World → Prop} (hC : Calls P f args w R)
    (hk : ∀ e w', R e w' → ∃ v, e = .returned v ∧ wpList P ops Q rest (a.put o.dst v) w')
    (he : evCall P ops 0 0 E H o = some (f, args, []) := by as_aux_lemma => kernel_rfl) (hg : guardsOk n ops [o] = true := by as_aux_lemma => kernel_rfl) : wpList P ops Q (o :: rest) a w :=
  hS.call 0 0 he trivial hg hC hk

/-- A call under a guard that says yes. -/
theorem St.callG {ops : Array Oper} {o : Oper} {rest : List Oper} (hS : St c n E H A a w) (x : Bool) (f : FuncId) (args : Array Value) {R : Ending → World → Prop} (hC : Calls P f args w R)
    (hk : ∀ e w', R e w' → ∃ v, e = .returned v ∧ wpList P ops Q rest (a.put o.dst v) w')
    (he : evCall P ops 1 0 E H o = some (f, args, [Ob.sem (.t x)]) := by as_aux_lemma => kernel_rfl) (hg : guardsOk n ops [o] = true := by as_aux_lemma => kernel_rfl) : wpList P ops Q (o :: rest) a w :=
  hS.call 1 0 he ⟨rfl, trivial⟩ hg hC hk

theorem St.retC {fn : Func} {R : Ending → World → Prop} (h : Nat) (hS : St c n E H A a w) (v : Value) (ob : List Ob) (hq : obQ ob) (hR : WS c H A w → R (.returned v) w) (he : evRes P fn h E H = some (v, obP ob) := by as_aux_lemma => kernel_rfl) : bodyPost P fn R .ret a w := hS.ret h he hq.all hR
theorem St.fallC {fn : Func} {R : Ending → World → Prop} (h : Nat) (hS : St c n E H A a w) (v : Value) (ob : List Ob) (hq : obQ ob) (hR : WS c H A w → R (.returned v) w) (he : evRes P fn h E H = some (v, obP ob) := by as_aux_lemma => kernel_rfl) : bodyPost P fn R .normal a w := hS.fall h he hq.all hR

/-- A block that is known. -/
theorem WS.get (h : WS c H A w) (i : Nat) (b : Nat) (x : HE) (hi : H[i]? = some (b, x) := by as_aux_lemma => kernel_rfl) : x.holds w b := h.heap _ (List.mem_of_getElem? hi)
theorem WS.getm (h : WS c H A w) (i : Nat) (b : Nat) (x : HE) (hi : H[i]? = some (b, x) := by as_aux_lemma => kernel_rfl) (hx : x.own = true := by rfl) : c.w0.heap.size ≤ b ∨ c.D b := h.mine _ (List.mem_of_getElem? hi) hx

/-- Of memory: an entry told otherwise. -/
theorem WS.tell (h : WS c H A w) (i : Nat) {b : Nat} {x : HE} (y : HE) (hi : H[i]? = some (b, x) := by as_aux_lemma => kernel_rfl) (ho : x.own = y.own := by rfl) (hh : x.holds w b → y.holds w b) : WS c (H.set i (b, y)) A w := by
  refine h.stepX (D := no) (D' := no) (Fr.refl w no) (fun k hk => hk.elim) h.ars (fun k hk => .inl hk) (fun k e' he => ?_)
  rcases heap_set_cases he with ⟨rfl, rfl⟩ | ⟨hk, he⟩
  · exact ⟨_, hi, rfl, ho, .inl (hh (h.heap _ (List.mem_of_getElem? hi)))⟩
  · exact ⟨e', he, rfl, rfl, .inr ⟨rfl, fun h => h⟩⟩

end

theorem fit_i64 {x : Int} (h : -9223372036854775808 ≤ x ∧ x ≤ 9223372036854775807) : fit .i64 x := i64_in h
theorem fit_u64 {x : Int} (h : 0 ≤ x ∧ x ≤ 18446744073709551615) : fit .u64 x := u64_in h
theorem fit_u8 {x : Int} (h : 0 ≤ x ∧ x ≤ 255) : fit .u8 x := u8_in h
theorem quo2 {x d : Int} (h0 : 0 ≤ x) (h1 : x ≤ 9223372036854775807) (hd : 1 ≤ d) : d ≠ 0 ∧ IntKind.i64.wrap (Int.tdiv x d) = x / d := ⟨by omega, quo_in h0 h1 hd⟩
theorem rem2 {x d : Int} (h0 : 0 ≤ x) (hd : 1 ≤ d) : d ≠ 0 ∧ Int.tmod x d = x % d := ⟨by omega, rem_in h0⟩

end Go.Proofs.YtlnecfdbmoilbaaDoor.K
