/-
  A walk by computing, fourth part: one operation under its guard; a row of operations.
-/
import Derived.Test.YtlnecfdbmoilbaaDoorKc
import Derived.Laws.MakeOwn
namespace Go.Proofs.YtlnecfdbmoilbaaDoor.K
set_option linter.unusedSimpArgs false
set_option linter.unusedVariables false

/-- How an operation is carried out: guard (0: none; 1: it says yes; 2: it says no; 3: not decided), kind (0: as it runs; else a special one), the place of the block that it touches. -/
structure Hint where
  g : Nat
  m : Nat
  h : Nat
  fx : Option Value := none

/-- A hint as a number: its last digit the guard, the one before it the kind, what stands before them the place. -/
def Hint.of (n : Nat) : Hint := ⟨n % 10, n / 10 % 10, n / 100, none⟩
instance (n : Nat) : OfNat Hint n := ⟨Hint.of n⟩
/-- The answer spelt otherwise. -/
def fx (n : Nat) (v : Value) : Hint := { Hint.of n with fx := some v }

def fixV (v : Value) (s : LS) : Option Value → Option (Option Value × LS)
  | none => some (some v, s)
  | some u => some (some u, { s with ob := (v = u) :: s.ob })

/-- A new slice, all its elements nought (one cell each). -/
def evMake (P : Program) (ν : Nat → Nat) (ρ : Operand → Value) (s : LS) : Op → Option (Value × LS)
  | .makeSlice t l c => match P.underlying t with
    | some (.slice e) => match P.info? e, ρ l, ρ c with
      | some i, .int .i64 n, .int .i64 n' => match i.zero, Nat.beq i.size 1 with
        | some z, true => match oneCell z with
          | true => some (.slice (some ⟨ν s.k, 0, none⟩) n.toNat n.toNat, { heap := s.heap ++ [(ν s.k, .row e n.toNat n.toNat (fun _ => z))], k := s.k + 1, ob := (n = n') :: (0 ≤ n ∧ n ≤ 2 ^ 32 ∧ i.bytes ≤ 64) :: s.ob })
          | false => none
        | _, _ => none
      | _, _, _ => none
    | _ => none
  | _ => none

/-- A type's nought, cell by cell. -/
def zf (P : Program) (t : TypeId) (o : Nat) : Value := match P.info? t with
  | some i => match i.zero with
    | some z => z.cells.getD o undef
    | none => undef
  | none => undef

/-- A new block of many cells, all nought. -/
def evAlloc (P : Program) (ν : Nat → Nat) (s : LS) : Op → Option (Value × LS)
  | .alloc t => match P.info? t with
    | some i => match i.zero with
      | some z => some (.pointer (some ⟨ν s.k, 0, none⟩), { heap := s.heap ++ [(ν s.k, .row t i.size i.size (zf P t))], k := s.k + 1, ob := (z.cells.size = i.size) :: s.ob })
      | none => none
    | none => none
  | _ => none

def evVal0 (P : Program) (ν : Nat → Nat) (ro : Bool) (m h : Nat) (ρ : Operand → Value) (o : Oper) (s : LS) : Option (Option Value × LS) :=
  match m with
  | 0 => match absRun P h ν ro (execOp ρ o) s with
    | some (.value v, s') => some (some v, s')
    | some (.skip, s') => some (none, s')
    | _ => none
  | 9 => match ro, evMake P ν ρ s o.op with
    | false, some (v, s') => some (some v, s')
    | _, _ => none
  | 5 => match ro, evAlloc P ν s o.op with
    | false, some (v, s') => some (some v, s')
    | _, _ => none
  | m => match special P m ρ o.op with
    | some (v, l) => some (some v, { s with ob := l ++ s.ob })
    | none => none

def evVal (P : Program) (ν : Nat → Nat) (ro : Bool) (m h : Nat) (fx : Option Value) (ρ : Operand → Value) (o : Oper) (s : LS) : Option (Option Value × LS) :=
  match evVal0 P ν ro m h ρ o s with
  | some (some v, s') => fixV v s' fx
  | r => r

def condP (E : Env) : Conds → Prop
  | [] => True
  | p :: l => (match look E p.1 with
    | some (_, .bool x) => x = p.2
    | _ => True) ∧ condP E l

def closedC (E : Env) (C : Conds) : Conds → Bool
  | [] => true
  | p :: l => (match look E p.1 with
    | some (cs, _) => sub cs C
    | none => false) && closedC E C l

/-- How a choice is spelt. -/
def pickForm (a b : Operand) (x y z : Bool) : Bool := match b with
  | .const (.bool false) => x && y
  | _ => match a with
    | .const (.bool true) => x || z
    | _ => cond x y z

theorem pickForm_eq {a b : Operand} {x y z : Bool} (ha : a = .const (.bool true) → y = true) (hb : b = .const (.bool false) → z = false) : pickForm a b x y z = cond x y z := by
  unfold pickForm
  split
  · rw [hb rfl]; cases x <;> rfl
  · split
    · rw [ha rfl]; cases x <;> rfl
    · rfl

def evPick (E : Env) (C : Conds) : Op → Option Value
  | .pick (.tmp t) a b => match okO E C (.tmp t) && okO E ((t, true) :: C) a && okO E ((t, false) :: C) b with
    | true => match rho E (.tmp t), rho E a, rho E b with
      | .bool x, .bool y, .bool z => some (.bool (pickForm a b x y z))
      | _, _, _ => none
    | false => none
  | _ => none

def isNil : Conds → Bool
  | [] => true
  | _ => false

/-- A choice whose test is known. -/
def evDec (E : Env) (C : Conds) (b : Bool) : Op → Option (Value × Prop)
  | .pick c x y => match isNil C && okO E [] c && okO E [] (if b then x else y) with
    | true => some (rho E (if b then x else y), rho E c = .bool b)
    | false => none
  | _ => none

/-- Where the answer goes. -/
def evDst (n : Nat) (E : Env) (C : Conds) (dst : Option Nat) (r : Option Value) : Option Env :=
  match dst with
  | none => some E
  | some d => match Nat.blt d n, named C d with
    | true, false => match r with
      | some v => some (putE E d C v)
      | none => some (strike E d)
    | _, _ => none

def wrapOb (E : Env) (C : Conds) (l : List Prop) (s : LS) : LS := match C with
  | [] => { s with ob := s.ob ++ l }
  | _ => match s.ob with
    | [] => { s with ob := l }
    | _ => { s with ob := (condP E C → AllP s.ob) :: l }

def evRunDec (n : Nat) (C : Conds) (b : Bool) (o : Oper) (E : Env) (s : LS) : Option (Env × LS) :=
  match evDec E C b o.op with
  | some (v, p) => match evDst n E C o.dst (some v) with
    | some E' => some (E', { s with ob := p :: s.ob })
    | none => none
  | none => none

def evRun (P : Program) (n : Nat) (q : Bool) (ν : Nat → Nat) (C : Conds) (hn : Hint) (o : Oper) (E : Env) (s : LS) : Option (Env × LS) :=
  match hn.m with
  | 8 => match evPick E C o.op with
    | some v => match evDst n E C o.dst (some v) with
      | some E' => some (E', s)
      | none => none
    | none => none
  | 7 => evRunDec n C true o E s
  | 6 => evRunDec n C false o E s
  | m => match opKnown o.op && okAll E C o.op.operands.toList && closedC E C C with
    | true => match evVal P ν (q || !isNil C) m hn.h hn.fx (rho E) o { s with ob := [] } with
      | some (r, s') => match evDst n E C o.dst r with
        | some E' => some (E', wrapOb E C s.ob s')
        | none => none
      | none => none
    | false => none

def guardSlot (ops : Array Oper) (o : Oper) : Option (Nat × Bool) := match o.guard with
  | some (j, want) => match (ops[j]?).bind (·.dst) with
    | some d => some (d, want)
    | none => none
  | none => none

def evOp (P : Program) (n : Nat) (q : Bool) (ops : Array Oper) (ν : Nat → Nat) (hn : Hint) (o : Oper) (E : Env) (s : LS) : Option (Env × LS) :=
  match hn.g with
  | 0 => match o.guard with
    | none => evRun P n q ν [] hn o E s
    | some _ => none
  | 1 => match guardSlot ops o with
    | some (d, want) => match look E d with
      | some ([], v) => match evRun P n q ν [] hn o E s with
        | some (E', s') => some (E', { s' with ob := (v = .bool want) :: s'.ob })
        | none => none
      | _ => none
    | none => none
  | 2 => match guardSlot ops o with
    | some (d, want) => match look E d with
      | some ([], v) => match evDst n E [] o.dst (some undef) with
        | some E' => some (E', { s with ob := (v = .bool (!want)) :: s.ob })
        | none => none
      | _ => none
    | none => none
  | 4 => match guardSlot ops o with
    | some (d, want) => match look E d with
      | some ([], v) => match evDst n E [] o.dst (some undef) with
        | some E' => some (E', { s with ob := (v = undef) :: s.ob })
        | none => none
      | _ => none
    | none => none
  | 3 => match guardSlot ops o with
    | some (d, want) => match look E d with
      | some (cs, _) => evRun P n q ν ((d, want) :: cs) hn o E s
      | none => none
    | none => none
  | _ => none

def evOps (P : Program) (n : Nat) (q : Bool) (ops : Array Oper) (ν : Nat → Nat) : List Hint → List Oper → Env → LS → Option (Env × LS)
  | [], [], E, s => some (E, s)
  | hn :: hs, o :: l, E, s => match evOp P n q ops ν hn o E s with
    | some (E', s') => evOps P n q ops ν hs l E' s'
    | none => none
  | _, _, _, _ => none

/-! ## Soundness -/

theorem agree_dst {n : Nat} {E E' : Env} {C : Conds} {dst : Option Nat} {r : Option Value} {a : Act} {v : Value} (h : evDst n E C dst r = some E') (hE : Agree E a) (hn : n ≤ a.tmps.size) (hv : ∀ u, r = some u → (Holds a C ∧ v = u) ∨ (¬ Holds a C ∧ v = undef)) : Agree E' (a.put dst v) := by
  cases dst with
  | none =>
    simp only [evDst, Option.some.injEq] at h
    subst h
    exact hE
  | some d =>
    simp only [evDst] at h
    split at h
    · rename_i h1 h2
      have hd : d < n := by simpa using h1
      split at h
      · rename_i u
        obtain rfl := Option.some.inj h
        exact agree_put hE (by omega) h2 (hv u rfl)
      · obtain rfl := Option.some.inj h
        exact agree_strike hE d v
    · simp at h

theorem condP_of {E : Env} {a : Act} {C : Conds} (hE : Agree E a) (hC : Holds a C) : ∀ (D : Conds), closedC E C D = true → (∀ p ∈ D, p ∈ C) → condP E D := by
  intro D
  induction D with
  | nil => intro _ _; trivial
  | cons p l ih =>
    intro hc hm
    simp only [closedC, Bool.and_eq_true] at hc
    refine ⟨?_, ih hc.2 fun q hq => hm q (List.mem_cons_of_mem _ hq)⟩
    split
    · rename_i cs x hl
      have h1 := hc.1
      rw [hl] at h1
      have := hE.at (look_mem hl) (hC.sub h1)
      have h2 := hC p (hm p List.mem_cons_self)
      rw [show (p.1, cs, Value.bool x).1 = p.1 from rfl, h2] at this
      exact (Value.bool.inj this).symm
    · trivial

theorem wrap_obs {E : Env} {C : Conds} {l : List Prop} {s : LS} (h : AllP (wrapOb E C l s).ob) : AllP l := by
  cases C with
  | nil => exact (allP_append h).2
  | cons p C =>
    obtain ⟨hp, k, ob⟩ := s
    cases ob with
    | nil => exact h
    | cons q ob => exact h.2

theorem wrap_own {E : Env} {C : Conds} {l : List Prop} {s : LS} (h : AllP (wrapOb E C l s).ob) (hc : condP E C) : AllP s.ob := by
  cases C with
  | nil => exact (allP_append h).1
  | cons p C =>
    obtain ⟨hp, k, ob⟩ := s
    cases ob with
    | nil => trivial
    | cons q ob => exact h.1 hc

theorem wrap_heap {E : Env} {C : Conds} {l : List Prop} {s : LS} : (wrapOb E C l s).heap = s.heap ∧ (wrapOb E C l s).k = s.k ∧ ∃ m, (wrapOb E C l s).ob = m ++ l := by
  cases C with
  | nil => exact ⟨rfl, rfl, s.ob, rfl⟩
  | cons p C =>
    obtain ⟨hp, k, ob⟩ := s
    cases ob with
    | nil => exact ⟨rfl, rfl, [], rfl⟩
    | cons q ob => exact ⟨rfl, rfl, [_], rfl⟩

theorem run_bind_ok {α β : Type} {P : Program} {m : Sem α} {f : α → Sem β} {w w' : World} {x : α} (h : m.run P w = .ok x w') : (m >>= f).run P w = (f x).run P w' := by
  show (Sem.bind m f).run P w = _
  rw [Sem.run_bind', h]
  rfl

theorem evMake_sound {P : Program} {ν : Nat → Nat} {ρ : Operand → Value} {s s' : LS} {o : Oper} {v : Value} {w : World} (he : evMake P ν ρ s o.op = some (v, s')) (F : Fine ν s w) (hob : AllP s'.ob) :
    ∃ w', (execOp ρ o).run P w = .ok (.value v) w' ∧ Fine ν s' w' ∧ Own s.heap w w' ∧ Grew w s s' := by
  obtain ⟨dst, op, type, pos, after, guard⟩ := o
  dsimp only at he
  cases op with
  | makeSlice t l c =>
    simp only [evMake] at he
    split at he
    · rename_i e ht
      split at he
      · rename_i i n n' hi hl hc
        split at he
        · rename_i z hz hsz
          split at he
          · rename_i hone
            simp only [Option.some.injEq, Prod.mk.injEq] at he
            obtain ⟨rfl, rfl⟩ := he
            obtain ⟨rfl, ⟨h0, h1, h2⟩, _⟩ := hob
            have hs1 := Nat.eq_of_beq_eq_true hsz
            have hzc : z.cells = #[z] := by cases z <;> simp_all [oneCell, Value.cells]
            have hb : (i.bytes : Int) * n ≤ 281474976710656 := by
              have : (i.bytes : Int) * n ≤ 64 * n := Int.mul_le_mul_of_nonneg_right (by omega) h0
              omega
            have hk : ν s.k = w.heap.size := F.name 0
            have hmade : madeCells z.cells (n.toNat * i.size) = Array.replicate n.toNat z := by
              apply Array.ext
              · simp [madeCells, hs1]
              · intro j h1 h2
                simp [madeCells, hzc, Nat.mod_one]
            have hrun := run_make (P := P) w t e i z ht hi hz .i64 .i64 n n h0 (Int.le_refl _) hb (by omega)
            rw [hmade] at hrun
            refine ⟨w.alloc (.cells (Array.replicate n.toNat z) e), ?_, ?_, own_alloc _ _ _, ?_⟩
            · simp only [execOp, hl, hc, hk]
              show ((Instr.makeSlice t (.int .i64 n) (.int .i64 n) >>= fun v => pure (Next.value v)).run P w) = _
              rw [run_bind_ok hrun]
              rfl
            · refine fine_alloc F ⟨_, heap_alloc_self _ _, by simp, Nat.le_refl _, fun o ho => ?_⟩
              simp [ho]
            · exact (grew_alloc (ν := ν) (w := w) (s := s) (x := .row e n.toNat n.toNat (fun _ => z)) hk rfl).trans (grew_ob (w := w) [_, _]) (Nat.le_refl _)
          · simp at he
        · simp at he
      · simp at he
    · simp at he
  | _ => simp [evMake] at he

theorem run_value_bind {P : Program} {m : Sem Value} {w w' : World} {x : Value} (h : m.run P w = .ok x w') : (m >>= fun v => pure (Next.value v)).run P w = .ok (.value x) w' := by
  rw [run_bind_ok h]; rfl

/-- What one operation, carried out, is said to do. -/
structure Ran (P : Program) (ν : Nat → Nat) (o : Oper) (a : Act) (s : LS) (w : World) (r : Option Value) (s' : LS) (w' : World) : Prop where
  run : (execOp a.eval o).run P w = .ok (match r with | some v => .value v | none => .skip) w'
  fine : Fine ν s' w'
  own : Own s.heap w w'
  grew : Grew w s s'

theorem fixV_some {v : Value} {s s' : LS} {x : Option Value} {r : Option Value} (h : fixV v s x = some (r, s')) : ∃ u, r = some u ∧ s'.heap = s.heap ∧ s'.k = s.k ∧ ∃ l, s'.ob = l ++ s.ob ∧ (AllP s'.ob → u = v) := by
  cases x with
  | none =>
    simp only [fixV, Option.some.injEq, Prod.mk.injEq] at h
    obtain ⟨rfl, rfl⟩ := h
    exact ⟨v, rfl, rfl, rfl, [], rfl, fun _ => rfl⟩
  | some y =>
    simp only [fixV, Option.some.injEq, Prod.mk.injEq] at h
    obtain ⟨rfl, rfl⟩ := h
    exact ⟨y, rfl, rfl, rfl, [_], rfl, fun h => h.1.symm⟩

theorem evAlloc_sound {P : Program} {ν : Nat → Nat} {ρ : Operand → Value} {s s' : LS} {o : Oper} {v : Value} {w : World} (he : evAlloc P ν s o.op = some (v, s')) (F : Fine ν s w) (hob : AllP s'.ob) :
    ∃ w', (execOp ρ o).run P w = .ok (.value v) w' ∧ Fine ν s' w' ∧ Own s.heap w w' ∧ Grew w s s' := by
  obtain ⟨dst, op, type, pos, after, guard⟩ := o
  dsimp only at he
  cases op with
  | alloc t =>
    simp only [evAlloc] at he
    split at he
    · rename_i i hi
      split at he
      · rename_i z hz
        simp only [Option.some.injEq, Prod.mk.injEq] at he
        obtain ⟨rfl, rfl⟩ := he
        have hsz : z.cells.size = i.size := hob.1
        have hk : ν s.k = w.heap.size := F.name 0
        refine ⟨w.alloc (.cells z.cells t (0, 0)), ?_, ?_, own_alloc _ _ _, ?_⟩
        · simp only [execOp, hk]
          have h0 : (zeroValue t).run P w = .ok z w := by simp [zeroValue, typeInfo, program, bind, Sem.bind, Sem.run, hi, hz, pure]
          have h1 : (newVar t z).run P w = .ok ⟨w.heap.size, 0, none⟩ (w.alloc (.cells z.cells t (0, 0))) := rfl
          show ((zeroValue t >>= fun z => newVar t z >>= fun a => pure (Value.pointer (some a))) >>= fun v => pure (Next.value v)).run P w = _
          have h2 : (zeroValue t >>= fun z => newVar t z >>= fun a => pure (Value.pointer (some a))).run P w = .ok (.pointer (some ⟨w.heap.size, 0, none⟩)) (w.alloc (.cells z.cells t (0, 0))) := by
            rw [runBind h0, runBind h1]; rfl
          rw [runBind h2]; rfl
        · refine fine_alloc F ⟨_, heap_alloc_self _ _, hsz, Nat.le_refl _, fun o ho => ?_⟩
          show _ = some (zf P t o)
          rw [show zf P t o = z.cells.getD o undef by simp only [zf, hi, hz]]
          rw [Array.getD_eq_getD_getElem?, Array.getElem?_eq_getElem (by omega)]
          rfl
        · exact (grew_alloc (ν := ν) (w := w) (s := s) (x := .row t i.size i.size (zf P t)) hk rfl).trans (grew_ob (w := w) [_]) (Nat.le_refl _)
      · simp at he
    · simp at he
  | _ => simp [evAlloc] at he

theorem evVal0_sound {P : Program} {ν : Nat → Nat} {ro : Bool} {m h : Nat} {ρ : Operand → Value} {o : Oper} {s s' : LS} {r : Option Value} {w : World} (he : evVal0 P ν ro m h ρ o s = some (r, s')) (F : Fine ν s w) (hob : AllP s'.ob) :
    ∃ w', (execOp ρ o).run P w = .ok (match r with | some v => .value v | none => .skip) w' ∧ Fine ν s' w' ∧ Own s.heap w w' ∧ Grew w s s' ∧ (ro = true → w' = w ∧ s'.heap = s.heap ∧ s'.k = s.k) := by
  unfold evVal0 at he
  split at he
  · split at he
    · rename_i v s1 h1
      simp only [Option.some.injEq, Prod.mk.injEq] at he
      obtain ⟨rfl, rfl⟩ := he
      exact absRun_sound P h ν ro _ s w _ _ h1 F hob
    · rename_i s1 h1
      simp only [Option.some.injEq, Prod.mk.injEq] at he
      obtain ⟨rfl, rfl⟩ := he
      exact absRun_sound P h ν ro _ s w _ _ h1 F hob
    · simp at he
  · split at he
    · rename_i v s1 h1
      simp only [Option.some.injEq, Prod.mk.injEq] at he
      obtain ⟨rfl, rfl⟩ := he
      obtain ⟨w', h2, h3, h4, h5⟩ := evMake_sound h1 F hob
      exact ⟨w', h2, h3, h4, h5, fun h => by cases h⟩
    · simp at he
  · split at he
    · rename_i v s1 h1
      simp only [Option.some.injEq, Prod.mk.injEq] at he
      obtain ⟨rfl, rfl⟩ := he
      obtain ⟨w', h2, h3, h4, h5⟩ := evAlloc_sound (ρ := ρ) h1 F hob
      exact ⟨w', h2, h3, h4, h5, fun h => by cases h⟩
    · simp at he
  · split at he
    · rename_i v l h1
      simp only [Option.some.injEq, Prod.mk.injEq] at he
      obtain ⟨rfl, rfl⟩ := he
      exact ⟨w, special_sound h1 (allP_append hob).1 w, F.ob _, .refl _ _, grew_ob l, fun _ => ⟨rfl, rfl, rfl⟩⟩
    · simp at he

theorem evVal_sound {fx : Option Value} {P : Program} {ν : Nat → Nat} {ro : Bool} {m h : Nat} {ρ : Operand → Value} {o : Oper} {s s' : LS} {r : Option Value} {w : World} (he : evVal P ν ro m h fx ρ o s = some (r, s')) (F : Fine ν s w) (hob : AllP s'.ob) :
    ∃ w', (execOp ρ o).run P w = .ok (match r with | some v => .value v | none => .skip) w' ∧ Fine ν s' w' ∧ Own s.heap w w' ∧ Grew w s s' ∧ (ro = true → w' = w ∧ s'.heap = s.heap ∧ s'.k = s.k) := by
  unfold evVal at he
  split at he
  · rename_i v s1 h1
    obtain ⟨u, rfl, e1, e2, l, e3, e4⟩ := fixV_some he
    have hu := e4 hob
    subst hu
    rw [e3] at hob
    obtain ⟨w', k1, k2, k3, k4, k5⟩ := evVal0_sound h1 F (allP_append hob).2
    refine ⟨w', k1, ⟨by rw [e1]; exact k2.holds, by rw [e1]; exact k2.apart, by rw [e2]; exact k2.name⟩, k3, ⟨by rw [e1]; exact k4.old, by rw [e1]; exact k4.new, ?_⟩, fun h => by rw [e1, e2]; exact k5 h⟩
    obtain ⟨m, hm⟩ := k4.obs
    exact ⟨l ++ m, by rw [e3, hm, List.append_assoc]⟩
  · exact evVal0_sound he F hob

theorem evPick_sound {P : Program} {E : Env} {C : Conds} {o : Oper} {v : Value} {a : Act} (h : evPick E C o.op = some v) (hE : Agree E a) (hC : Holds a C) (w : World) : (execOp a.eval o).run P w = .ok (.value v) w := by
  obtain ⟨dst, op, type, pos, after, guard⟩ := o
  dsimp only at h
  cases op with
  | pick c x y =>
    cases c with
    | tmp t =>
      simp only [evPick] at h
      split at h
      · rename_i hok
        simp only [Bool.and_eq_true] at hok
        split at h
        · rename_i b p q h1 h2 h3
          simp only [Option.some.injEq] at h
          rw [pickForm_eq (fun e => by rw [e] at h2; exact (Value.bool.inj h2).symm) (fun e => by rw [e] at h3; exact (Value.bool.inj h3).symm)] at h
          subst h
          have ec : a.eval (.tmp t) = .bool b := by rw [agree_eval hE hC hok.1.1, h1]
          have et : a.tmps.getD t undef = .bool b := ec
          simp only [execOp, ec]
          cases b with
          | true =>
            have hC' : Holds a ((t, true) :: C) := by
              intro z hz
              rcases List.mem_cons.1 hz with rfl | hz
              · exact et
              · exact hC z hz
            have := agree_eval hE hC' hok.1.2
            rw [h2] at this
            show Result.ok (Next.value (a.eval x)) w = _
            rw [this]; rfl
          | false =>
            have hC' : Holds a ((t, false) :: C) := by
              intro z hz
              rcases List.mem_cons.1 hz with rfl | hz
              · exact et
              · exact hC z hz
            have := agree_eval hE hC' hok.2
            rw [h3] at this
            show Result.ok (Next.value (a.eval y)) w = _
            rw [this]; rfl
        · simp at h
      · simp at h
    | _ => simp [evPick] at h
  | _ => simp [evPick] at h

theorem evDec_sound {P : Program} {E : Env} {C : Conds} {b : Bool} {o : Oper} {v : Value} {p : Prop} {a : Act} (h : evDec E C b o.op = some (v, p)) (hE : Agree E a) (hp : p) (w : World) : C = [] ∧ (execOp a.eval o).run P w = .ok (.value v) w := by
  obtain ⟨dst, op, type, pos, after, guard⟩ := o
  dsimp only at h
  cases op with
  | pick c x y =>
    simp only [evDec] at h
    split at h
    · rename_i hok
      simp only [Bool.and_eq_true] at hok
      simp only [Option.some.injEq, Prod.mk.injEq] at h
      obtain ⟨rfl, rfl⟩ := h
      have hC : C = [] := by cases C with
        | nil => rfl
        | cons q C => simp [isNil] at hok
      refine ⟨hC, ?_⟩
      have hn : Holds a [] := fun q hq => nomatch hq
      have e1 := agree_eval hE hn hok.1.2
      have e2 := agree_eval hE hn hok.2
      rw [hp] at e1
      simp only [execOp, e1]
      cases b with
      | true => show Result.ok (Next.value (a.eval x)) w = _; simp only [if_true] at e2; rw [e2]; rfl
      | false => show Result.ok (Next.value (a.eval y)) w = _; simp only [Bool.false_eq_true, if_false] at e2; rw [e2]; rfl
    · simp at h
  | _ => simp [evDec] at h

theorem evRunDec_spec {n : Nat} {C : Conds} {b : Bool} {o : Oper} {E E' : Env} {s s' : LS} (he : evRunDec n C b o E s = some (E', s')) : ∃ v p, evDec E C b o.op = some (v, p) ∧ evDst n E C o.dst (some v) = some E' ∧ s' = { s with ob := p :: s.ob } := by
  unfold evRunDec at he
  split at he
  · rename_i v p hv
    split at he
    · rename_i E1 hd
      simp only [Option.some.injEq, Prod.mk.injEq] at he
      obtain ⟨rfl, rfl⟩ := he
      exact ⟨v, p, hv, hd, rfl⟩
    · simp at he
  · simp at he

theorem evRun_sound {P : Program} {n : Nat} {q : Bool} {ν : Nat → Nat} {C : Conds} {hn : Hint} {o : Oper} {E E' : Env} {s s' : LS} {a : Act} {w : World} (he : evRun P n q ν C hn o E s = some (E', s')) (hE : Agree E a) (hsz : n ≤ a.tmps.size) (hC : Holds a C) (F : Fine ν s w) (hob : AllP s'.ob) :
    ∃ r w', Ran P ν o a s w r s' w' ∧ Agree E' (a.put o.dst (r.getD undef)) := by
  unfold evRun at he
  split at he
  · split at he
    · rename_i v hv
      split at he
      · rename_i E1 hd
        simp only [Option.some.injEq, Prod.mk.injEq] at he
        obtain ⟨rfl, rfl⟩ := he
        exact ⟨some v, w, ⟨evPick_sound hv hE hC w, F, .refl _ _, .refl _ _⟩, agree_dst hd hE hsz fun u hu => .inl ⟨hC, by obtain rfl := Option.some.inj hu; rfl⟩⟩
      · simp at he
    · simp at he
  · obtain ⟨v, p, hv, hd, rfl⟩ := evRunDec_spec he
    exact ⟨some v, w, ⟨(evDec_sound hv hE hob.1 w).2, F.ob _, .refl _ _, grew_ob [_]⟩, agree_dst hd hE hsz fun u hu => .inl ⟨hC, by obtain rfl := Option.some.inj hu; rfl⟩⟩
  · obtain ⟨v, p, hv, hd, rfl⟩ := evRunDec_spec he
    exact ⟨some v, w, ⟨(evDec_sound hv hE hob.1 w).2, F.ob _, .refl _ _, grew_ob [_]⟩, agree_dst hd hE hsz fun u hu => .inl ⟨hC, by obtain rfl := Option.some.inj hu; rfl⟩⟩
  · split at he
    · rename_i hok
      simp only [Bool.and_eq_true] at hok
      split at he
      · rename_i r s1 hv
        split at he
        · rename_i E1 hd
          simp only [Option.some.injEq, Prod.mk.injEq] at he
          obtain ⟨rfl, rfl⟩ := he
          have hcond := condP_of hE hC C hok.2 (fun p hp => hp)
          have hob1 : AllP s1.ob := wrap_own hob hcond
          have heq : execOp a.eval o = execOp (rho E) o := execOp_congr o hok.1.1 fun x hx => agree_eval hE hC (okAll_mem hok.1.2 x hx)
          obtain ⟨w', h1, h2, h3, h4, h5⟩ := evVal_sound hv (F.ob _) hob1
          refine ⟨r, w', ⟨by rw [heq]; exact h1, ?_, h3, ?_⟩, agree_dst hd hE hsz fun u hu => .inl ⟨hC, by rw [hu]; rfl⟩⟩
          · obtain ⟨e1, e2, _⟩ := wrap_heap (E := E) (C := C) (l := s.ob) (s := s1)
            exact ⟨by rw [e1]; exact h2.holds, by rw [e1]; exact h2.apart, by rw [e2]; exact h2.name⟩
          · obtain ⟨e1, e2, e3⟩ := wrap_heap (E := E) (C := C) (l := s.ob) (s := s1)
            exact ⟨by rw [e1]; exact h4.old, by rw [e1]; exact h4.new, e3⟩
        · simp at he
      · simp at he
    · simp at he

theorem evRun_obs {P : Program} {n : Nat} {q : Bool} {ν : Nat → Nat} {C : Conds} {hn : Hint} {o : Oper} {E E' : Env} {s s' : LS} (he : evRun P n q ν C hn o E s = some (E', s')) : ∃ l, s'.ob = l ++ s.ob := by
  unfold evRun at he
  split at he
  · split at he
    · split at he
      · simp only [Option.some.injEq, Prod.mk.injEq] at he
        obtain ⟨rfl, rfl⟩ := he
        exact ⟨[], rfl⟩
      · simp at he
    · simp at he
  · obtain ⟨v, p, hv, hd, rfl⟩ := evRunDec_spec he; exact ⟨[_], rfl⟩
  · obtain ⟨v, p, hv, hd, rfl⟩ := evRunDec_spec he; exact ⟨[_], rfl⟩
  · split at he
    · split at he
      · rename_i r s1 hv
        split at he
        · simp only [Option.some.injEq, Prod.mk.injEq] at he
          obtain ⟨rfl, rfl⟩ := he
          exact (wrap_heap (E := E) (C := C) (l := s.ob) (s := s1)).2.2
        · simp at he
      · simp at he
    · simp at he

theorem absRun_ro {α : Type} (P : Program) (h : Nat) (ν : Nat → Nat) (m : Sem α) : ∀ (s : LS) (x : α) (s' : LS), absRun P h ν true m s = some (x, s') → s'.heap = s.heap ∧ s'.k = s.k := by
  induction m with
  | pure a => intro s x s' he; simp only [absRun, Option.some.injEq, Prod.mk.injEq] at he; rw [← he.2]; exact ⟨rfl, rfl⟩
  | load md a k ih =>
    intro s x s' he
    simp only [absRun] at he
    split at he
    · split at he
      · have := ih _ _ x s' he; exact this
      · simp at he
    · split at he
      · have := ih _ _ x s' he; exact this
      · simp at he
    · split at he
      · have := ih _ _ x s' he; exact this
      · simp at he
    · simp at he
  | store md a v k ih => intro s x s' he; simp [absRun] at he
  | new o k ih => intro s x s' he; simp [absRun] at he
  | shape r k ih =>
    intro s x s' he
    simp only [absRun] at he
    split at he
    · have := ih _ _ x s' he; exact this
    · simp at he
  | freeze a n k ih => intro s x s' he; simp [absRun] at he
  | frozen a k ih =>
    intro s x s' he
    simp only [absRun] at he
    split at he
    · have := ih _ _ x s' he; exact this
    · simp at he
  | getObj r k ih => intro s x s' he; simp [absRun] at he
  | setObj r o k ih => intro s x s' he; simp [absRun] at he
  | choose q k ih => intro s x s' he; simp [absRun] at he
  | sys c k ih => intro s x s' he; simp [absRun] at he
  | program k ih => intro s x s' he; exact ih P s x s' he
  | mark mm k ih => intro s x s' he; exact ih s x s' he
  | halt hh => intro s x s' he; simp [absRun] at he

theorem evVal0_ro {P : Program} {ν : Nat → Nat} {m h : Nat} {ρ : Operand → Value} {o : Oper} {s s' : LS} {r : Option Value} (he : evVal0 P ν true m h ρ o s = some (r, s')) : s'.heap = s.heap ∧ s'.k = s.k := by
  unfold evVal0 at he
  split at he
  · split at he
    · rename_i v s1 h1
      simp only [Option.some.injEq, Prod.mk.injEq] at he
      obtain ⟨rfl, rfl⟩ := he
      exact absRun_ro P h ν _ s _ _ h1
    · rename_i s1 h1
      simp only [Option.some.injEq, Prod.mk.injEq] at he
      obtain ⟨rfl, rfl⟩ := he
      exact absRun_ro P h ν _ s _ _ h1
    · simp at he
  · simp at he
  · simp at he
  · split at he
    · simp only [Option.some.injEq, Prod.mk.injEq] at he
      obtain ⟨rfl, rfl⟩ := he
      exact ⟨rfl, rfl⟩
    · simp at he

theorem evVal_ro {fx : Option Value} {P : Program} {ν : Nat → Nat} {m h : Nat} {ρ : Operand → Value} {o : Oper} {s s' : LS} {r : Option Value} (he : evVal P ν true m h fx ρ o s = some (r, s')) : s'.heap = s.heap ∧ s'.k = s.k := by
  unfold evVal at he
  split at he
  · rename_i v s1 h1
    obtain ⟨u, rfl, e1, e2, _⟩ := fixV_some he
    rw [e1, e2]
    exact evVal0_ro h1
  · exact evVal0_ro he

theorem evRun_shape {P : Program} {n : Nat} {q : Bool} {ν : Nat → Nat} {p : Nat × Bool} {C : Conds} {hn : Hint} {o : Oper} {E E' : Env} {s s' : LS} (he : evRun P n q ν (p :: C) hn o E s = some (E', s')) : s'.heap = s.heap ∧ s'.k = s.k ∧ ∃ r, evDst n E (p :: C) o.dst r = some E' := by
  unfold evRun at he
  split at he
  · split at he
    · rename_i v hv
      split at he
      · rename_i E1 hd
        simp only [Option.some.injEq, Prod.mk.injEq] at he
        obtain ⟨rfl, rfl⟩ := he
        exact ⟨rfl, rfl, _, hd⟩
      · simp at he
    · simp at he
  · obtain ⟨v, p, hv, hd, rfl⟩ := evRunDec_spec he; exact ⟨rfl, rfl, _, hd⟩
  · obtain ⟨v, p, hv, hd, rfl⟩ := evRunDec_spec he; exact ⟨rfl, rfl, _, hd⟩
  · split at he
    · split at he
      · rename_i r s1 hv
        split at he
        · rename_i E1 hd
          simp only [Option.some.injEq, Prod.mk.injEq] at he
          obtain ⟨rfl, rfl⟩ := he
          rw [show (q || !isNil (p :: C)) = true by simp [isNil]] at hv
          obtain ⟨h1, h2⟩ := evVal_ro hv
          obtain ⟨e1, e2, _⟩ := wrap_heap (E := E) (C := p :: C) (l := s.ob) (s := s1)
          exact ⟨e1.trans h1, e2.trans h2, _, hd⟩
        · simp at he
      · simp at he
    · simp at he

theorem guardSlot_some {ops : Array Oper} {o : Oper} {d : Nat} {want : Bool} (h : guardSlot ops o = some (d, want)) : ∃ j, o.guard = some (j, want) ∧ (ops[j]?).bind (·.dst) = some d := by
  unfold guardSlot at h
  split at h
  · rename_i j wt hg
    split at h
    · rename_i d' hd
      simp only [Option.some.injEq, Prod.mk.injEq] at h
      obtain ⟨rfl, rfl⟩ := h
      exact ⟨j, hg, hd⟩
    · simp at h
  · simp at h

theorem wanted_iff {ops : Array Oper} {o : Oper} {d : Nat} {want : Bool} (h : guardSlot ops o = some (d, want)) (a : Act) (hd : d < a.tmps.size) : Region.wanted o (yielded ops a.tmps) = true ↔ a.tmps.getD d undef = .bool want := by
  obtain ⟨j, hg, hj⟩ := guardSlot_some h
  simp only [Region.wanted, hg, yielded, hj, Option.bind_some]
  have e : a.tmps[d]? = some (a.tmps.getD d undef) := by
    simp [hd]
  rw [e]
  constructor
  · intro hw
    split at hw
    · rename_i b hb
      simp at hw
      have := Option.some.inj hb
      rw [this, hw]
    · simp at hw
  · intro hw
    rw [hw]
    simp

/-- One operation, under its guard: carried out, or passed over. -/
theorem evOp_sound {P : Program} {n : Nat} {q : Bool} {ops : Array Oper} {ν : Nat → Nat} {hn : Hint} {o : Oper} {E E' : Env} {s s' : LS} {a : Act} {w : World} (he : evOp P n q ops ν hn o E s = some (E', s')) (hE : Agree E a) (hb : ∀ d want, guardSlot ops o = some (d, want) → d < n) (hsz : n ≤ a.tmps.size) (F : Fine ν s w) (hob : AllP s'.ob) :
    (Region.wanted o (yielded ops a.tmps) = true ∧ ∃ r w', Ran P ν o a s w r s' w' ∧ Agree E' (a.put o.dst (r.getD undef))) ∨
    (Region.wanted o (yielded ops a.tmps) = false ∧ Fine ν s' w ∧ Grew w s s' ∧ Agree E' (a.put o.dst undef)) := by
  unfold evOp at he
  split at he
  · split at he
    · rename_i hg
      refine .inl ⟨by simp [Region.wanted, hg], ?_⟩
      exact evRun_sound he hE hsz (fun p hp => by cases hp) F hob
    · simp at he
  · split at he
    · rename_i d want hg
      split at he
      · rename_i v hl
        split at he
        · rename_i E1 s1 hr
          simp only [Option.some.injEq, Prod.mk.injEq] at he
          obtain ⟨rfl, rfl⟩ := he
          have hv : v = .bool want := hob.1
          have hslot := hE.at (look_mem hl) (fun p hp => by cases hp)
          refine .inl ⟨(wanted_iff hg a (Nat.lt_of_lt_of_le (hb _ _ hg) hsz)).2 (hslot.trans hv), ?_⟩
          obtain ⟨r, w', ⟨h1, h2, h3, h4⟩, h5⟩ := evRun_sound hr hE hsz (fun p hp => by cases hp) F hob.2
          exact ⟨r, w', ⟨h1, h2.ob _, h3, h4.trans (grew_ob (w := w') [_]) h3.size⟩, h5⟩
        · simp at he
      · simp at he
    · simp at he
  · split at he
    · rename_i d want hg
      split at he
      · rename_i v hl
        split at he
        · rename_i E1 hd
          simp only [Option.some.injEq, Prod.mk.injEq] at he
          obtain ⟨rfl, rfl⟩ := he
          have hv : v = .bool (!want) := hob.1
          have hslot := hE.at (look_mem hl) (fun p hp => by cases hp)
          refine .inr ⟨?_, F.ob _, grew_ob [_], agree_dst hd hE hsz fun u hu => .inl ⟨fun p hp => (by cases hp), Option.some.inj hu⟩⟩
          rw [Bool.eq_false_iff]
          intro hw
          have := (wanted_iff hg a (Nat.lt_of_lt_of_le (hb _ _ hg) hsz)).1 hw
          rw [this] at hslot
          rw [hv] at hslot
          have := Value.bool.inj hslot
          cases want <;> simp at this
        · simp at he
      · simp at he
    · simp at he
  · split at he
    · rename_i d want hg
      split at he
      · rename_i v hl
        split at he
        · rename_i E1 hd
          simp only [Option.some.injEq, Prod.mk.injEq] at he
          obtain ⟨rfl, rfl⟩ := he
          have hv : v = undef := hob.1
          have hslot := hE.at (look_mem hl) (fun p hp => by cases hp)
          refine .inr ⟨?_, F.ob _, grew_ob [_], agree_dst hd hE hsz fun u hu => .inl ⟨fun p hp => (by cases hp), Option.some.inj hu⟩⟩
          rw [Bool.eq_false_iff]
          intro hw
          have := (wanted_iff hg a (Nat.lt_of_lt_of_le (hb _ _ hg) hsz)).1 hw
          rw [this] at hslot
          rw [hv] at hslot
          cases hslot
        · simp at he
      · simp at he
    · simp at he
  · split at he
    · rename_i d want hg
      split at he
      · rename_i cs u hl
        have key := wanted_iff hg a (Nat.lt_of_lt_of_le (hb _ _ hg) hsz)
        have hent := hE _ (look_mem hl)
        by_cases hw : Region.wanted o (yielded ops a.tmps) = true
        · refine .inl ⟨hw, evRun_sound he hE hsz (fun p hp => ?_) F hob⟩
          have hd := key.1 hw
          have hcs : Holds a cs := by
            rcases hent with ⟨h, _⟩ | ⟨_, h⟩
            · exact h
            · have h : a.tmps.getD d undef = undef := h
              rw [hd] at h
              cases h
          rcases List.mem_cons.1 hp with rfl | hp
          · exact hd
          · exact hcs p hp
        · refine .inr ⟨by simpa using hw, ?_⟩
          obtain ⟨h1, h2, r, h3⟩ := evRun_shape he
          obtain ⟨l, hl'⟩ := evRun_obs he
          refine ⟨⟨by rw [h1]; exact F.holds, by rw [h1]; exact F.apart, by rw [h2]; exact F.name⟩, ⟨?_, ?_, ⟨l, hl'⟩⟩, ?_⟩
          · intro i e he; exact ⟨e, by rw [h1]; exact he, rfl, rfl⟩
          · intro e he; rw [h1] at he; exact .inl ⟨e, he, rfl, rfl⟩
          · refine agree_dst h3 hE hsz fun u _ => .inr ⟨fun hC => hw (key.2 ?_), rfl⟩
            exact hC (d, want) List.mem_cons_self
      · simp at he
    · simp at he
  · simp at he

theorem evOp_obs {P : Program} {n : Nat} {q : Bool} {ops : Array Oper} {ν : Nat → Nat} {hn : Hint} {o : Oper} {E E' : Env} {s s' : LS} (he : evOp P n q ops ν hn o E s = some (E', s')) : ∃ l, s'.ob = l ++ s.ob := by
  unfold evOp at he
  split at he
  · split at he
    · exact evRun_obs he
    · simp at he
  · split at he
    · split at he
      · split at he
        · rename_i E1 s1 hr
          simp only [Option.some.injEq, Prod.mk.injEq] at he
          obtain ⟨rfl, rfl⟩ := he
          obtain ⟨l, hl⟩ := evRun_obs hr
          exact ⟨_ :: l, by rw [hl]; rfl⟩
        · simp at he
      · simp at he
    · simp at he
  · split at he
    · split at he
      · split at he
        · simp only [Option.some.injEq, Prod.mk.injEq] at he
          obtain ⟨rfl, rfl⟩ := he
          exact ⟨[_], rfl⟩
        · simp at he
      · simp at he
    · simp at he
  · split at he
    · split at he
      · split at he
        · simp only [Option.some.injEq, Prod.mk.injEq] at he
          obtain ⟨rfl, rfl⟩ := he
          exact ⟨[_], rfl⟩
        · simp at he
      · simp at he
    · simp at he
  · split at he
    · split at he
      · exact evRun_obs he
      · simp at he
    · simp at he
  · simp at he

theorem evOps_obs {P : Program} {n : Nat} {q : Bool} {ops : Array Oper} {ν : Nat → Nat} : ∀ (hs : List Hint) (l : List Oper) (E E' : Env) (s s' : LS), evOps P n q ops ν hs l E s = some (E', s') → ∃ l, s'.ob = l ++ s.ob
  | [], [], E, E', s, s', he => by
    simp only [evOps, Option.some.injEq, Prod.mk.injEq] at he
    exact ⟨[], by rw [← he.2]; rfl⟩
  | hn :: hs, o :: l, E, E', s, s', he => by
    simp only [evOps] at he
    split at he
    · rename_i E1 s1 h1
      obtain ⟨l1, e1⟩ := evOp_obs h1
      obtain ⟨l2, e2⟩ := evOps_obs hs l _ _ _ _ he
      exact ⟨l2 ++ l1, by rw [e2, e1, List.append_assoc]⟩
    · simp at he
  | [], _ :: _, _, _, _, _, he => by simp [evOps] at he
  | _ :: _, [], _, _, _, _, he => by simp [evOps] at he

/-- The guards' slots are slots of the frame. -/
def guardsOk (n : Nat) (ops : Array Oper) : List Oper → Bool
  | [] => true
  | o :: l => (match guardSlot ops o with
    | some (d, _) => Nat.blt d n
    | none => true) && guardsOk n ops l

theorem wpList_evOps {P : Program} {n : Nat} {q : Bool} {ops : Array Oper} {ν : Nat → Nat} {Q : Exit → Act → World → Prop} (rest : List Oper) : ∀ (hs : List Hint) (l : List Oper) (E E' : Env) (s s' : LS) (a : Act) (w : World), evOps P n q ops ν hs l E s = some (E', s') → guardsOk n ops l = true → Agree E a → n ≤ a.tmps.size → Fine ν s w → AllP s'.ob →
    (∀ a' w', Agree E' a' → a'.tmps.size = a.tmps.size → a'.defers = a.defers → Fine ν s' w' → Own s.heap w w' → Grew w s s' → wpList P ops Q rest a' w') → wpList P ops Q (l ++ rest) a w
  | [], [], E, E', s, s', a, w, he, _, hE, hsz, F, hob, H => by
    simp only [evOps, Option.some.injEq, Prod.mk.injEq] at he
    obtain ⟨rfl, rfl⟩ := he
    exact H a w hE rfl rfl F (.refl _ _) (.refl _ _)
  | hn :: hs, o :: l, E, E', s, s', a, w, he, hg, hE, hsz, F, hob, H => by
    simp only [evOps] at he
    split at he
    · rename_i E1 s1 h1
      simp only [guardsOk, Bool.and_eq_true] at hg
      have hg1 : ∀ d want, guardSlot ops o = some (d, want) → d < n := by
        intro d want hd
        have := hg.1
        rw [hd] at this
        simpa using this
      have hob1 : AllP s1.ob := by
        obtain ⟨l', e⟩ := evOps_obs _ _ _ _ _ _ he
        rw [e] at hob
        exact (allP_append hob).2
      show wpList P ops Q (o :: (l ++ rest)) a w
      unfold wpList
      rcases evOp_sound h1 hE hg1 hsz F hob1 with ⟨hw, r, w1, ⟨hr, F1, O1, G1⟩, A1⟩ | ⟨hw, F1, G1, A1⟩
      · rw [if_pos hw]
        refine .inl ?_
        unfold Oper.wp
        rw [hr]
        have next : wpList P ops Q (l ++ rest) (a.put o.dst (r.getD undef)) w1 := by
          refine wpList_evOps rest hs l E1 E' s1 s' _ w1 he hg.2 A1 (by rw [put_size]; exact hsz) F1 hob fun a' w' h2 h3 h4 h5 h6 h7 => ?_
          exact H a' w' h2 (h3.trans (put_size _ _ _)) (h4.trans (put_defers _ _ _)) h5 (O1.trans h6 G1.own) (G1.trans h7 O1.size)
        cases r with
        | none => exact next
        | some v => exact next
      · rw [if_neg (by rw [hw]; simp)]
        refine wpList_evOps rest hs l E1 E' s1 s' _ w he hg.2 A1 (by rw [put_size]; exact hsz) F1 hob fun a' w' h2 h3 h4 h5 h6 h7 => ?_
        refine H a' w' h2 (h3.trans (put_size _ _ _)) (h4.trans (put_defers _ _ _)) h5 ((Own.refl _ _).trans h6 G1.own) (G1.trans h7 (Nat.le_refl _))
    · simp at he
  | [], _ :: _, _, _, _, _, _, _, he, _, _, _, _, _, _ => by simp [evOps] at he
  | _ :: _, [], _, _, _, _, _, _, he, _, _, _, _, _, _ => by simp [evOps] at he

/-! ## A row of operations that only read, in whatever world of a class -/

theorem absRun_any {α : Type} (P : Program) (h : Nat) (ν ν' : Nat → Nat) (m : Sem α) : ∀ (s : LS), absRun P h ν true m s = absRun P h ν' true m s := by
  induction m with
  | pure a => intro s; rfl
  | load md a k ih =>
    intro s
    simp only [absRun]
    split
    · split
      · exact ih _ _
      · rfl
    · split
      · exact ih _ _
      · rfl
    · split
      · exact ih _ _
      · rfl
    · rfl
  | store md a v k ih => intro s; simp [absRun]
  | new o k ih => intro s; simp [absRun]
  | shape r k ih =>
    intro s
    simp only [absRun]
    split
    · exact ih _ _
    · rfl
  | freeze a n k ih => intro s; rfl
  | frozen a k ih =>
    intro s
    simp only [absRun]
    split
    · exact ih _ _
    · rfl
  | getObj r k ih => intro s; rfl
  | setObj r o k ih => intro s; rfl
  | choose q k ih => intro s; rfl
  | sys c k ih => intro s; rfl
  | program k ih => intro s; exact ih P s
  | mark mm k ih => intro s; exact ih s
  | halt hh => intro s; rfl

theorem evVal_any {fx : Option Value} {P : Program} {ν ν' : Nat → Nat} {m h : Nat} {ρ : Operand → Value} {o : Oper} {s : LS} : evVal P ν true m h fx ρ o s = evVal P ν' true m h fx ρ o s := by
  have : evVal0 P ν true m h ρ o s = evVal0 P ν' true m h ρ o s := by
    unfold evVal0
    split
    · rw [absRun_any P h ν ν']
    · rfl
    · rfl
    · rfl
  unfold evVal
  rw [this]

theorem evRun_any {P : Program} {n : Nat} {ν ν' : Nat → Nat} {C : Conds} {hn : Hint} {o : Oper} {E : Env} {s : LS} : evRun P n true ν C hn o E s = evRun P n true ν' C hn o E s := by
  unfold evRun
  split
  · rfl
  · rfl
  · rfl
  · simp only [Bool.true_or]
    rw [evVal_any (ν := ν) (ν' := ν')]

theorem evOp_any {P : Program} {n : Nat} {ops : Array Oper} {ν ν' : Nat → Nat} {hn : Hint} {o : Oper} {E : Env} {s : LS} : evOp P n true ops ν hn o E s = evOp P n true ops ν' hn o E s := by
  unfold evOp
  split
  · split
    · exact evRun_any
    · rfl
  · split
    · split
      · rw [evRun_any (ν := ν) (ν' := ν')]
      · rfl
    · rfl
  · rfl
  · rfl
  · split
    · split
      · exact evRun_any
      · rfl
    · rfl
  · rfl

theorem evRun_still {P : Program} {n : Nat} {ν : Nat → Nat} {C : Conds} {hn : Hint} {o : Oper} {E E' : Env} {s s' : LS} (he : evRun P n true ν C hn o E s = some (E', s')) : s'.heap = s.heap ∧ s'.k = s.k := by
  unfold evRun at he
  split at he
  · split at he
    · split at he
      · simp only [Option.some.injEq, Prod.mk.injEq] at he
        obtain ⟨rfl, rfl⟩ := he
        exact ⟨rfl, rfl⟩
      · simp at he
    · simp at he
  · obtain ⟨v, p, hv, hd, rfl⟩ := evRunDec_spec he; exact ⟨rfl, rfl⟩
  · obtain ⟨v, p, hv, hd, rfl⟩ := evRunDec_spec he; exact ⟨rfl, rfl⟩
  · split at he
    · split at he
      · rename_i r s1 hv
        split at he
        · simp only [Option.some.injEq, Prod.mk.injEq] at he
          obtain ⟨rfl, rfl⟩ := he
          simp only [Bool.true_or] at hv
          obtain ⟨h1, h2⟩ := evVal_ro hv
          obtain ⟨e1, e2, _⟩ := wrap_heap (E := E) (C := C) (l := s.ob) (s := s1)
          exact ⟨e1.trans h1, e2.trans h2⟩
        · simp at he
      · simp at he
    · simp at he

theorem evOp_still {P : Program} {n : Nat} {ops : Array Oper} {ν : Nat → Nat} {hn : Hint} {o : Oper} {E E' : Env} {s s' : LS} (he : evOp P n true ops ν hn o E s = some (E', s')) : s'.heap = s.heap ∧ s'.k = s.k := by
  unfold evOp at he
  split at he
  · split at he
    · exact evRun_still he
    · simp at he
  · split at he
    · split at he
      · split at he
        · rename_i E1 s1 hr
          simp only [Option.some.injEq, Prod.mk.injEq] at he
          obtain ⟨rfl, rfl⟩ := he
          have := evRun_still hr
          exact this
        · simp at he
      · simp at he
    · simp at he
  · split at he
    · split at he
      · split at he
        · simp only [Option.some.injEq, Prod.mk.injEq] at he
          obtain ⟨rfl, rfl⟩ := he
          exact ⟨rfl, rfl⟩
        · simp at he
      · simp at he
    · simp at he
  · split at he
    · split at he
      · split at he
        · simp only [Option.some.injEq, Prod.mk.injEq] at he
          obtain ⟨rfl, rfl⟩ := he
          exact ⟨rfl, rfl⟩
        · simp at he
      · simp at he
    · simp at he
  · split at he
    · split at he
      · exact evRun_still he
      · simp at he
    · simp at he
  · simp at he

theorem evRun_q {P : Program} {n : Nat} {ν : Nat → Nat} {C : Conds} {hn : Hint} {o : Oper} {E E' : Env} {s s' : LS} (he : evRun P n true ν C hn o E s = some (E', s')) :
    ∃ r : Option Value, ∀ a : Act, Agree E a → n ≤ a.tmps.size → Holds a C → AllP s'.ob → Agree E' (a.put o.dst (r.getD undef)) ∧
      ∀ w : World, Fine (fun j => w.heap.size + j) s w → (execOp a.eval o).run P w = .ok (match r with | some v => .value v | none => .skip) w := by
  unfold evRun at he
  split at he
  · split at he
    · rename_i v hv
      split at he
      · rename_i E1 hd
        simp only [Option.some.injEq, Prod.mk.injEq] at he
        obtain ⟨rfl, rfl⟩ := he
        refine ⟨some v, fun a hE hsz hC _ => ⟨agree_dst hd hE hsz fun u hu => .inl ⟨hC, by obtain rfl := Option.some.inj hu; rfl⟩, fun w _ => evPick_sound hv hE hC w⟩⟩
      · simp at he
    · simp at he
  · obtain ⟨v, p, hv, hd, rfl⟩ := evRunDec_spec he
    exact ⟨some v, fun a hE hsz hC hob => ⟨agree_dst hd hE hsz fun u hu => .inl ⟨hC, by obtain rfl := Option.some.inj hu; rfl⟩, fun w _ => (evDec_sound hv hE hob.1 w).2⟩⟩
  · obtain ⟨v, p, hv, hd, rfl⟩ := evRunDec_spec he
    exact ⟨some v, fun a hE hsz hC hob => ⟨agree_dst hd hE hsz fun u hu => .inl ⟨hC, by obtain rfl := Option.some.inj hu; rfl⟩, fun w _ => (evDec_sound hv hE hob.1 w).2⟩⟩
  · split at he
    · rename_i hok
      simp only [Bool.and_eq_true] at hok
      split at he
      · rename_i r s1 hv
        split at he
        · rename_i E1 hd
          simp only [Option.some.injEq, Prod.mk.injEq] at he
          obtain ⟨rfl, rfl⟩ := he
          simp only [Bool.true_or] at hv
          refine ⟨r, fun a hE hsz hC hob => ⟨agree_dst hd hE hsz fun u hu => .inl ⟨hC, by rw [hu]; rfl⟩, fun w F => ?_⟩⟩
          have hcond := condP_of hE hC C hok.2 (fun p hp => hp)
          have hob1 : AllP s1.ob := wrap_own hob hcond
          have heq : execOp a.eval o = execOp (rho E) o := execOp_congr o hok.1.1 fun x hx => agree_eval hE hC (okAll_mem hok.1.2 x hx)
          rw [evVal_any (ν' := fun j => w.heap.size + j)] at hv
          obtain ⟨w', h1, h2, h3, h4, h5⟩ := evVal_sound hv (F.ob _) hob1
          obtain ⟨rfl, _⟩ := h5 rfl
          rw [heq]; exact h1
        · simp at he
      · simp at he
    · simp at he

/-- What the operation, only reading, tells: the same in each world in which the blocks are so. -/
theorem evOp_q {P : Program} {n : Nat} {ops : Array Oper} {ν : Nat → Nat} {hn : Hint} {o : Oper} {E E' : Env} {s s' : LS} {a : Act} (he : evOp P n true ops ν hn o E s = some (E', s')) (hE : Agree E a) (hb : ∀ d want, guardSlot ops o = some (d, want) → d < n) (hsz : n ≤ a.tmps.size) (hob : AllP s'.ob) :
    (Region.wanted o (yielded ops a.tmps) = true ∧ ∃ r : Option Value, Agree E' (a.put o.dst (r.getD undef)) ∧ ∀ w : World, Fine (fun j => w.heap.size + j) s w → (execOp a.eval o).run P w = .ok (match r with | some v => .value v | none => .skip) w) ∨
    (Region.wanted o (yielded ops a.tmps) = false ∧ Agree E' (a.put o.dst undef)) := by
  unfold evOp at he
  split at he
  · split at he
    · rename_i hg
      obtain ⟨r, hr⟩ := evRun_q he
      obtain ⟨h1, h2⟩ := hr a hE hsz (fun p hp => by cases hp) hob
      exact .inl ⟨by simp [Region.wanted, hg], r, h1, h2⟩
    · simp at he
  · split at he
    · rename_i d want hg
      split at he
      · rename_i v hl
        split at he
        · rename_i E1 s1 hr
          simp only [Option.some.injEq, Prod.mk.injEq] at he
          obtain ⟨rfl, rfl⟩ := he
          have hv : v = .bool want := hob.1
          have hslot := hE.at (look_mem hl) (fun p hp => by cases hp)
          obtain ⟨r, hr⟩ := evRun_q hr
          obtain ⟨h1, h2⟩ := hr a hE hsz (fun p hp => by cases hp) hob.2
          exact .inl ⟨(wanted_iff hg a (Nat.lt_of_lt_of_le (hb _ _ hg) hsz)).2 (hslot.trans hv), r, h1, h2⟩
        · simp at he
      · simp at he
    · simp at he
  · split at he
    · rename_i d want hg
      split at he
      · rename_i v hl
        split at he
        · rename_i E1 hd
          simp only [Option.some.injEq, Prod.mk.injEq] at he
          obtain ⟨rfl, rfl⟩ := he
          have hv : v = .bool (!want) := hob.1
          have hslot := hE.at (look_mem hl) (fun p hp => by cases hp)
          refine .inr ⟨?_, agree_dst hd hE hsz fun u hu => .inl ⟨fun p hp => (by cases hp), Option.some.inj hu⟩⟩
          rw [Bool.eq_false_iff]
          intro hw
          have := (wanted_iff hg a (Nat.lt_of_lt_of_le (hb _ _ hg) hsz)).1 hw
          rw [this] at hslot
          rw [hv] at hslot
          have := Value.bool.inj hslot
          cases want <;> simp at this
        · simp at he
      · simp at he
    · simp at he
  · split at he
    · rename_i d want hg
      split at he
      · rename_i v hl
        split at he
        · rename_i E1 hd
          simp only [Option.some.injEq, Prod.mk.injEq] at he
          obtain ⟨rfl, rfl⟩ := he
          have hv : v = undef := hob.1
          have hslot := hE.at (look_mem hl) (fun p hp => by cases hp)
          refine .inr ⟨?_, agree_dst hd hE hsz fun u hu => .inl ⟨fun p hp => (by cases hp), Option.some.inj hu⟩⟩
          rw [Bool.eq_false_iff]
          intro hw
          have := (wanted_iff hg a (Nat.lt_of_lt_of_le (hb _ _ hg) hsz)).1 hw
          rw [this] at hslot
          rw [hv] at hslot
          cases hslot
        · simp at he
      · simp at he
    · simp at he
  · split at he
    · rename_i d want hg
      split at he
      · rename_i cs u hl
        have key := wanted_iff hg a (Nat.lt_of_lt_of_le (hb _ _ hg) hsz)
        have hent := hE _ (look_mem hl)
        by_cases hw : Region.wanted o (yielded ops a.tmps) = true
        · have hd := key.1 hw
          have hcs : Holds a cs := by
            rcases hent with ⟨h, _⟩ | ⟨_, h⟩
            · exact h
            · have h : a.tmps.getD d undef = undef := h
              rw [hd] at h
              cases h
          obtain ⟨r, hr⟩ := evRun_q he
          obtain ⟨h1, h2⟩ := hr a hE hsz (fun p hp => by
            rcases List.mem_cons.1 hp with rfl | hp
            · exact hd
            · exact hcs p hp) hob
          exact .inl ⟨hw, r, h1, h2⟩
        · refine .inr ⟨by simpa using hw, ?_⟩
          obtain ⟨h1, h2, r, h3⟩ := evRun_shape he
          refine agree_dst h3 hE hsz fun u _ => .inr ⟨fun hC => hw (key.2 ?_), rfl⟩
          exact hC (d, want) List.mem_cons_self
      · simp at he
    · simp at he
  · simp at he

theorem wpQuiet_evOps {P : Program} {n : Nat} {ops : Array Oper} {ν : Nat → Nat} {C : World → Prop} {Q : Act → Prop} (rest : List Oper) : ∀ (hs : List Hint) (l : List Oper) (E E' : Env) (s s' : LS) (a : Act), evOps P n true ops ν hs l E s = some (E', s') → guardsOk n ops l = true → Agree E a → n ≤ a.tmps.size → (∀ w, C w → Fine (fun j => w.heap.size + j) s w) → AllP s'.ob →
    (∀ a', Agree E' a' → a'.tmps.size = a.tmps.size → a'.defers = a.defers → s'.heap = s.heap → wpQuiet P ops C Q rest a') → wpQuiet P ops C Q (l ++ rest) a
  | [], [], E, E', s, s', a, he, _, hE, hsz, F, hob, H => by
    simp only [evOps, Option.some.injEq, Prod.mk.injEq] at he
    obtain ⟨rfl, rfl⟩ := he
    exact H a hE rfl rfl rfl
  | hn :: hs, o :: l, E, E', s, s', a, he, hg, hE, hsz, F, hob, H => by
    simp only [evOps] at he
    split at he
    · rename_i E1 s1 h1
      simp only [guardsOk, Bool.and_eq_true] at hg
      have hg1 : ∀ d want, guardSlot ops o = some (d, want) → d < n := by
        intro d want hd
        have := hg.1
        rw [hd] at this
        simpa using this
      have hob1 : AllP s1.ob := by
        obtain ⟨l', e⟩ := evOps_obs _ _ _ _ _ _ he
        rw [e] at hob
        exact (allP_append hob).2
      obtain ⟨k1, k2⟩ := evOp_still h1
      have F1 : ∀ w, C w → Fine (fun j => w.heap.size + j) s1 w := fun w hw => by
        have := F w hw
        exact ⟨by rw [k1]; exact this.holds, by rw [k1]; exact this.apart, by rw [k2]; exact this.name⟩
      have next : ∀ v, Agree E1 (a.put o.dst v) → wpQuiet P ops C Q (l ++ rest) (a.put o.dst v) := fun v A1 =>
        wpQuiet_evOps rest hs l E1 E' s1 s' _ he hg.2 A1 (by rw [put_size]; exact hsz) F1 hob fun a' h2 h3 h4 h5 =>
          H a' h2 (h3.trans (put_size _ _ _)) (h4.trans (put_defers _ _ _)) (h5.trans k1)
      show wpQuiet P ops C Q (o :: (l ++ rest)) a
      unfold wpQuiet
      rcases evOp_q h1 hE hg1 hsz hob1 with ⟨hw, r, A1, hr⟩ | ⟨hw, A1⟩
      · rw [if_pos hw]
        refine ⟨r.getD undef, fun w hCw => ?_, next _ A1⟩
        unfold Oper.quietAt
        rw [hr w (F w hCw)]
        cases r with
        | none => exact ⟨rfl, rfl⟩
        | some v => exact ⟨rfl, rfl⟩
      · rw [if_neg (by rw [hw]; simp)]
        exact next _ A1
    · simp at he
  | [], _ :: _, _, _, _, _, _, he, _, _, _, _, _, _ => by simp [evOps] at he
  | _ :: _, [], _, _, _, _, _, he, _, _, _, _, _, _ => by simp [evOps] at he

end Go.Proofs.YtlnecfdbmoilbaaDoor.K
