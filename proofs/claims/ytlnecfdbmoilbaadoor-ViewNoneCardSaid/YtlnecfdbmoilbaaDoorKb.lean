/-
  A walk by computing, second part: the slots; one operation; a row of operations.
-/
import Derived.Test.YtlnecfdbmoilbaaDoorKa
namespace Go.Proofs.YtlnecfdbmoilbaaDoor.K

abbrev Conds := List (Nat × Bool)
/-- What is known of slots: slot, the tests under which it is known, the value. -/
abbrev Env := List (Nat × Conds × Value)

def look : Env → Nat → Option (Conds × Value)
  | [], _ => none
  | (t, cs, v) :: l, x => match Nat.beq t x with
    | true => some (cs, v)
    | false => look l x

def rho (E : Env) : Operand → Value
  | .tmp t => match look E t with
    | some (_, v) => v
    | none => undef
  | .const v => v
  | .global g => .pointer (some ⟨g, 0, none⟩)
  | .func f => .func (.func f) #[] #[]

def isIn (p : Nat × Bool) : Conds → Bool
  | [] => false
  | q :: l => (Nat.beq p.1 q.1 && (p.2 == q.2)) || isIn p l

def sub : Conds → Conds → Bool
  | [], _ => true
  | p :: l, C => isIn p C && sub l C

def okO (E : Env) (C : Conds) : Operand → Bool
  | .tmp t => match look E t with
    | some (cs, _) => sub cs C
    | none => false
  | _ => true

def okAll (E : Env) (C : Conds) : List Operand → Bool
  | [] => true
  | x :: l => okO E C x && okAll E C l

def Holds (a : Act) (C : Conds) : Prop := ∀ p ∈ C, a.tmps.getD p.1 undef = .bool p.2

def Agree (E : Env) (a : Act) : Prop := ∀ e ∈ E, (Holds a e.2.1 ∧ a.tmps.getD e.1 undef = e.2.2) ∨ (¬ Holds a e.2.1 ∧ a.tmps.getD e.1 undef = undef)

theorem Agree.at {E : Env} {a : Act} (h : Agree E a) {e : Nat × Conds × Value} (he : e ∈ E) (hc : Holds a e.2.1) : a.tmps.getD e.1 undef = e.2.2 := by
  rcases h e he with ⟨_, h⟩ | ⟨h, _⟩
  · exact h
  · exact absurd hc h

theorem look_mem {E : Env} {t : Nat} {cs : Conds} {v : Value} (h : look E t = some (cs, v)) : (t, cs, v) ∈ E := by
  induction E with
  | nil => simp [look] at h
  | cons e l ih =>
    obtain ⟨x, c, u⟩ := e
    simp only [look] at h
    split at h
    · rename_i hx
      simp only [Option.some.injEq, Prod.mk.injEq] at h
      obtain ⟨rfl, rfl⟩ := h
      rw [Nat.eq_of_beq_eq_true hx]
      exact List.mem_cons_self
    · exact List.mem_cons_of_mem _ (ih h)

theorem isIn_mem {p : Nat × Bool} {C : Conds} (h : isIn p C = true) : p ∈ C := by
  induction C with
  | nil => simp [isIn] at h
  | cons q l ih =>
    simp only [isIn, Bool.or_eq_true, Bool.and_eq_true, beq_iff_eq] at h
    rcases h with ⟨h1, h2⟩ | h
    · have h1 := Nat.eq_of_beq_eq_true h1
      have : p = q := Prod.ext h1 h2
      exact this ▸ List.mem_cons_self
    · exact List.mem_cons_of_mem _ (ih h)

theorem sub_mem {cs C : Conds} (h : sub cs C = true) : ∀ p ∈ cs, p ∈ C := by
  induction cs with
  | nil => intro p hp; cases hp
  | cons q l ih =>
    simp only [sub, Bool.and_eq_true] at h
    intro p hp
    rcases List.mem_cons.1 hp with rfl | hp
    · exact isIn_mem h.1
    · exact ih h.2 p hp

theorem Holds.sub {a : Act} {cs C : Conds} (h : Holds a C) (hs : sub cs C = true) : Holds a cs := fun p hp => h p (sub_mem hs p hp)

theorem agree_eval {E : Env} {a : Act} {C : Conds} (hE : Agree E a) (hC : Holds a C) {x : Operand} (h : okO E C x = true) : a.eval x = rho E x := by
  cases x with
  | tmp t =>
    simp only [okO] at h
    cases hl : look E t with
    | none => simp [hl] at h
    | some q =>
      obtain ⟨cs, v⟩ := q
      simp only [hl] at h
      simp only [rho, hl]
      exact hE.at (look_mem hl) (hC.sub h)
  | const v => rfl
  | global g => rfl
  | func f => rfl

theorem okAll_mem {E : Env} {C : Conds} {l : List Operand} (h : okAll E C l = true) : ∀ x ∈ l, okO E C x = true := by
  induction l with
  | nil => intro x hx; cases hx
  | cons y l ih =>
    simp only [okAll, Bool.and_eq_true] at h
    intro x hx
    rcases List.mem_cons.1 hx with rfl | hx
    · exact h.1
    · exact ih h.2 x hx

def named : Conds → Nat → Bool
  | [], _ => false
  | p :: l, d => Nat.beq p.1 d || named l d

def strike : Env → Nat → Env
  | [], _ => []
  | e :: l, d => match Nat.beq e.1 d || named e.2.1 d with
    | true => strike l d
    | false => e :: strike l d

/-- Slot d is another one now. -/
def putE (E : Env) (d : Nat) (C : Conds) (v : Value) : Env := (d, C, v) :: strike E d

theorem named_false {cs : Conds} {d : Nat} (h : named cs d = false) : ∀ p ∈ cs, p.1 ≠ d := by
  induction cs with
  | nil => intro p hp; cases hp
  | cons q l ih =>
    simp only [named, Bool.or_eq_false_iff] at h
    intro p hp
    rcases List.mem_cons.1 hp with rfl | hp
    · intro e
      have := h.1
      rw [e] at this
      simp at this
    · exact ih h.2 p hp

theorem strike_mem {E : Env} {d : Nat} {e : Nat × Conds × Value} (h : e ∈ strike E d) : e ∈ E ∧ e.1 ≠ d ∧ ∀ p ∈ e.2.1, p.1 ≠ d := by
  induction E with
  | nil => cases h
  | cons x l ih =>
    simp only [strike] at h
    split at h
    · obtain ⟨h1, h2⟩ := ih h
      exact ⟨List.mem_cons_of_mem _ h1, h2⟩
    · rename_i hb
      simp only [Bool.or_eq_false_iff] at hb
      rcases List.mem_cons.1 h with rfl | h
      · refine ⟨List.mem_cons_self, fun e => ?_, named_false hb.2⟩
        have := hb.1
        rw [e] at this
        simp at this
      · obtain ⟨h1, h2⟩ := ih h
        exact ⟨List.mem_cons_of_mem _ h1, h2⟩

theorem put_getD_ne {a : Act} {d t : Nat} {v : Value} (h : t ≠ d) : (a.put (some d) v).tmps.getD t undef = a.tmps.getD t undef := by
  simp only [Act.put, Array.getD_eq_getD_getElem?]
  rw [Array.getElem?_setIfInBounds, if_neg (fun e => h e.symm)]

theorem put_getD_eq {a : Act} {d : Nat} {v : Value} (h : d < a.tmps.size) : (a.put (some d) v).tmps.getD d undef = v := by
  simp only [Act.put, Array.getD_eq_getD_getElem?]
  rw [Array.getElem?_setIfInBounds, if_pos rfl, if_pos h]
  rfl

theorem Holds.put {a : Act} {d : Nat} {v : Value} {cs : Conds} (hn : ∀ p ∈ cs, p.1 ≠ d) : Holds (a.put (some d) v) cs ↔ Holds a cs := by
  constructor
  · intro h p hp; rw [← h p hp, put_getD_ne (hn p hp)]
  · intro h p hp; rw [put_getD_ne (hn p hp)]; exact h p hp

theorem agree_strike {E : Env} {a : Act} (h : Agree E a) (d : Nat) (v : Value) : Agree (strike E d) (a.put (some d) v) := by
  intro e he
  obtain ⟨h1, h2, h3⟩ := strike_mem he
  rw [put_getD_ne h2, Holds.put h3]
  exact h e h1

theorem agree_put {E : Env} {a : Act} (h : Agree E a) {d : Nat} (hd : d < a.tmps.size) {C : Conds} {v v' : Value} (hn : named C d = false) (hv : (Holds a C ∧ v' = v) ∨ (¬ Holds a C ∧ v' = undef)) : Agree (putE E d C v) (a.put (some d) v') := by
  intro e he
  rcases List.mem_cons.1 he with rfl | he
  · rw [put_getD_eq hd, Holds.put (named_false hn)]
    exact hv
  · exact agree_strike h d v' e he

theorem put_size (a : Act) (d : Option Nat) (v : Value) : (a.put d v).tmps.size = a.tmps.size := by
  cases d with
  | none => rfl
  | some d => simp [Act.put]

theorem put_defers (a : Act) (d : Option Nat) (v : Value) : (a.put d v).defers = a.defers := by
  cases d <;> rfl

/-! ## What an operation does hangs on its operands alone -/

def opKnown : Op → Bool
  | .move _ | .assign _ | .alloc _ | .box _ _ | .build _ _ | .buildSlice _ _ _ | .load _ _ | .store _ _ _ | .nilCheck _ | .binOp _ _ _ _ _ | .unOp _ _ _ | .convert _ _ _
  | .makeFunc _ _ _ | .makeSlice _ _ _ | .slice _ _ _ _ _ | .fieldAddr _ _ _ | .field _ _ _ | .indexAddr _ _ _ | .index _ _ _ | .extract _ _ | .call _ => true
  | _ => false

theorem map_parts {ρ ρ' : Operand → Value} (ps : Array (Nat × Operand)) (h : ∀ x ∈ (ps.toList.map (·.2)), ρ x = ρ' x) : ps.map (fun (i, x) => (i, ρ x)) = ps.map (fun (i, x) => (i, ρ' x)) := by
  apply Array.map_congr_left
  intro p hp
  have := h p.2 (List.mem_map_of_mem (Array.mem_toList_iff.2 hp))
  obtain ⟨i, x⟩ := p
  show (i, ρ x) = (i, ρ' x)
  rw [this]

theorem execOp_congr {ρ ρ' : Operand → Value} (o : Oper) (hk : opKnown o.op = true) (h : ∀ x ∈ o.op.operands.toList, ρ x = ρ' x) : execOp ρ o = execOp ρ' o := by
  obtain ⟨dst, op, type, pos, after, guard⟩ := o
  cases op with
  | build t ps =>
    simp only [execOp]
    rw [map_parts ps (by simpa [Op.operands] using h)]
  | buildSlice t n ps =>
    simp only [execOp]
    rw [map_parts ps (by simpa [Op.operands] using h)]
  | slice t x lo hi mx =>
    simp only [execOp]
    have hx : ρ x = ρ' x := h x (by simp [Op.operands])
    have hl : lo.map ρ = lo.map ρ' := by cases lo with
      | none => rfl
      | some y => simp [h y (by simp [Op.operands])]
    have hh : hi.map ρ = hi.map ρ' := by cases hi with
      | none => rfl
      | some y => simp [h y (by simp [Op.operands])]
    have hm : mx.map ρ = mx.map ρ' := by cases mx with
      | none => rfl
      | some y => simp [h y (by simp [Op.operands])]
    rw [hx, hl, hh, hm]
  | makeFunc fn f c =>
    simp only [execOp]
    have h1 : f.map ρ = f.map ρ' := Array.map_congr_left fun x hx => h x (by simp [Op.operands, hx])
    have h2 : c.map ρ = c.map ρ' := Array.map_congr_left fun x hx => h x (by simp [Op.operands, hx])
    rw [h1, h2]
  | call c =>
    simp only [execOp, resolve]
    have h1 : c.args.map ρ = c.args.map ρ' := Array.map_congr_left fun x hx => h x (by simp [Op.operands, Call.operands, hx])
    rw [h1]
    cases hc : c.callee with
    | value f => have e := h f (by simp [Op.operands, Call.operands, hc]); simp only [e]
    | invoke r m => have e := h r (by simp [Op.operands, Call.operands, hc]); simp only [e]
    | builtin b => rfl
  | _ =>
    first
      | (simp only [execOp]; done)
      | (simp [opKnown] at hk; done)
      | (simp only [execOp]; simp only [Op.operands, List.mem_cons, List.not_mem_nil, or_false, forall_eq_or_imp, forall_eq] at h; first | rw [h] | (obtain ⟨h1, h2⟩ := h; rw [h1, h2]))
      | skip

end Go.Proofs.YtlnecfdbmoilbaaDoor.K
