/-
  A walk by computing, third part: operations that ask something of their operands; one operation under its guard; a row of operations.
-/
import Derived.Test.YtlnecfdbmoilbaaDoorKb
import Derived.Laws.Slices
namespace Go.Proofs.YtlnecfdbmoilbaaDoor.K
set_option linter.unusedSimpArgs false
set_option linter.unusedVariables false

/-- The byte at a place of a string. -/
def bat (s : ByteArray) (i : Int) : Int := ((s.data.toList.getD i.toNat 0).toNat : Int)

def sadd (cap l off size : Nat) : Nat := if cap = l then off else off + l * size

def optInt (ρ : Operand → Value) (d : Int) : Option Operand → Option Int
  | none => some d
  | some x => match ρ x with
    | .int _ n => some n
    | _ => none

/-- A number of a kind, as it is. -/
def fit (k : IntKind) (x : Int) : Prop := k.wrap x = x

def natOp : BinOp → Nat → Nat → Option Nat
  | .and, x, y => some (x &&& y)
  | .or, x, y => some (x ||| y)
  | .xor, x, y => some (x ^^^ y)
  | _, _, _ => none

def bitRaw (op : BinOp) (k : IntKind) (a b : Int) : Int := match op with
  | .and => k.wrap ((BitVec.ofInt k.bits a &&& BitVec.ofInt k.bits b).toNat : Int)
  | .or => k.wrap ((BitVec.ofInt k.bits a ||| BitVec.ofInt k.bits b).toNat : Int)
  | _ => k.wrap ((BitVec.ofInt k.bits a ^^^ BitVec.ofInt k.bits b).toNat : Int)

/-- Operations on numbers whose answer is told cleanly: what is to be shown says that it is so. -/
def clean2 : BinOp → IntKind → Int → IntKind → Int → Option (Value × List Prop)
  | .shl, k, a, _, b => some (.int k (a * 2 ^ b.toNat), [0 ≤ b ∧ k.wrap (a * 2 ^ (min b.toNat k.bits)) = a * 2 ^ b.toNat])
  | .shr, k, a, _, b => some (.int k (a / 2 ^ b.toNat), [0 ≤ b ∧ a.fdiv (2 ^ (min b.toNat k.bits)) = a / 2 ^ b.toNat])
  | op, k, a, k', b => match decide (k = k') with
    | false => none
    | true => match op with
      | .add => some (.int k (a + b), [fit k (a + b)])
      | .sub => some (.int k (a - b), [fit k (a - b)])
      | .mul => some (.int k (a * b), [fit k (a * b)])
      | .quo => some (.int k (a / b), [b ≠ 0 ∧ k.wrap (a.tdiv b) = a / b])
      | .rem => some (.int k (a % b), [b ≠ 0 ∧ a.tmod b = a % b])
      | op => match a, b with
        | .ofNat x, .ofNat y => match natOp op x y with
          | some z => some (.int k (.ofNat z), [bitRaw op k (.ofNat x) (.ofNat y) = .ofNat z])
          | none => none
        | _, _ => none

/-- Operations whose answer hangs on a test of their operands: the answer, and what is to be shown. -/
def special (P : Program) (m : Nat) (ρ : Operand → Value) : Op → Option (Value × List Prop)
  | .indexAddr t x i => match P.underlying t, ρ x, ρ i with
    | some (.slice e), .slice (some a) len _, .int _ n => match a.spot, m with
      | none, 1 => match Nat.beq a.off 0, Nat.beq (P.cellsOf e) 1, P.info? e with
        | true, true, some _ => some (.pointer (some ⟨a.block, n.toNat, none⟩), [0 ≤ n ∧ n < (len : Int)])
        | _, _, _ => none
      | none, 2 => match P.info? e with
        | some _ => some (.pointer (some ⟨a.block, a.off + n.toNat * P.cellsOf e, none⟩), [0 ≤ n ∧ n < (len : Int)])
        | none => none
      | _, _ => none
    | some (.array len e), .pointer (some a), .int _ n => match a.spot, m with
      | none, 3 => match P.info? e with
        | some _ => some (.pointer (some ⟨a.block, a.off + n.toNat * P.cellsOf e, none⟩), [0 ≤ n ∧ n < (len : Int)])
        | none => none
      | _, _ => none
    | _, _, _ => none
  | .index t x i => match P.underlying t, ρ x, ρ i with
    | some .string, .string s, .int _ n => match m with
      | 1 => some (.int .u8 (bat s n), [0 ≤ n ∧ n < (s.size : Int)])
      | _ => none
    | _, _, _ => none
  | .binOp op _ x y _ => match op, ρ x, ρ y, m with
    | .quo, .int k a, .int k' b, 1 => match decide (k = k') with
      | true => some (.int k (k.wrap (a.tdiv b)), [b ≠ 0])
      | false => none
    | .rem, .int k a, .int k' b, 1 => match decide (k = k') with
      | true => some (.int k (a.tmod b), [b ≠ 0])
      | false => none
    | .shl, .int k a, .int _ b, 1 => some (.int k (k.wrap (a * 2 ^ (min b.toNat k.bits))), [0 ≤ b])
    | .shr, .int k a, .int _ b, 1 => some (.int k (a.fdiv (2 ^ (min b.toNat k.bits))), [0 ≤ b])
    | .add, .string a, .string b, 1 => some (.string (a ++ b), [((a.size + b.size : Nat) : Int) ≤ IntKind.i64.max])
    | op, .int k a, .int k' b, 2 => clean2 op k a k' b
    | _, _, _, _ => none
  | .convert src dst x => match P.underlying src, P.underlying dst, ρ x, m with
    | some _, some (.int k), .int _ n, 2 => some (.int k n, [fit k n])
    | _, _, _, _ => none
  | .slice t x lo hi none => match P.underlying t, ρ x with
    | some .string, .string s => match m, optInt ρ 0 lo, optInt ρ (s.size : Int) hi with
      | 1, some l, some h => some (.string (s.extract l.toNat h.toNat), [0 ≤ l ∧ l ≤ h ∧ h ≤ (s.size : Int)])
      | _, _, _ => none
    | some (.slice e), .slice o len cap => match P.info? e, m, optInt ρ 0 lo, optInt ρ (len : Int) hi with
      | some _, 1, some l, some h => match o with
        | some a => match a.spot with
          | none => some (.slice (some ⟨a.block, sadd cap l.toNat a.off (P.cellsOf e), none⟩) (h.toNat - l.toNat) (cap - l.toNat), [0 ≤ l ∧ l ≤ h ∧ h ≤ (cap : Int) ∧ len ≤ cap])
          | some _ => none
        | none => none
      | some _, 2, some l, some h => match lo with
        | none => some (.slice o h.toNat cap, [0 ≤ h ∧ h ≤ (cap : Int) ∧ len ≤ cap ∧ l = 0])
        | some _ => none
      | _, _, _, _ => none
    | _, _ => none
  | _ => none

theorem run_underlying {P : Program} {t : TypeId} {d : TypeDesc} (h : P.underlying t = some d) (w : World) : (underlying t).run P w = .ok d w := by
  simp [underlying, program, bind, Sem.bind, Sem.run, h, pure]

theorem runBind {α β : Type} {P : Program} {m : Sem α} {f : α → Sem β} {w w' : World} {x : α} (h : m.run P w = .ok x w') : (m >>= f).run P w = (f x).run P w' := by
  show (Sem.bind m f).run P w = _
  rw [Sem.run_bind', h]
  rfl

theorem underlying_bind {α : Type} {P : Program} {t : TypeId} {d : TypeDesc} (h : P.underlying t = some d) (f : TypeDesc → Sem α) (w : World) : (underlying t >>= f).run P w = (f d).run P w := by
  simp [underlying, program, bind, Sem.bind, Sem.run, h, pure]

theorem sizeOf_bind {α : Type} {P : Program} {t : TypeId} {i : TypeInfo} (h : P.info? t = some i) (f : Nat → Sem α) (w : World) : (sizeOf t >>= f).run P w = (f i.size).run P w := by
  simp [sizeOf, typeInfo, program, bind, Sem.bind, Sem.run, h, pure]

theorem addr_add (a : Addr) (h : a.spot = none) (n : Nat) : a.add n = ⟨a.block, a.off + n, none⟩ := by
  obtain ⟨b, o, s⟩ := a
  simp only at h
  subst h
  unfold Addr.add
  split <;> simp_all

theorem sliceBound_run {k : IntKind} {n : Int} {y : Nat} {code : BoundsCode} (h : 0 ≤ n ∧ n ≤ (y : Int)) : Instr.sliceBound (.int k n) y code = pure n.toNat := by
  simp only [Instr.sliceBound, asIntOf]
  show (if 0 ≤ n ∧ n ≤ (y : Int) then (pure n.toNat : Sem Nat) else _) = _
  rw [if_pos h]

theorem optInt_map {ρ : Operand → Value} {d n : Int} {x : Option Operand} (h : optInt ρ d x = some n) : (x = none ∧ n = d) ∨ ∃ k, x.map ρ = some (.int k n) := by
  cases x with
  | none => exact .inl ⟨rfl, by simpa [optInt] using h.symm⟩
  | some y =>
    simp only [optInt] at h
    split at h
    · rename_i k m hm
      obtain rfl := Option.some.inj h
      exact .inr ⟨k, by simp [hm]⟩
    · simp at h

theorem sliceBounds_run {ρ : Operand → Value} {b : Bool} {len cap : Nat} {lo hi : Option Operand} {l h : Int} (hlen : len ≤ cap) (hl : optInt ρ 0 lo = some l) (hh : optInt ρ (len : Int) hi = some h) (H : 0 ≤ l ∧ l ≤ h ∧ h ≤ (cap : Int)) :
    Instr.sliceBounds b len cap (lo.map ρ) (hi.map ρ) none = pure (l.toNat, h.toNat, cap) := by
  unfold Instr.sliceBounds
  simp only [pure_bind]
  rcases optInt_map hh with ⟨rfl, rfl⟩ | ⟨k, e⟩
  · rcases optInt_map hl with ⟨rfl, rfl⟩ | ⟨k', e'⟩
    · rfl
    · rw [e']
      simp only [Option.map_none]
      rw [sliceBound_run (by omega)]
      rfl
  · rw [e]
    simp only []
    rw [sliceBound_run (by omega)]
    simp only [pure_bind]
    rcases optInt_map hl with ⟨rfl, rfl⟩ | ⟨k', e'⟩
    · rfl
    · rw [e']
      simp only []
      rw [sliceBound_run (by omega)]
      simp only [pure_bind]


theorem indexAt_bind {α : Type} {P : Program} {t e : TypeId} {i : TypeInfo} {a : Addr} {len cap : Nat} {k : IntKind} {n : Int} (ht : P.underlying t = some (.slice e)) (hi : P.info? e = some i) (hs : a.spot = none) (hr : 0 ≤ n ∧ n < (len : Int)) (f : Value → Sem α) (w : World) :
    (Instr.indexAt t (.slice (some a) len cap) (.int k n) >>= f).run P w = (f (.pointer (some ⟨a.block, a.off + n.toNat * i.size, none⟩))).run P w := by
  unfold Instr.indexAt
  simp only [asIntOf, pure_bind, bind_assoc]
  rw [underlying_bind ht]
  simp only [pure_bind, bind_assoc]
  rw [underlying_bind ht]
  simp only [hr, and_self, if_true, bind_assoc]
  rw [sizeOf_bind hi, addr_add a hs]
  simp only [pure_bind]

theorem indexAt_bind_array {α : Type} {P : Program} {t e : TypeId} {i : TypeInfo} {a : Addr} {len : Nat} {k : IntKind} {n : Int} (ht : P.underlying t = some (.array len e)) (hi : P.info? e = some i) (hs : a.spot = none) (hr : 0 ≤ n ∧ n < (len : Int)) (f : Value → Sem α) (w : World) :
    (Instr.indexAt t (.pointer (some a)) (.int k n) >>= f).run P w = (f (.pointer (some ⟨a.block, a.off + n.toNat * i.size, none⟩))).run P w := by
  unfold Instr.indexAt
  simp only [asIntOf, pure_bind, bind_assoc]
  rw [underlying_bind ht]
  simp only [Instr.sureAddr, pure_bind, bind_assoc]
  rw [underlying_bind ht]
  simp only [hr, and_self, if_true, bind_assoc]
  rw [sizeOf_bind hi, addr_add a hs]
  simp only [pure_bind]

theorem clean2_sound {P : Program} {op : BinOp} {k k' : IntKind} {a b : Int} {v : Value} {l : List Prop} (h : clean2 op k a k' b = some (v, l)) (hl : AllP l) (w : World) (t : TypeId) : (binOp op t (.int k a) (.int k' b)).run P w = .ok v w ∧ op ≠ .eql ∧ op ≠ .neq := by
  unfold clean2 at h
  split at h
  · simp only [Option.some.injEq, Prod.mk.injEq] at h
    obtain ⟨rfl, rfl⟩ := h
    obtain ⟨⟨h0, h1⟩, _⟩ := hl
    have hb : ¬ b < 0 := by omega
    simp [binOp, Op.shift, hb, pure, h1]
  · simp only [Option.some.injEq, Prod.mk.injEq] at h
    obtain ⟨rfl, rfl⟩ := h
    obtain ⟨⟨h0, h1⟩, _⟩ := hl
    have hb : ¬ b < 0 := by omega
    simp [binOp, Op.shift, hb, pure, h1]
  · split at h
    · simp at h
    · rename_i hk
      have hk := of_decide_eq_true hk
      subst hk
      split at h
      · simp only [Option.some.injEq, Prod.mk.injEq] at h
        obtain ⟨rfl, rfl⟩ := h
        have h1 : k.wrap (a + b) = a + b := hl.1
        simp [binOp, Op.intArith, pure, h1]
      · simp only [Option.some.injEq, Prod.mk.injEq] at h
        obtain ⟨rfl, rfl⟩ := h
        have h1 : k.wrap (a - b) = a - b := hl.1
        simp [binOp, Op.intArith, pure, h1]
      · simp only [Option.some.injEq, Prod.mk.injEq] at h
        obtain ⟨rfl, rfl⟩ := h
        have h1 : k.wrap (a * b) = a * b := hl.1
        simp [binOp, Op.intArith, pure, h1]
      · simp only [Option.some.injEq, Prod.mk.injEq] at h
        obtain ⟨rfl, rfl⟩ := h
        obtain ⟨⟨h0, h1⟩, _⟩ := hl
        simp [binOp, Op.intDiv, bind, Sem.bind, pure, h0, h1]
      · simp only [Option.some.injEq, Prod.mk.injEq] at h
        obtain ⟨rfl, rfl⟩ := h
        obtain ⟨⟨h0, h1⟩, _⟩ := hl
        simp [binOp, Op.intDiv, bind, Sem.bind, pure, h0, h1]
      · split at h
        · rename_i x y
          split at h
          · rename_i z hz
            simp only [Option.some.injEq, Prod.mk.injEq] at h
            obtain ⟨rfl, rfl⟩ := h
            have h1 := hl.1
            cases op <;> simp only [natOp, Option.some.injEq, reduceCtorEq] at hz <;> subst hz <;> simp only [bitRaw] at h1 <;> simp only [binOp, Op.intBits, ne_eq, not_true_eq_false, if_false, pure, Sem.run, h1, reduceCtorEq, not_false_eq_true, and_self, and_true]
          · simp at h
        · simp at h

theorem special_sound {P : Program} {m : Nat} {ρ : Operand → Value} {o : Oper} {v : Value} {l : List Prop} (h : special P m ρ o.op = some (v, l)) (hl : AllP l) (w : World) : (execOp ρ o).run P w = .ok (.value v) w := by
  obtain ⟨dst, op, type, pos, after, guard⟩ := o
  dsimp only at h
  cases op with
  | indexAddr t x i =>
    simp only [special] at h
    simp only [execOp]
    split at h
    · rename_i e a len cap k n ht hx hi
      rw [hx, hi]
      split at h
      · rename_i hs
        split at h
        · rename_i h1 h2 h3
          simp only [Option.some.injEq, Prod.mk.injEq] at h
          obtain ⟨rfl, rfl⟩ := h
          rw [indexAt_bind ht h3 hs hl.1]
          have o0 := Nat.eq_of_beq_eq_true h1
          have s1 := Nat.eq_of_beq_eq_true h2
          simp only [Program.cellsOf, h3, Option.map_some, Option.getD_some] at s1
          rw [o0, s1, Nat.zero_add, Nat.mul_one]
          rfl
        · simp at h
      · rename_i hs
        split at h
        · rename_i h3
          simp only [Option.some.injEq, Prod.mk.injEq] at h
          obtain ⟨rfl, rfl⟩ := h
          rw [indexAt_bind ht h3 hs hl.1]
          simp only [Program.cellsOf, h3]
          rfl
        · simp at h
      · simp at h
    · rename_i len e a k n ht hx hi
      rw [hx, hi]
      split at h
      · rename_i hs
        split at h
        · rename_i h3
          simp only [Option.some.injEq, Prod.mk.injEq] at h
          obtain ⟨rfl, rfl⟩ := h
          rw [indexAt_bind_array ht h3 hs hl.1]
          simp only [Program.cellsOf, h3]
          rfl
        · simp at h
      · simp at h
    · simp at h
  | index t x i =>
    simp only [special] at h
    simp only [execOp, Instr.index]
    split at h
    · rename_i s k n ht hx hi
      split at h
      · simp only [Option.some.injEq, Prod.mk.injEq] at h
        obtain ⟨rfl, rfl⟩ := h
        obtain ⟨⟨h0, h1⟩, _⟩ := hl
        rw [hx, hi]
        simp only [asIntOf, pure_bind, bind_assoc]
        rw [underlying_bind ht]
        have hn : n.toNat < s.size := by omega
        have : s[n.toNat]? = some s[n.toNat] := getElem?_pos s n.toNat hn
        simp only [h0, if_true, this]
        have hb : (s[n.toNat].toNat : Int) = bat s n := by
          unfold bat
          have hd : n.toNat < s.data.toList.length := by simpa using hn
          rw [List.getD_eq_getElem?_getD, List.getElem?_eq_getElem hd]
          rfl
        rw [hb]
        rfl
      · simp at h
    · simp at h
  | binOp op xt x y yt =>
    simp only [special] at h
    simp only [execOp]
    split at h
    · rename_i k a k' b hx hy
      split at h
      · rename_i hk
        have hk := of_decide_eq_true hk
        subst hk
        simp only [Option.some.injEq, Prod.mk.injEq] at h
        obtain ⟨rfl, rfl⟩ := h
        rw [hx, hy]
        have hb : ¬ b = 0 := hl.1
        simp [eqGuard, binOp, Op.intDiv, hb, bind, Sem.bind, pure]
      · simp at h
    · rename_i k a k' b hx hy
      split at h
      · rename_i hk
        have hk := of_decide_eq_true hk
        subst hk
        simp only [Option.some.injEq, Prod.mk.injEq] at h
        obtain ⟨rfl, rfl⟩ := h
        rw [hx, hy]
        have hb : ¬ b = 0 := hl.1
        simp [eqGuard, binOp, Op.intDiv, hb, bind, Sem.bind, pure]
      · simp at h
    · rename_i k a k' b hx hy
      simp only [Option.some.injEq, Prod.mk.injEq] at h
      obtain ⟨rfl, rfl⟩ := h
      rw [hx, hy]
      have hb : ¬ b < 0 := by have := hl.1; omega
      simp [eqGuard, binOp, Op.shift, hb, bind, Sem.bind, pure]
    · rename_i k a k' b hx hy
      simp only [Option.some.injEq, Prod.mk.injEq] at h
      obtain ⟨rfl, rfl⟩ := h
      rw [hx, hy]
      have hb : ¬ b < 0 := by have := hl.1; omega
      simp [eqGuard, binOp, Op.shift, hb, bind, Sem.bind, pure]
    · rename_i a b hx hy
      simp only [Option.some.injEq, Prod.mk.injEq] at h
      obtain ⟨rfl, rfl⟩ := h
      rw [hx, hy]
      have hb : ¬ (((a.size + b.size : Nat) : Int) > IntKind.i64.max) := by have := hl.1; omega
      simp only [eqGuard, binOp, Op.stringOp, if_neg hb]
      rfl
    · rename_i op _ _ _ _ k a k' b hx hy
      rw [hx, hy]
      obtain ⟨h1, h2, h3⟩ := clean2_sound (P := P) h hl w xt
      have hg : (eqGuard op xt x y (.int k a) (.int k' b)).run P w = .ok () w := by cases op <;> simp_all [eqGuard, pure, Sem.run]
      have hq : (eqGuard op xt x y (.int k a) (.int k' b) >>= fun _ => binOp op xt (.int k a) (.int k' b)).run P w = .ok v w := by rw [runBind hg]; exact h1
      exact (runBind hq).trans rfl
    · simp at h
  | convert src dst x =>
    simp only [special] at h
    simp only [execOp]
    split at h
    · rename_i ts k k' n hs ht hx
      simp only [Option.some.injEq, Prod.mk.injEq] at h
      obtain ⟨rfl, rfl⟩ := h
      have h1 : k.wrap n = n := hl.1
      rw [hx]
      have : (convert src dst (.int k' n)).run P w = .ok (.int k n) w := by
        unfold convert
        rw [underlying_bind hs, underlying_bind ht]
        simp [Conv.intToInt, pure, Sem.run, h1]
      show (convert src dst (.int k' n) >>= fun v => pure (Next.value v)).run P w = _
      rw [runBind this]
      rfl
    · simp at h
  | slice t x lo hi mx =>
    cases mx with
    | some m => simp [special] at h
    | none =>
      simp only [special] at h
      simp only [execOp]
      split at h
      · rename_i s ht hx
        split at h
        · rename_i l hh h1 h2
          simp only [Option.some.injEq, Prod.mk.injEq] at h
          obtain ⟨rfl, rfl⟩ := h
          obtain ⟨H, _⟩ := hl
          rw [hx]
          simp only [Option.map_none, Instr.sliceAt, bind_assoc]
          rw [underlying_bind ht]
          simp only [Instr.slice, bind_assoc]
          rw [underlying_bind ht]
          simp only [Option.isSome_none, Bool.false_eq_true, if_false, pure_bind, bind_assoc]
          rw [sliceBounds_run (Nat.le_refl _) h1 h2 H]
          rfl
        · simp at h
      · rename_i e o len cap ht hx
        split at h
        · rename_i i l hh h1 h2 h3
          split at h
          · rename_i a
            split at h
            · rename_i hs
              simp only [Option.some.injEq, Prod.mk.injEq] at h
              obtain ⟨rfl, rfl⟩ := h
              obtain ⟨⟨g1, g2, g3, g4⟩, _⟩ := hl
              rw [hx]
              simp only [Option.map_none, Instr.sliceAt, bind_assoc]
              rw [underlying_bind ht]
              simp only [Instr.slice, bind_assoc]
              rw [underlying_bind ht]
              simp only [bind_assoc]
              rw [sliceBounds_run g4 h2 h3 ⟨g1, g2, g3⟩]
              simp only [pure_bind]
              rw [sizeOf_bind h1]
              have : (if cap = l.toNat then some a else (some a).map (·.add (l.toNat * i.size))) = some ⟨a.block, sadd cap l.toNat a.off (P.cellsOf e), none⟩ := by
                simp only [Option.map_some, addr_add a hs, sadd, Program.cellsOf, h1, Option.getD_some]
                split
                · obtain ⟨b, o, s⟩ := a; simp only at hs; subst hs; rfl
                · rfl
              rw [this]
              rfl
            · simp at h
          · simp at h
        · rename_i i l hh h1 h2 h3
          split at h
          · simp only [Option.some.injEq, Prod.mk.injEq] at h
            obtain ⟨rfl, rfl⟩ := h
            obtain ⟨⟨g2, g3, g4, rfl⟩, _⟩ := hl
            rw [hx]
            simp only [Option.map_none, Instr.sliceAt, bind_assoc]
            rw [underlying_bind ht]
            simp only [Instr.slice, bind_assoc]
            rw [underlying_bind ht]
            simp only [bind_assoc]
            have := sliceBounds_run (lo := none) (b := true) g4 h2 h3 ⟨Int.le_refl 0, g2, g3⟩
            rw [Option.map_none] at this
            rw [this]
            simp only [pure_bind]
            rw [sizeOf_bind h1]
            have : (if cap = (0 : Int).toNat then o else o.map (·.add ((0 : Int).toNat * i.size))) = o := by
              split
              · rfl
              · cases o <;> simp [Addr.add]
            rw [this]
            rfl
          · simp at h
        · simp at h
      · simp at h
  | _ => simp [special] at h

end Go.Proofs.YtlnecfdbmoilbaaDoor.K
