/-
  Rows of values in blocks, told by functions.
-/
import Derived.Test.YtlnecfdbmoilbaaDoorKj
import Derived.Test.YtlnecfdbmoilbaaDoorBt
namespace Go.Proofs.YtlnecfdbmoilbaaDoor.K
set_option linter.unusedSimpArgs false
set_option linter.unusedVariables false

theorem u64s_rel (ws : Nat → Nat) (o i : Nat) : u64s ws o (o + i * 1) = .int .u64 (ws i : Int) := by unfold u64s; rw [Nat.mul_one, Nat.add_sub_cancel_left]
theorem u64s_abs (ws : Nat → Nat) (i : Nat) : u64s ws 0 i = .int .u64 (ws i : Int) := rfl
theorem u64s_putv (ws : Nat → Nat) (j v o : Nat) : u64s (putW ws j v) 0 o = if o = j then Value.int .u64 (v : Int) else u64s ws 0 o := (congrFun (u64s_put ws j v) o).symm

def boolsV (p : Nat → Bool) (o x : Nat) : Value := .bool (p (x - o))
def putB (p : Nat → Bool) (i : Nat) (b : Bool) (x : Nat) : Bool := if x = i then b else p x
theorem boolsV_put (p : Nat → Bool) (i : Nat) (b : Bool) : (fun x => if x = i then Value.bool b else boolsV p 0 x) = boolsV (putB p i b) 0 := by
  funext x; unfold boolsV putB; simp only [Nat.sub_zero]; split <;> rfl
theorem boolsV_rel (p : Nat → Bool) (o i : Nat) : boolsV p o (o + i * 1) = .bool (p i) := by unfold boolsV; rw [Nat.mul_one, Nat.add_sub_cancel_left]
theorem boolsV_abs (p : Nat → Bool) (i : Nat) : boolsV p 0 i = .bool (p i) := rfl
theorem boolsV_putv (p : Nat → Bool) (i : Nat) (b : Bool) (o : Nat) : boolsV (putB p i b) 0 o = if o = i then Value.bool b else boolsV p 0 o := (congrFun (boolsV_put p i b) o).symm

def strs (s : Nat → ByteArray) (o x : Nat) : Value := .string (s (x - o))
def putS (s : Nat → ByteArray) (i : Nat) (b : ByteArray) (x : Nat) : ByteArray := if x = i then b else s x
theorem strs_rel (s : Nat → ByteArray) (o i : Nat) : strs s o (o + i * 1) = .string (s i) := by unfold strs; rw [Nat.mul_one, Nat.add_sub_cancel_left]
theorem strs_abs (s : Nat → ByteArray) (i : Nat) : strs s 0 i = .string (s i) := rfl
theorem strs_putv (s : Nat → ByteArray) (i : Nat) (b : ByteArray) (o : Nat) : strs (putS s i b) 0 o = if o = i then Value.string b else strs s 0 o := by
  unfold strs putS; simp only [Nat.sub_zero]; split <;> rfl

def bytes (f : Nat → UInt8) (o x : Nat) : Value := .int .u8 ((f (x - o)).toNat : Int)
theorem bytes_rel (f : Nat → UInt8) (o i : Nat) : bytes f o (o + i * 1) = .int .u8 ((f i).toNat : Int) := by unfold bytes; rw [Nat.mul_one, Nat.add_sub_cancel_left]
theorem bytes_abs (f : Nat → UInt8) (i : Nat) : bytes f 0 i = .int .u8 ((f i).toNat : Int) := rfl

theorem ints_rel (l : List Int) (o i : Nat) : ints l o (o + i * 1) = .int .i64 (l.getD i 0) := by unfold ints; rw [Nat.mul_one, Nat.add_sub_cancel_left]
theorem ints_abs (l : List Int) (i : Nat) : ints l 0 i = .int .i64 (l.getD i 0) := rfl

theorem dbT_rel (i : Nat) : dbT (0 + i * 1) = .int .u8 (dbL.getD i 0) := by unfold dbT; rw [Nat.mul_one, Nat.zero_add]

def zerosI : Nat → Value := fun _ => .int .i64 0
def zerosP : Nat → Value := fun _ => .pointer none

theorem agg1 {a a' : Value} (h : a = a') : Value.agg #[a] = .agg #[a'] := by rw [h]
theorem agg3 {a b c a' b' c' : Value} (h1 : a = a') (h2 : b = b') (h3 : c = c') : Value.agg #[a, b, c] = .agg #[a', b', c'] := by rw [h1, h2, h3]
theorem agg4 {a b c d a' b' c' d' : Value} (h1 : a = a') (h2 : b = b') (h3 : c = c') (h4 : d = d') : Value.agg #[a, b, c, d] = .agg #[a', b', c', d'] := by rw [h1, h2, h3, h4]
theorem agg5 {a b c d e a' b' c' d' e' : Value} (h1 : a = a') (h2 : b = b') (h3 : c = c') (h4 : d = d') (h5 : e = e') : Value.agg #[a, b, c, d, e] = .agg #[a', b', c', d', e'] := by rw [h1, h2, h3, h4, h5]
theorem agg6 {a b c d e f a' b' c' d' e' f' : Value} (h1 : a = a') (h2 : b = b') (h3 : c = c') (h4 : d = d') (h5 : e = e') (h6 : f = f') : Value.agg #[a, b, c, d, e, f] = .agg #[a', b', c', d', e', f'] := by rw [h1, h2, h3, h4, h5, h6]
theorem tuple4 {a b c d a' b' c' d' : Value} (h1 : a = a') (h2 : b = b') (h3 : c = c') (h4 : d = d') : Value.tuple #[a, b, c, d] = .tuple #[a', b', c', d'] := by rw [h1, h2, h3, h4]
theorem tuple5 {a b c d e a' b' c' d' e' : Value} (h1 : a = a') (h2 : b = b') (h3 : c = c') (h4 : d = d') (h5 : e = e') : Value.tuple #[a, b, c, d, e] = .tuple #[a', b', c', d', e'] := by rw [h1, h2, h3, h4, h5]

theorem HE.cells_eq {w : World} {b : Nat} {cs cs' : List Value} {T : TypeId} (h : HE.holds w b (.cells cs T)) (e : cs = cs') : HE.holds w b (.cells cs' T) := e ▸ h
theorem HE.row_eq {w : World} {b : Nat} {e : TypeId} {n tot : Nat} {f g : Nat → Value} (h : HE.holds w b (.row e n tot f)) (hg : ∀ o, o < n → g o = f o) : HE.holds w b (.row e n tot g) := by
  obtain ⟨c, h1, h2, h3, h4⟩ := h
  exact ⟨c, h1, h2, h3, fun o ho => (h4 o ho).trans (congrArg some (hg o ho).symm)⟩
theorem res_eq {w : World} {r r' : Res} (e : r = r') (h : r.R w) : r'.R w := e ▸ h
theorem ar_eq {w : World} {b : Nat} {F : Nat → Prop} {m m' : AM} (e : m = m') (h : Ar w ⟨b, F, m⟩) : Ar w ⟨b, F, m'⟩ := e ▸ h

theorem quo2_u64 {x d : Int} (h0 : 0 ≤ x) (h1 : x ≤ 18446744073709551615) (hd : 1 ≤ d) : d ≠ 0 ∧ IntKind.u64.wrap (Int.tdiv x d) = x / d := by
  refine ⟨by omega, ?_⟩
  rw [Int.tdiv_eq_ediv_of_nonneg h0]
  have h2 : 0 ≤ x / d := Int.ediv_nonneg h0 (by omega)
  have h3 : x / d ≤ x := Int.ediv_le_self d h0
  exact u64_in (by omega)
theorem quo2_n_u64 {x d : Nat} (h : x < 2 ^ 64) (hd : 1 ≤ d) : (d : Int) ≠ 0 ∧ IntKind.u64.wrap (Int.tdiv (x : Int) (d : Int)) = ((x / d : Nat) : Int) := by
  have h1 := quo2_u64 (x := (x : Int)) (d := (d : Int)) (by omega) (by omega) (by omega)
  exact ⟨h1.1, h1.2.trans (by rw [Int.natCast_ediv])⟩
theorem rem2_n {x d : Nat} (h : True) (hd : 1 ≤ d) : (d : Int) ≠ 0 ∧ Int.tmod (x : Int) (d : Int) = ((x % d : Nat) : Int) :=
  ⟨by omega, by rw [Int.tmod_eq_emod_of_nonneg (by omega), Int.natCast_emod]⟩
theorem shl2_i64 {a b : Int} (h0 : 0 ≤ b) (h1 : b ≤ 62) (h2 : 0 ≤ a ∧ a * 2 ^ b.toNat ≤ 9223372036854775807) : 0 ≤ b ∧ IntKind.i64.wrap (a * 2 ^ (min (Int.toNat b) 64)) = a * 2 ^ b.toNat := by
  refine ⟨h0, ?_⟩
  rw [show min (Int.toNat b) 64 = b.toNat by omega]
  refine i64_in ⟨?_, h2.2⟩
  have := Int.mul_nonneg h2.1 (Int.le_of_lt (Int.pow_pos (n := 2) (by decide) : (0 : Int) < 2 ^ b.toNat))
  omega
theorem shr2_i64 {a b : Int} (h0 : 0 ≤ b) (h1 : b ≤ 63) (h2 : True) : 0 ≤ b ∧ Int.fdiv a (2 ^ (min (Int.toNat b) 64)) = a / 2 ^ b.toNat := by
  refine ⟨h0, ?_⟩
  rw [show min (Int.toNat b) 64 = b.toNat by omega]
  exact Int.fdiv_eq_ediv_of_nonneg _ (Int.le_of_lt (Int.pow_pos (by decide)))

theorem zf_all {P : Program} {t : TypeId} {n : Nat} {v : Value} (h : ((P.info? t).bind fun i => i.zero) = some (.agg (Array.replicate n v))) (o : Nat) (ho : o < n) : v = zf P t o := by
  unfold zf
  cases hi : P.info? t with
  | none => rw [hi] at h; cases h
  | some i =>
    rw [hi] at h
    have h : i.zero = some _ := h
    simp only [h, Value.cells]
    simp [Array.getD_eq_getD_getElem?, ho]

end Go.Proofs.YtlnecfdbmoilbaaDoor.K
