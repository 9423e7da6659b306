/-
  Rows of bits in words of 64, plainly.
-/
import Derived.Test.YtlnecfdbmoilbaaDoorKf
namespace Go.Proofs.YtlnecfdbmoilbaaDoor.K
set_option linter.unusedSimpArgs false

/-- Words in a row of cells, from a place on. -/
def u64s (ws : Nat → Nat) (o x : Nat) : Value := .int .u64 (ws (x - o) : Int)

theorem wrap_u64 (x : Int) : IntKind.u64.wrap x = x % 18446744073709551616 := by
  unfold IntKind.wrap
  simp [IntKind.signed, IntKind.bits]

theorem ofInt_nat64 (x : Nat) : BitVec.ofInt 64 (x : Int) = BitVec.ofNat 64 x := by simp

theorem bv_small {x : Nat} (h : x < 2 ^ 64) : (BitVec.ofNat 64 x).toNat = x := by
  rw [BitVec.toNat_ofNat, Nat.mod_eq_of_lt h]

theorem wrapU_nat {x : Nat} (h : x < 2 ^ 64) : IntKind.u64.wrap (x : Int) = x := by
  rw [wrap_u64]; omega

theorem iand_u {a b : Nat} (ha : a < 2 ^ 64) (hb : b < 2 ^ 64) : iand .u64 (a : Int) (b : Int) = ((a &&& b : Nat) : Int) := by
  unfold iand
  show IntKind.u64.wrap ((BitVec.ofInt 64 (a : Int) &&& BitVec.ofInt 64 (b : Int)).toNat : Int) = _
  rw [ofInt_nat64, ofInt_nat64, BitVec.toNat_and, bv_small ha, bv_small hb]
  have : a &&& b ≤ a := Nat.and_le_left
  exact wrapU_nat (by omega)

theorem ior_u {a b : Nat} (ha : a < 2 ^ 64) (hb : b < 2 ^ 64) : ior .u64 (a : Int) (b : Int) = ((a ||| b : Nat) : Int) := by
  unfold ior
  show IntKind.u64.wrap ((BitVec.ofInt 64 (a : Int) ||| BitVec.ofInt 64 (b : Int)).toNat : Int) = _
  rw [ofInt_nat64, ofInt_nat64, BitVec.toNat_or, bv_small ha, bv_small hb]
  exact wrapU_nat (Nat.or_lt_two_pow ha hb)

/-- a without the bits of m. -/
def without (a m : Nat) : Nat := (BitVec.ofNat 64 a &&& ~~~(BitVec.ofNat 64 m)).toNat

theorem without_lt (a m : Nat) : without a m < 2 ^ 64 := (BitVec.ofNat 64 a &&& ~~~(BitVec.ofNat 64 m)).isLt

theorem without_bit {a m i : Nat} (h : i < 64) : (without a m).testBit i = (a.testBit i && !m.testBit i) := by
  unfold without
  simp only [BitVec.testBit_toNat, BitVec.getLsbD_and, BitVec.getLsbD_not, BitVec.getLsbD_ofNat]
  simp [h]

theorem iandNot_u (a b : Nat) : iandNot .u64 (a : Int) (b : Int) = ((without a b : Nat) : Int) := by
  unfold iandNot
  show IntKind.u64.wrap ((BitVec.ofInt 64 (a : Int) &&& ~~~(BitVec.ofInt 64 (b : Int))).toNat : Int) = _
  rw [ofInt_nat64, ofInt_nat64]
  exact wrapU_nat (without_lt a b)

/-- All bits of a word turned round. -/
def flip (a : Nat) : Nat := 2 ^ 64 - 1 - a

theorem flip_lt (a : Nat) : flip a < 2 ^ 64 := by unfold flip; omega

theorem flip_bit {a i : Nat} (ha : a < 2 ^ 64) (h : i < 64) : (flip a).testBit i = !a.testBit i := by
  unfold flip
  rw [show 2 ^ 64 - 1 - a = 2 ^ 64 - (a + 1) by omega, Nat.testBit_two_pow_sub_succ ha]
  simp [h]

theorem ixor_ones {a : Nat} (ha : a < 2 ^ 64) : ixor .u64 18446744073709551615 (a : Int) = ((flip a : Nat) : Int) := by
  unfold ixor
  show IntKind.u64.wrap ((BitVec.ofInt 64 ((18446744073709551615 : Nat) : Int) ^^^ BitVec.ofInt 64 (a : Int)).toNat : Int) = _
  rw [ofInt_nat64, ofInt_nat64, BitVec.toNat_xor, bv_small ha, bv_small (by decide)]
  have e : 18446744073709551615 ^^^ a = flip a := by
    apply Nat.eq_of_testBit_eq
    intro i
    rw [Nat.testBit_xor]
    by_cases h : i < 64
    · rw [flip_bit ha h, show (18446744073709551615 : Nat) = 2 ^ 64 - 1 from rfl, Nat.testBit_two_pow_sub_one]
      simp [h]
    · have h1 : a.testBit i = false := Nat.testBit_lt_two_pow (Nat.lt_of_lt_of_le ha (Nat.pow_le_pow_right (by omega) (by omega)))
      have h2 : (flip a).testBit i = false := Nat.testBit_lt_two_pow (Nat.lt_of_lt_of_le (flip_lt a) (Nat.pow_le_pow_right (by omega) (by omega)))
      rw [h1, h2, show (18446744073709551615 : Nat) = 2 ^ 64 - 1 from rfl, Nat.testBit_two_pow_sub_one]
      simp [h]
  rw [e]
  exact wrapU_nat (flip_lt a)

theorem ixor_ones' {a : Nat} (ha : a < 2 ^ 64) : ixor .u64 (a : Int) 18446744073709551615 = ((flip a : Nat) : Int) := by
  rw [← ixor_ones ha]
  unfold ixor
  rw [BitVec.xor_comm]

/-- k bits from the r-th on. -/
def mkM (r k : Nat) : Nat := (2 ^ k - 1) * 2 ^ r

theorem mkM_bit (r k i : Nat) : (mkM r k).testBit i = (decide (r ≤ i) && decide (i < r + k)) := by
  unfold mkM
  rw [← Nat.shiftLeft_eq, Nat.testBit_shiftLeft, Nat.testBit_two_pow_sub_one]
  by_cases h : r ≤ i
  · have : i - r < k ↔ i < r + k := by omega
    simp [h, this]
  · simp [h]

theorem mkM_lt {r k : Nat} (h : r + k ≤ 64) : mkM r k < 2 ^ 64 := by
  unfold mkM
  have h1 : 2 ^ k * 2 ^ r ≤ 2 ^ 64 := by rw [← Nat.pow_add]; exact Nat.pow_le_pow_right (by omega) (by omega)
  have h2 : 1 ≤ 2 ^ k := Nat.one_le_two_pow
  have h3 : 1 ≤ 2 ^ r := Nat.one_le_two_pow
  have h4 : (2 ^ k - 1) * 2 ^ r = 2 ^ k * 2 ^ r - 2 ^ r := by rw [Nat.sub_mul, Nat.one_mul]
  have h5 : 2 ^ r ≤ 2 ^ k * 2 ^ r := Nat.le_mul_of_pos_left _ (by omega)
  omega

/-- The mask, as it is reckoned. -/
theorem mask_eq {x k : Int} (hr0 : 0 ≤ x) (hr : x < 64) (hk : 0 ≤ k) (hk2 : k + x ≤ 64) :
    IntKind.u64.wrap (IntKind.u64.wrap (IntKind.u64.wrap (1 * 2 ^ (min (Int.toNat k) 64)) - 1) * 2 ^ (min (Int.toNat x) 64)) = ((mkM x.toNat k.toNat : Nat) : Int) := by
  have e1 : min (Int.toNat k) 64 = k.toNat := by omega
  have e2 : min (Int.toNat x) 64 = x.toNat := by omega
  rw [e1, e2, ← wrapU_nat (mkM_lt (r := x.toNat) (k := k.toNat) (by omega))]
  simp only [wrap_u64]
  have h2 : 1 ≤ 2 ^ k.toNat := Nat.one_le_two_pow
  have e3 : ((mkM x.toNat k.toNat : Nat) : Int) = (2 ^ k.toNat - 1) * 2 ^ x.toNat := by
    unfold mkM
    rw [Int.natCast_mul, Int.natCast_sub h2]
    push_cast
    rfl
  rw [e3, Int.mul_emod ((2 : Int) ^ k.toNat - 1), Int.mul_emod ((1 * 2 ^ k.toNat % 18446744073709551616 - 1) % 18446744073709551616)]
  congr 2
  rw [Int.emod_emod_of_dvd _ (Int.dvd_refl _), Int.one_mul, Int.emod_sub_emod]

/-- What the places from f on, n of them, turned to b, give. -/
def setR (p : Nat → Bool) (f n : Nat) (b : Bool) (x : Nat) : Bool := if f ≤ x ∧ x < f + n then b else p x

theorem setR_zero (p : Nat → Bool) (f : Nat) (b : Bool) : setR p f 0 b = p := by
  funext x; unfold setR; rw [if_neg (by omega)]

theorem setR_setR (p : Nat → Bool) (f n m : Nat) (b : Bool) : setR (setR p f n b) (f + n) m b = setR p f (n + m) b := by
  funext x
  unfold setR
  by_cases h1 : f + n ≤ x ∧ x < f + n + m
  · rw [if_pos h1, if_pos (by omega)]
  · rw [if_neg h1]
    by_cases h2 : f ≤ x ∧ x < f + n
    · rw [if_pos h2, if_pos (by omega)]
    · rw [if_neg h2, if_neg (by omega)]

/-- One word turned. -/
def tOp (b : Bool) (a m : Nat) : Nat := if b then a ||| m else without a m
def putW (ws : Nat → Nat) (j v : Nat) (x : Nat) : Nat := if x = j then v else ws x

theorem tOp_bit {b : Bool} {a m i : Nat} (h : i < 64) : (tOp b a m).testBit i = if m.testBit i then b else a.testBit i := by
  unfold tOp
  cases b
  · simp only [Bool.false_eq_true, if_false]
    rw [without_bit h]
    cases a.testBit i <;> cases m.testBit i <;> rfl
  · simp only [if_true]
    rw [Nat.testBit_or]
    cases a.testBit i <;> cases m.testBit i <;> rfl

theorem tOp_lt {b : Bool} {a m : Nat} (ha : a < 2 ^ 64) (hm : m < 2 ^ 64) : tOp b a m < 2 ^ 64 := by
  unfold tOp
  cases b
  · exact without_lt a m
  · exact Nat.or_lt_two_pow ha hm

theorem Words.turn {ws : Nat → Nat} {nw n : Nat} {p : Nat → Bool} (h : Words ws nw n p) {f k : Nat} (b : Bool) (hk : f % 64 + k ≤ 64) (hn : f + k ≤ n) :
    Words (putW ws (f / 64) (tOp b (ws (f / 64)) (mkM (f % 64) k))) nw n (setR p f k b) := by
  refine ⟨h.many, fun j hj i hi => ?_, fun j hj => ?_⟩
  · unfold putW
    by_cases e : j = f / 64
    · subst e
      rw [if_pos rfl, tOp_bit hi, mkM_bit, h.bit _ hj i hi]
      unfold setR
      by_cases e2 : f % 64 ≤ i ∧ i < f % 64 + k
      · rw [if_pos (show f ≤ 64 * (f / 64) + i ∧ 64 * (f / 64) + i < f + k by omega)]
        have : 64 * (f / 64) + i < n := by omega
        simp [e2, this]
      · rw [if_neg (show ¬ (f ≤ 64 * (f / 64) + i ∧ 64 * (f / 64) + i < f + k) by omega), if_neg (by simpa using fun x => by omega)]
    · rw [if_neg e, h.bit j hj i hi]
      unfold setR
      rw [if_neg (by omega)]
  · unfold putW
    split
    · rename_i e
      subst e
      exact tOp_lt (h.small _ hj) (mkM_lt hk)
    · exact h.small j hj

theorem u64s_put (ws : Nat → Nat) (j v : Nat) : (fun x => if x = j then Value.int .u64 (v : Int) else u64s ws 0 x) = u64s (putW ws j v) 0 := by
  funext x
  unfold u64s putW
  simp only [Nat.sub_zero]
  split <;> rfl

/-! ## The next place at which a bit is so -/

def nxtGo (p : Nat → Bool) (v : Bool) : Nat → Nat → Nat
  | 0, i => i
  | f + 1, i => if p i == v then i else nxtGo p v f (i + 1)
/-- The least place from i on, below n, at which p is v; else n (or i, if that is more). -/
def nxt (p : Nat → Bool) (v : Bool) (n i : Nat) : Nat := nxtGo p v (n - i) i

theorem nxtGo_spec (p : Nat → Bool) (v : Bool) : ∀ f i, i ≤ nxtGo p v f i ∧ nxtGo p v f i ≤ i + f ∧ (nxtGo p v f i < i + f → p (nxtGo p v f i) = v) ∧ ∀ x, i ≤ x → x < nxtGo p v f i → p x ≠ v := by
  intro f
  induction f with
  | zero => intro i; simp only [nxtGo]; exact ⟨by omega, by omega, by omega, fun x h1 h2 => by omega⟩
  | succ f ih =>
    intro i
    simp only [nxtGo]
    split
    · rename_i h
      exact ⟨by omega, by omega, fun _ => by simpa using h, fun x h1 h2 => by omega⟩
    · rename_i h
      obtain ⟨h1, h2, h3, h4⟩ := ih (i + 1)
      refine ⟨by omega, by omega, fun hh => h3 (by omega), fun x hx hx2 => ?_⟩
      by_cases e : x = i
      · subst e; simpa using h
      · exact h4 x (by omega) hx2

theorem nxt_ge (p : Nat → Bool) (v : Bool) (n i : Nat) : i ≤ nxt p v n i := (nxtGo_spec p v _ _).1
theorem nxt_le (p : Nat → Bool) (v : Bool) {n i : Nat} (h : i ≤ n) : nxt p v n i ≤ n := by have := (nxtGo_spec p v (n - i) i).2.1; unfold nxt; omega
theorem nxt_hit {p : Nat → Bool} {v : Bool} {n i : Nat} (h : nxt p v n i < n) : p (nxt p v n i) = v := by
  have h1 := nxt_ge p v n i
  exact (nxtGo_spec p v (n - i) i).2.2.1 (by unfold nxt at h h1; omega)
theorem nxt_miss {p : Nat → Bool} {v : Bool} {n i x : Nat} (h1 : i ≤ x) (h2 : x < nxt p v n i) : p x ≠ v := (nxtGo_spec p v _ _).2.2.2 x h1 h2
theorem nxt_past {p : Nat → Bool} {v : Bool} {n i : Nat} (h : n ≤ i) : nxt p v n i = i := by unfold nxt; rw [show n - i = 0 by omega]; rfl
/-- What is next is told by what it is. -/
theorem nxt_is {p : Nat → Bool} {v : Bool} {n i x : Nat} (h1 : i ≤ x) (h2 : x < n) (h3 : p x = v) (h4 : ∀ y, i ≤ y → y < x → p y ≠ v) : nxt p v n i = x := by
  rcases Nat.lt_trichotomy (nxt p v n i) x with h | h | h
  · exact absurd (nxt_hit (by omega)) (h4 _ (nxt_ge p v n i) h)
  · exact h
  · exact absurd h3 (nxt_miss h1 h)
theorem nxt_none {p : Nat → Bool} {v : Bool} {n i : Nat} (h1 : i ≤ n) (h4 : ∀ y, i ≤ y → y < n → p y ≠ v) : nxt p v n i = n := by
  have h := nxt_le p v h1
  rcases Nat.lt_or_ge (nxt p v n i) n with h2 | h2
  · exact absurd (nxt_hit h2) (h4 _ (nxt_ge p v n i) h2)
  · omega
theorem nxt_skip {p : Nat → Bool} {v : Bool} {n i j : Nat} (h1 : i ≤ j) (h2 : j ≤ n) (h4 : ∀ y, i ≤ y → y < j → p y ≠ v) : nxt p v n i = nxt p v n j := by
  have h := nxt_le p v h2
  have hg := nxt_ge p v n j
  rcases Nat.lt_or_ge (nxt p v n j) n with h3 | h3
  · refine nxt_is (by omega) h3 (nxt_hit h3) fun y hy hy2 => ?_
    rcases Nat.lt_or_ge y j with h5 | h5
    · exact h4 y hy h5
    · exact nxt_miss h5 hy2
  · rw [show nxt p v n j = n by omega]
    refine nxt_none (by omega) fun y hy hy2 => ?_
    rcases Nat.lt_or_ge y j with h5 | h5
    · exact h4 y hy h5
    · exact nxt_miss (n := n) h5 (by omega)

/-! ## The lowest bit -/

theorem low_bit : ∀ x : Nat, 0 < x → ∃ t m, x = 2 ^ (t + 1) * m + 2 ^ t
  | 0, h => absurd h (by omega)
  | x + 1, _ => by
    rcases Nat.mod_two_eq_zero_or_one (x + 1) with h | h
    · obtain ⟨t, m, e⟩ := low_bit ((x + 1) / 2) (by omega)
      refine ⟨t + 1, m, ?_⟩
      have : x + 1 = 2 * ((x + 1) / 2) := by omega
      rw [this, e, Nat.pow_succ 2 (t + 1), Nat.pow_succ 2 t]
      generalize 2 ^ t = q
      rw [Nat.mul_add, Nat.mul_assoc, Nat.mul_assoc, Nat.mul_assoc]
      have : q * 2 = 2 * q := by omega
      rw [this]
      congr 1
      rw [Nat.mul_left_comm q 2 (2 * m), Nat.mul_left_comm q 2 m]
    · exact ⟨0, (x + 1) / 2, by omega⟩

theorem low_at {t m i : Nat} : (2 ^ (t + 1) * m + 2 ^ t).testBit i = if i < t + 1 then decide (i = t) else m.testBit (i - (t + 1)) := by
  rw [Nat.testBit_two_pow_mul_add m (Nat.pow_lt_pow_right (by omega) (by omega))]
  split
  · rw [Nat.testBit_two_pow]; simp [eq_comm]
  · rfl

theorem low_lt {t m : Nat} (h : 2 ^ (t + 1) * m + 2 ^ t < 2 ^ 64) : t < 64 := by
  rcases Nat.lt_or_ge t 64 with h1 | h1
  · exact h1
  · have := Nat.pow_le_pow_right (n := 2) (by omega) h1; omega

/-- x & -x. -/
theorem low_and {t m : Nat} (h : 2 ^ (t + 1) * m + 2 ^ t < 2 ^ 64) : iand .u64 ((2 ^ (t + 1) * m + 2 ^ t : Nat) : Int) (IntKind.u64.wrap (0 - ((2 ^ (t + 1) * m + 2 ^ t : Nat) : Int))) = ((2 ^ t : Nat) : Int) := by
  have hp : 1 ≤ 2 ^ t := Nat.one_le_two_pow
  have e1 : IntKind.u64.wrap (0 - ((2 ^ (t + 1) * m + 2 ^ t : Nat) : Int)) = ((2 ^ 64 - ((2 ^ (t + 1) * m + (2 ^ t - 1)) + 1) : Nat) : Int) := by
    rw [wrap_u64]
    generalize 2 ^ (t + 1) * m = q at *
    omega
  rw [e1, iand_u h (by omega)]
  congr 1
  have ht := low_lt h
  apply Nat.eq_of_testBit_eq
  intro i
  rw [Nat.testBit_and, Nat.testBit_two_pow_sub_succ (by omega), low_at, Nat.testBit_two_pow_mul_add m (show 2 ^ t - 1 < 2 ^ (t + 1) by rw [Nat.pow_succ]; omega), Nat.testBit_two_pow, Nat.testBit_two_pow_sub_one]
  by_cases h1 : i < t + 1
  · rw [if_pos h1, if_pos h1]
    by_cases h2 : i = t
    · subst h2; simp; omega
    · have : ¬ t = i := fun e => h2 e.symm
      simp [h2, this]
  · rw [if_neg h1, if_neg h1]
    have : ¬ t = i := by omega
    cases m.testBit (i - (t + 1)) <;> simp [this]

def dbL : List Int := [0, 1, 56, 2, 57, 49, 28, 3, 61, 58, 42, 50, 38, 29, 17, 4, 62, 47, 59, 36, 45, 43, 51, 22, 53, 39, 33, 30, 24, 18, 12, 5, 63, 55, 48, 27, 60, 41, 37, 16, 46, 35, 44, 21, 52, 32, 23, 11, 54, 26, 40, 15, 34, 20, 31, 10, 25, 14, 19, 9, 13, 8, 7, 6]
def dbT (x : Nat) : Value := .int .u8 (dbL.getD x 0)

theorem db_all : (List.range 64).all (fun t => decide (0 ≤ Int.fdiv (IntKind.u64.wrap (((2 ^ t : Nat) : Int) * 285870213051353865)) (2 ^ 58)) && decide (Int.fdiv (IntKind.u64.wrap (((2 ^ t : Nat) : Int) * 285870213051353865)) (2 ^ 58) < 64) &&
    (dbL.getD (Int.toNat (Int.fdiv (IntKind.u64.wrap (((2 ^ t : Nat) : Int) * 285870213051353865)) (2 ^ 58))) 0 == (t : Int))) = true := by decide +kernel

theorem db_at {t : Nat} (h : t < 64) : (0 ≤ Int.fdiv (IntKind.u64.wrap (((2 ^ t : Nat) : Int) * 285870213051353865)) (2 ^ 58) ∧ Int.fdiv (IntKind.u64.wrap (((2 ^ t : Nat) : Int) * 285870213051353865)) (2 ^ 58) < 64) ∧
    dbL.getD (Int.toNat (Int.fdiv (IntKind.u64.wrap (((2 ^ t : Nat) : Int) * 285870213051353865)) (2 ^ 58))) 0 = (t : Int) := by
  have := List.all_eq_true.1 db_all t (List.mem_range.2 h)
  simp only [Bool.and_eq_true, decide_eq_true_eq, beq_iff_eq] at this
  exact this

theorem shr_bit {a r i : Nat} : (a / 2 ^ r).testBit i = a.testBit (r + i) := by
  rw [← Nat.shiftRight_eq_div_pow, Nat.testBit_shiftRight]

theorem shr_u {a : Nat} {r : Int} (h0 : 0 ≤ r) (h : r < 64) : Int.fdiv (a : Int) (2 ^ (min (Int.toNat r) 64)) = ((a / 2 ^ r.toNat : Nat) : Int) := by
  rw [show min (Int.toNat r) 64 = r.toNat by omega, Int.fdiv_eq_ediv_of_nonneg _ (Int.le_of_lt (Int.pow_pos (by omega)))]
  push_cast
  rfl

/-- The place of the lowest bit of a word. -/
def tz (x : Nat) : Nat := nxt (fun i => x.testBit i) true 64 0

theorem tz_low {t m : Nat} (h : 2 ^ (t + 1) * m + 2 ^ t < 2 ^ 64) : tz (2 ^ (t + 1) * m + 2 ^ t) = t := by
  refine nxt_is (by omega) (low_lt h) ?_ fun y _ hy => ?_
  · show (2 ^ (t + 1) * m + 2 ^ t).testBit t = true
    rw [low_at, if_pos (by omega)]; simp
  · show (2 ^ (t + 1) * m + 2 ^ t).testBit y ≠ true
    rw [low_at, if_pos (by omega)]; simp; omega

theorem tz_spec {x : Nat} (h0 : 0 < x) (h : x < 2 ^ 64) : tz x < 64 ∧ x.testBit (tz x) = true ∧ ∀ y, y < tz x → x.testBit y = false := by
  obtain ⟨t, m, rfl⟩ := low_bit x h0
  rw [tz_low h]
  refine ⟨low_lt h, ?_, fun y hy => ?_⟩
  · rw [low_at, if_pos (by omega)]; simp
  · rw [low_at, if_pos (by omega)]; simp; omega

theorem db_facts {x : Nat} (h0 : x < 2 ^ 64) (h1 : 0 < x) : (0 ≤ Int.fdiv (IntKind.wrap .u64 ((iand .u64 ((x : Nat) : Int) (IntKind.wrap .u64 (0 - ((x : Nat) : Int)))) * 285870213051353865)) (2 ^ 58) ∧
    Int.fdiv (IntKind.wrap .u64 ((iand .u64 ((x : Nat) : Int) (IntKind.wrap .u64 (0 - ((x : Nat) : Int)))) * 285870213051353865)) (2 ^ 58) < 64) ∧
    IntKind.wrap .i64 (dbL.getD (0 + Int.toNat (Int.fdiv (IntKind.wrap .u64 ((iand .u64 ((x : Nat) : Int) (IntKind.wrap .u64 (0 - ((x : Nat) : Int)))) * 285870213051353865)) (2 ^ 58)) * 1) 0) = ((tz x : Nat) : Int) := by
  obtain ⟨t, m, rfl⟩ := low_bit x h1
  have ht := low_lt h0
  obtain ⟨hd1, hd2⟩ := db_at ht
  rw [low_and h0, tz_low h0, Nat.zero_add, Nat.mul_one, hd2]
  exact ⟨hd1, i64_in (by omega)⟩

/-- A word, looked at for v. -/
def wv (v : Bool) (a : Nat) : Nat := if v then a else flip a

theorem wv_lt {v : Bool} {a : Nat} (h : a < 2 ^ 64) : wv v a < 2 ^ 64 := by
  unfold wv; split
  · exact h
  · exact flip_lt a

section
variable {ws : Nat → Nat} {nw n : Nat} {p : Nat → Bool}

theorem Words.look (h : Words ws nw n p) (v : Bool) {y : Nat} (hy : y < n) : (wv v (ws (y / 64))).testBit (y % 64) = (p y == v) := by
  have hj : y / 64 < nw := by rw [h.many]; omega
  have hb := h.bit (y / 64) hj (y % 64) (by omega)
  rw [show 64 * (y / 64) + y % 64 = y by omega] at hb
  unfold wv
  cases v
  · simp only [Bool.false_eq_true, if_false]
    rw [flip_bit (h.small _ hj) (by omega), hb]; simp [hy]
  · simp only [if_true]; rw [hb]; simp [hy]

theorem Words.ahead (h : Words ws nw n p) (v : Bool) {x y : Nat} (hxy : x ≤ y) (hy : y < n) (hw : y / 64 = x / 64) : (wv v (ws (x / 64)) / 2 ^ (x % 64)).testBit (y - x) = (p y == v) := by
  rw [shr_bit, ← h.look v hy, hw]
  congr 1
  omega

theorem Words.skip (h : Words ws nw n p) (v : Bool) {x : Nat} (hx : x < n) (h0 : wv v (ws (x / 64)) / 2 ^ (x % 64) = 0) {y : Nat} (h1 : x ≤ y) (h2 : y < x + 64 - x % 64) (hy : y < n) : p y ≠ v := by
  have := h.ahead v h1 hy (by omega)
  rw [h0] at this
  intro e
  rw [e] at this
  simp at this

theorem Words.hit (h : Words ws nw n p) (v : Bool) {x : Nat} (hx : x < n) (h0 : wv v (ws (x / 64)) / 2 ^ (x % 64) ≠ 0) :
    tz (wv v (ws (x / 64)) / 2 ^ (x % 64)) < 64 ∧ (x + tz (wv v (ws (x / 64)) / 2 ^ (x % 64)) < n → nxt p v n x = x + tz (wv v (ws (x / 64)) / 2 ^ (x % 64))) ∧
      (n ≤ x + tz (wv v (ws (x / 64)) / 2 ^ (x % 64)) → nxt p v n x = n) := by
  have hj : x / 64 < nw := by rw [h.many]; omega
  have hlt : wv v (ws (x / 64)) < 2 ^ 64 := wv_lt (h.small _ hj)
  have hle : wv v (ws (x / 64)) / 2 ^ (x % 64) < 2 ^ 64 := Nat.lt_of_le_of_lt (Nat.div_le_self _ _) hlt
  obtain ⟨t1, t2, t3⟩ := tz_spec (Nat.pos_of_ne_zero h0) hle
  generalize ht : tz (wv v (ws (x / 64)) / 2 ^ (x % 64)) = t at *
  have hr : x % 64 + t < 64 := by
    rw [shr_bit] at t2
    rcases Nat.lt_or_ge (x % 64 + t) 64 with h3 | h3
    · exact h3
    · rw [Nat.testBit_lt_two_pow (Nat.lt_of_lt_of_le hlt (Nat.pow_le_pow_right (by omega) h3))] at t2
      cases t2
  have hmiss : ∀ y, x ≤ y → y < x + t → y < n → p y ≠ v := by
    intro y h1 h2 h3 e
    have := h.ahead v h1 h3 (by omega)
    rw [t3 _ (by omega), e] at this
    simp at this
  refine ⟨t1, fun hn => ?_, fun hn => ?_⟩
  · refine nxt_is (by omega) hn ?_ fun y h1 h2 => hmiss y h1 h2 (by omega)
    have := h.ahead v (show x ≤ x + t by omega) hn (by omega)
    rw [show x + t - x = t by omega, t2] at this
    simpa using this.symm
  · exact nxt_none (by omega) fun y h1 h2 => hmiss y h1 (by omega) h2

end

/-- Whether the places from f on, k of them, lie within a set of n. -/
def wth (n : Nat) (f k : Int) : Bool := decide (0 ≤ f) && decide (0 ≤ k) && decide (k ≤ (n : Int)) && decide (f ≤ (n : Int) - k)
def trn (p : Nat → Bool) (n : Nat) (f k : Int) (b : Bool) : Nat → Bool := if wth n f k then setR p f.toNat k.toNat b else p
def trnE (n : Nat) (f k : Int) : Int := if wth n f k then 0 else 3
/-- How long a new set is. -/
def capN (x : Int) : Nat := (imax 0 (imin x 1048576)).toNat
theorem capN_le (x : Int) : capN x ≤ 1048576 := by unfold capN imax imin; split <;> split <;> omega
/-- Where First begins. -/
def at0 (f : Int) : Nat := (imax 0 f).toNat
def fst1 (p : Nat → Bool) (n : Nat) (f : Int) (v : Bool) : Int := if nxt p v n (at0 f) < n then (nxt p v n (at0 f) : Int) else 0
def fst2 (p : Nat → Bool) (n : Nat) (f : Int) (v : Bool) : Bool := decide (nxt p v n (at0 f) < n)
def hasV (p : Nat → Bool) (n : Nat) (i : Int) : Bool := decide (0 ≤ i) && decide (i < (n : Int)) && p i.toNat
theorem has_no {p : Nat → Bool} {n : Nat} {i : Int} (h : i < 0 ∨ (n : Int) ≤ i) : false = hasV p n i := by
  unfold hasV
  rcases h with h | h
  · have : ¬ 0 ≤ i := by omega
    simp [this]
  · have : ¬ i < (n : Int) := by omega
    simp [this]

theorem has_eq {ws : Nat → Nat} {nw n : Nat} {p : Nat → Bool} (h : Words ws nw n p) {i : Int} (h0 : 0 ≤ i) (hi : i < (n : Int)) : ((((((ws (Int.toNat (i / 64))) / 2 ^ Int.toNat (i % 64)) &&& 1 : Nat) : Int) : Int) == 1) = hasV p n i := by
  have e0 : hasV p n i = p i.toNat := by unfold hasV; simp [h0, hi]
  rw [e0]
  have hj : i.toNat / 64 < nw := by rw [h.many]; omega
  have hb := h.bit (i.toNat / 64) hj (i.toNat % 64) (by omega)
  rw [show 64 * (i.toNat / 64) + i.toNat % 64 = i.toNat by omega, show decide (i.toNat < n) = true by simp; omega, Bool.true_and] at hb
  rw [show Int.toNat (i / 64) = i.toNat / 64 by omega, show Int.toNat (i % 64) = i.toNat % 64 by omega, Nat.and_one_is_mod, ← hb]
  have e := @shr_bit (ws (i.toNat / 64)) (i.toNat % 64) 0
  rw [Nat.testBit_zero] at e
  rw [Nat.add_zero] at e
  rw [← e]
  generalize ws (i.toNat / 64) / 2 ^ (i.toNat % 64) = q
  rcases Nat.mod_two_eq_zero_or_one q with h1 | h1 <;> simp [h1]

/-- The private first: n where there is none. -/
def fst3 (p : Nat → Bool) (n : Nat) (f : Int) (v : Bool) : Int := if nxt p v n (at0 f) < n then (nxt p v n (at0 f) : Int) else n

theorem fst_yes {p : Nat → Bool} {n : Nat} {f y : Int} {v : Bool} (h : (nxt p v n (at0 f) : Int) = y) (h2 : y < n) : y = fst1 p n f v ∧ true = fst2 p n f v := by
  unfold fst1 fst2
  rw [if_pos (by omega)]
  exact ⟨h.symm, by simp; omega⟩
theorem fst_no {p : Nat → Bool} {n : Nat} {f : Int} {v : Bool} (h : n ≤ nxt p v n (at0 f)) : 0 = fst1 p n f v ∧ false = fst2 p n f v := by
  unfold fst1 fst2
  rw [if_neg (by omega)]
  exact ⟨rfl, by simp; omega⟩
theorem fst3_eq (p : Nat → Bool) (n : Nat) (f : Int) (v : Bool) : fst3 p n f v = if fst2 p n f v then fst1 p n f v else n := by
  unfold fst1 fst2 fst3
  by_cases h : nxt p v n (at0 f) < n <;> simp [h]

theorem first_facts {ws : Nat → Nat} {nw n : Nat} {p : Nat → Bool} (h : Words ws nw n p) {i : Int} (h0 : 0 ≤ i) (h1 : i < (n : Int)) (v : Bool) :
    (wv v (ws (Int.toNat (i / 64))) / 2 ^ Int.toNat (i % 64) < 2 ^ 64) ∧
    (((wv v (ws (Int.toNat (i / 64))) / 2 ^ Int.toNat (i % 64) : Nat) : Int) = 0 → nxt p v n (Int.toNat i) = nxt p v n (Int.toNat (i + (64 - i % 64))) ∨ (n ≤ Int.toNat (i + (64 - i % 64)) ∧ n ≤ nxt p v n (Int.toNat i))) ∧
    (¬ ((wv v (ws (Int.toNat (i / 64))) / 2 ^ Int.toNat (i % 64) : Nat) : Int) = 0 → tz (wv v (ws (Int.toNat (i / 64))) / 2 ^ Int.toNat (i % 64)) < 64 ∧ (i + (tz (wv v (ws (Int.toNat (i / 64))) / 2 ^ Int.toNat (i % 64)) : Int) < n → (nxt p v n (Int.toNat i) : Int) = i + (tz (wv v (ws (Int.toNat (i / 64))) / 2 ^ Int.toNat (i % 64)) : Int)) ∧
      ((n : Int) ≤ i + (tz (wv v (ws (Int.toNat (i / 64))) / 2 ^ Int.toNat (i % 64)) : Int) → nxt p v n (Int.toNat i) = n)) := by
  obtain ⟨x, rfl⟩ := Int.eq_ofNat_of_zero_le h0
  have hx : x < n := by omega
  rw [show Int.toNat ((x : Int) / 64) = x / 64 by omega, show Int.toNat ((x : Int) % 64) = x % 64 by omega, show Int.toNat (x : Int) = x by omega, show Int.toNat ((x : Int) + (64 - (x : Int) % 64)) = x + 64 - x % 64 by omega]
  have hj : x / 64 < nw := by rw [h.many]; omega
  refine ⟨Nat.lt_of_le_of_lt (Nat.div_le_self _ _) (wv_lt (h.small _ hj)), fun e0 => ?_, fun e0 => ?_⟩
  · have e : wv v (ws (x / 64)) / 2 ^ (x % 64) = 0 := Int.ofNat.inj e0
    rcases Nat.lt_or_ge (x + 64 - x % 64) n with h2 | h2
    · exact .inl (nxt_skip (by omega) (by omega) fun y a b => h.skip v hx e a b (by omega))
    · exact .inr ⟨h2, Nat.le_of_eq (nxt_none (by omega) fun y a b => h.skip v hx e a (by omega) b).symm⟩
  · have e : wv v (ws (x / 64)) / 2 ^ (x % 64) ≠ 0 := fun e1 => e0 (by rw [e1]; rfl)
    obtain ⟨a, b, c⟩ := h.hit v hx e
    refine ⟨a, fun k => ?_, fun k => c (by omega)⟩
    rw [b (by omega)]; omega

theorem pos_of_cast {x : Nat} (h : ¬ ((x : Int) = 0)) : 0 < x := by omega

theorem capN_eq (x : Int) : imax 0 (imin x 1048576) = ((capN x : Nat) : Int) := by
  unfold capN imax imin; split <;> split <;> omega

theorem wth_facts {n : Nat} {f k : Int} (h : wth n f k = true) : 0 ≤ f ∧ 0 ≤ k ∧ f + k ≤ (n : Int) := by
  simp only [wth, Bool.and_eq_true, decide_eq_true_eq] at h
  omega

theorem trn_no {p : Nat → Bool} {n : Nat} {f k : Int} {B : Bool} (h : wth n f k = false) : trn p n f k B = p := by
  unfold trn; rw [h]; rfl
theorem trn_yes {p : Nat → Bool} {n : Nat} {f k : Int} {B : Bool} (h : wth n f k = true) : trn p n f k B = setR p f.toNat k.toNat B := by
  unfold trn; rw [if_pos h]
theorem trnE_no {n : Nat} {f k : Int} (h : wth n f k = false) : 3 = trnE n f k := by unfold trnE; rw [h]; rfl
theorem trnE_yes {n : Nat} {f k : Int} (h : wth n f k = true) : 0 = trnE n f k := by unfold trnE; rw [if_pos h]

theorem Words.turnI {ws : Nat → Nat} {nw n : Nat} {p : Nat → Bool} {f x m : Int} {B : Bool} (h : Words ws nw n (setR p f.toNat (x - f).toNat B)) (h0 : 0 ≤ f) (h1 : f ≤ x) (hm : 0 ≤ m) (hm2 : m ≤ 64 - x % 64) (hn : x + m ≤ (n : Int)) :
    Words (putW ws (Int.toNat (x / 64)) (tOp B (ws (Int.toNat (x / 64))) (mkM (x % 64).toNat m.toNat))) nw n (setR p f.toNat (x + m - f).toNat B) := by
  have := h.turn (f := x.toNat) (k := m.toNat) B (by omega) (by omega)
  rw [show x.toNat = f.toNat + (x - f).toNat by omega, setR_setR, show (x - f).toNat + m.toNat = (x + m - f).toNat by omega, show f.toNat + (x - f).toNat = x.toNat by omega] at this
  rw [show Int.toNat (x / 64) = x.toNat / 64 by omega, show Int.toNat (x % 64) = x.toNat % 64 by omega]
  exact this

theorem words_none (n : Nat) : Words (fun _ => 0) ((n + 63) / 64) n (fun _ => false) := ⟨rfl, fun j _ i _ => by simp, fun j _ => by simp⟩

end Go.Proofs.YtlnecfdbmoilbaaDoor.K
