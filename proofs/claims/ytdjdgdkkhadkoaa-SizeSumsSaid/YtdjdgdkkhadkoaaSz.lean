/-
  Sizes, plainly: what is a size, an alignment, rounding up.
-/
import Derived.Test.YtdjdgdkkhadkoaaKf
namespace Go.Proofs.Ytdjdgdkkhadkoaa.K

def isSize (n : Int) : Bool := decide (0 ≤ n) && decide (n ≤ 4294967296)
def whole (a : Int) : Bool := decide (1 ≤ a) && decide (a ≤ 4096) && (iand .i64 a (IntKind.wrap .i64 (a - 1)) == 0)
def upOk (n a : Int) : Bool := isSize n && whole a
def upV (n a : Int) : Int := if upOk n a then (n + a - 1) / a * a else 0
/-- How many bits a number below 1024 has. -/
def blen (x : Int) : Int := if x < 1 then 0 else if x < 2 then 1 else if x < 4 then 2 else if x < 8 then 3 else if x < 16 then 4 else if x < 32 then 5 else if x < 64 then 6 else if x < 128 then 7 else if x < 256 then 8 else if x < 512 then 9 else 10

theorem isSize_iff {n : Int} : isSize n = true ↔ 0 ≤ n ∧ n ≤ 4294967296 := by
  simp [isSize]
theorem isSize_not {n : Int} : isSize n = false ↔ ¬ (0 ≤ n ∧ n ≤ 4294967296) := by
  rw [← isSize_iff]; simp

theorem whole_iff {a : Int} : whole a = true ↔ 1 ≤ a ∧ a ≤ 4096 ∧ iand .i64 a (IntKind.wrap .i64 (a - 1)) = 0 := by
  simp [whole, and_assoc]

/-! ## Bits of whole numbers -/

theorem ofInt_nat (x : Nat) : BitVec.ofInt 64 (x : Int) = BitVec.ofNat 64 x := by
  simp

theorem wrap_small {x : Int} (h : 0 ≤ x ∧ x ≤ 9223372036854775807) : IntKind.i64.wrap x = x := i64_in (by omega)

theorem iand_nat {a b : Nat} (ha : a < 2 ^ 63) (hb : b < 2 ^ 63) : iand .i64 (a : Int) (b : Int) = ((a &&& b : Nat) : Int) := by
  unfold iand
  show IntKind.i64.wrap ((BitVec.ofInt 64 (a : Int) &&& BitVec.ofInt 64 (b : Int)).toNat : Int) = _
  rw [ofInt_nat, ofInt_nat, BitVec.toNat_and, BitVec.toNat_ofNat, BitVec.toNat_ofNat, Nat.mod_eq_of_lt (by omega), Nat.mod_eq_of_lt (by omega)]
  have : a &&& b ≤ a := Nat.and_le_left
  exact wrap_small (by omega)

theorem ior_nat {a b : Nat} (ha : a < 2 ^ 62) (hb : b < 2 ^ 62) : ior .i64 (a : Int) (b : Int) = ((a ||| b : Nat) : Int) := by
  unfold ior
  show IntKind.i64.wrap ((BitVec.ofInt 64 (a : Int) ||| BitVec.ofInt 64 (b : Int)).toNat : Int) = _
  rw [ofInt_nat, ofInt_nat, BitVec.toNat_or, BitVec.toNat_ofNat, BitVec.toNat_ofNat, Nat.mod_eq_of_lt (by omega), Nat.mod_eq_of_lt (by omega)]
  have : a ||| b < 2 ^ 62 := Nat.or_lt_two_pow ha hb
  exact wrap_small (by omega)

theorem ixor_nat {a b : Nat} (ha : a < 2 ^ 62) (hb : b < 2 ^ 62) : ixor .i64 (a : Int) (b : Int) = ((a ^^^ b : Nat) : Int) := by
  unfold ixor
  show IntKind.i64.wrap ((BitVec.ofInt 64 (a : Int) ^^^ BitVec.ofInt 64 (b : Int)).toNat : Int) = _
  rw [ofInt_nat, ofInt_nat, BitVec.toNat_xor, BitVec.toNat_ofNat, BitVec.toNat_ofNat, Nat.mod_eq_of_lt (by omega), Nat.mod_eq_of_lt (by omega)]
  have : a ^^^ b < 2 ^ 62 := Nat.xor_lt_two_pow ha hb
  exact wrap_small (by omega)

theorem andNot_toNat (x j : Nat) (hx : x < 2 ^ 63) (hj : j ≤ 62) : (BitVec.ofNat 64 x &&& ~~~(BitVec.ofNat 64 (2 ^ j - 1))).toNat = x / 2 ^ j * 2 ^ j := by
  apply Nat.eq_of_testBit_eq
  intro i
  rw [← Nat.shiftRight_eq_div_pow, ← Nat.shiftLeft_eq]
  simp only [BitVec.testBit_toNat, BitVec.getLsbD_and, BitVec.getLsbD_not, BitVec.getLsbD_ofNat, Nat.testBit_shiftLeft, Nat.testBit_shiftRight, Nat.testBit_two_pow_sub_one]
  by_cases h : j ≤ i
  · have e1 : ¬ i < j := by omega
    have e2 : j + (i - j) = i := by omega
    by_cases h64 : i < 64
    · simp [h, e1, e2, h64]
    · have : x.testBit i = false := Nat.testBit_lt_two_pow (Nat.lt_of_lt_of_le hx (Nat.pow_le_pow_right (by omega) (by omega)))
      simp [h, e1, e2, h64, this]
  · have e1 : i < j := by omega
    have e2 : i < 64 := by omega
    simp [h, e1, e2]

theorem iandNot_pow {x : Int} {j : Nat} (h0 : 0 ≤ x) (hx : x < 2 ^ 63) (hj : j ≤ 62) : iandNot .i64 x (((2 ^ j : Nat) : Int) - 1) = x / ((2 ^ j : Nat) : Int) * ((2 ^ j : Nat) : Int) := by
  obtain ⟨n, rfl⟩ := Int.eq_ofNat_of_zero_le h0
  have hp : 1 ≤ 2 ^ j := Nat.one_le_two_pow
  have e : (((2 ^ j : Nat) : Int) - 1) = ((2 ^ j - 1 : Nat) : Int) := by omega
  unfold iandNot
  show IntKind.i64.wrap ((BitVec.ofInt 64 ((n : Nat) : Int) &&& ~~~(BitVec.ofInt 64 (((2 ^ j : Nat) : Int) - 1))).toNat : Int) = _
  rw [e, ofInt_nat, ofInt_nat, andNot_toNat n j (by omega) hj]
  have h1 : n / 2 ^ j * 2 ^ j ≤ n := Nat.div_mul_le_self n (2 ^ j)
  rw [wrap_small (by omega)]
  push_cast
  rfl

/-- An alignment is a power of two. -/
theorem whole_pow {a : Int} (h : whole a = true) : ∃ j : Nat, j ≤ 12 ∧ a = ((2 ^ j : Nat) : Int) := by
  obtain ⟨h1, h2, h3⟩ := whole_iff.1 h
  obtain ⟨n, rfl⟩ := Int.eq_ofNat_of_zero_le (show 0 ≤ a by omega)
  rw [wrap_small (by omega), show ((n : Int) - 1) = ((n - 1 : Nat) : Int) by omega, iand_nat (by omega) (by omega)] at h3
  have h3 : n &&& (n - 1) = 0 := by omega
  have hn : n ≠ 0 := by omega
  refine ⟨Nat.log2 n, ?_, ?_⟩
  · have : Nat.log2 n < 13 := (Nat.log2_lt hn).2 (by omega)
    omega
  · have lo : 2 ^ Nat.log2 n ≤ n := Nat.log2_self_le hn
    have hi : n < 2 ^ (Nat.log2 n + 1) := (Nat.log2_lt hn).1 (Nat.lt_succ_self _)
    rw [Nat.pow_succ] at hi
    generalize Nat.log2 n = j at lo hi ⊢
    by_cases e : n = 2 ^ j
    · exact congrArg Nat.cast e
    · exfalso
      have b1 : n.testBit j = true := by
        have : n = 2 ^ j + (n - 2 ^ j) := by omega
        rw [this, Nat.testBit_two_pow_add_eq, Nat.testBit_lt_two_pow (by omega)]
        rfl
      have b2 : (n - 1).testBit j = true := by
        have : n - 1 = 2 ^ j + (n - 1 - 2 ^ j) := by omega
        rw [this, Nat.testBit_two_pow_add_eq, Nat.testBit_lt_two_pow (by omega)]
        rfl
      have := congrArg (fun x => x.testBit j) h3
      simp [Nat.testBit_and, b1, b2] at this

theorem pow_whole {j : Nat} (h : j ≤ 12) : whole ((2 ^ j : Nat) : Int) = true := by
  have : j = 0 ∨ j = 1 ∨ j = 2 ∨ j = 3 ∨ j = 4 ∨ j = 5 ∨ j = 6 ∨ j = 7 ∨ j = 8 ∨ j = 9 ∨ j = 10 ∨ j = 11 ∨ j = 12 := by omega
  rcases this with rfl | rfl | rfl | rfl | rfl | rfl | rfl | rfl | rfl | rfl | rfl | rfl | rfl <;> decide

theorem up_eq {n a : Int} (hn : isSize n = true) (ha : whole a = true) : iandNot .i64 (n + a - 1) (a - 1) = (n + a - 1) / a * a := by
  obtain ⟨h1, h2⟩ := isSize_iff.1 hn
  obtain ⟨h3, h4, _⟩ := whole_iff.1 ha
  obtain ⟨j, hj, rfl⟩ := whole_pow ha
  exact iandNot_pow (by omega) (by omega) (by omega)

theorem upV_ok {n a : Int} (hn : isSize n = true) (ha : whole a = true) : upV n a = (n + a - 1) / a * a := by simp [upV, upOk, hn, ha]

theorem upV_bd (n a : Int) : 0 ≤ upV n a ∧ upV n a ≤ 4294971392 := by
  unfold upV
  split
  · rename_i h
    simp only [upOk, Bool.and_eq_true] at h
    obtain ⟨h1, h2⟩ := isSize_iff.1 h.1
    obtain ⟨h3, h4, _⟩ := whole_iff.1 h.2
    have := Int.ediv_mul_le (n + a - 1) (show a ≠ 0 by omega)
    have h5 := Int.mul_nonneg (Int.ediv_nonneg (show 0 ≤ n + a - 1 by omega) (show 0 ≤ a by omega)) (show 0 ≤ a by omega)
    omega
  · omega

/-- Rounded up by hand. -/
theorem up_hand {n a : Int} (hn : isSize n = true) (ha : whole a = true) : (n % a = 0 → n = upV n a) ∧ (n % a ≠ 0 → n - n % a + a = upV n a) := by
  rw [upV_ok hn ha]
  obtain ⟨h1, h2⟩ := isSize_iff.1 hn
  obtain ⟨h3, h4, _⟩ := whole_iff.1 ha
  have e := Int.emod_add_mul_ediv n a
  have l := Int.emod_lt_of_pos n (show 0 < a by omega)
  have l0 := Int.emod_nonneg n (show a ≠ 0 by omega)
  constructor
  · intro h
    have : (n + a - 1) / a = n / a := by
      have : n + a - 1 = (a - 1) + a * (n / a) := by omega
      rw [this, Int.add_mul_ediv_left _ _ (by omega), Int.ediv_eq_zero_of_lt (by omega) (by omega), Int.zero_add]
    rw [this, Int.mul_comm]; omega
  · intro h
    have : (n + a - 1) / a = n / a + 1 := by
      have : n + a - 1 = (n % a - 1) + a * (n / a + 1) := by rw [Int.mul_add]; omega
      rw [this, Int.add_mul_ediv_left _ _ (by omega), Int.ediv_eq_zero_of_lt (by omega) (by omega), Int.zero_add]
    rw [this, Int.add_mul, Int.mul_comm (n / a)]; omega

def pagesV (n : Int) : Int := if isSize n then (n + 4095) / 4096 else 0

theorem whole_page : whole 4096 = true := by decide

theorem pages_eq (n : Int) : upV n 4096 / 4096 = pagesV n := by
  unfold upV pagesV upOk
  rw [whole_page, Bool.and_true]
  split
  · have : n + 4096 - 1 = n + 4095 := by omega
    rw [this]; omega
  · rfl

def ordOk (p : Int) : Bool := decide (1 ≤ p) && decide (p ≤ 1024)
def ordV (p : Int) : Int := if ordOk p then blen (p - 1) else 0
def spanOk (o : Int) : Bool := decide (0 ≤ o) && decide (o ≤ 10)
def spanV (o : Int) : Int := if spanOk o then 4096 * 2 ^ o.toNat else 0

theorem span_eq {o : Int} (h0 : 0 ≤ o) (h1 : o ≤ 10) : IntKind.wrap .i64 (4096 * 2 ^ (min (Int.toNat o) 64)) = spanV o := by
  have : o = 0 ∨ o = 1 ∨ o = 2 ∨ o = 3 ∨ o = 4 ∨ o = 5 ∨ o = 6 ∨ o = 7 ∨ o = 8 ∨ o = 9 ∨ o = 10 := by omega
  rcases this with rfl | rfl | rfl | rfl | rfl | rfl | rfl | rfl | rfl | rfl | rfl <;> decide

theorem spanV_bd (o : Int) : 0 ≤ spanV o ∧ spanV o ≤ 4194304 := by
  by_cases h : spanOk o = true
  · have h' := h
    simp only [spanOk, Bool.and_eq_true, decide_eq_true_eq] at h'
    have : o = 0 ∨ o = 1 ∨ o = 2 ∨ o = 3 ∨ o = 4 ∨ o = 5 ∨ o = 6 ∨ o = 7 ∨ o = 8 ∨ o = 9 ∨ o = 10 := by omega
    rcases this with rfl | rfl | rfl | rfl | rfl | rfl | rfl | rfl | rfl | rfl | rfl <;> decide
  · simp [spanV, h]

theorem spanV_succ {o : Int} (h0 : 0 ≤ o) (h1 : o < 10) : spanV (o + 1) = 2 * spanV o := by
  have : o = 0 ∨ o = 1 ∨ o = 2 ∨ o = 3 ∨ o = 4 ∨ o = 5 ∨ o = 6 ∨ o = 7 ∨ o = 8 ∨ o = 9 := by omega
  rcases this with rfl | rfl | rfl | rfl | rfl | rfl | rfl | rfl | rfl | rfl <;> decide

/-- math/bits' table of lengths. -/
def len8 : ByteArray := ⟨#[0, 1, 2, 2, 3, 3, 3, 3, 4, 4, 4, 4, 4, 4, 4, 4, 5, 5, 5, 5, 5, 5, 5, 5, 5, 5, 5, 5, 5, 5, 5, 5, 6, 6, 6, 6, 6, 6, 6, 6, 6, 6, 6, 6, 6, 6, 6, 6, 6, 6, 6, 6, 6, 6, 6, 6, 6, 6, 6, 6, 6, 6, 6, 6, 7, 7, 7, 7, 7, 7, 7, 7, 7, 7, 7, 7, 7, 7, 7, 7, 7, 7, 7, 7, 7, 7, 7, 7, 7, 7, 7, 7, 7, 7, 7, 7, 7, 7, 7, 7, 7, 7, 7, 7, 7, 7, 7, 7, 7, 7, 7, 7, 7, 7, 7, 7, 7, 7, 7, 7, 7, 7, 7, 7, 7, 7, 7, 7, 8, 8, 8, 8, 8, 8, 8, 8, 8, 8, 8, 8, 8, 8, 8, 8, 8, 8, 8, 8, 8, 8, 8, 8, 8, 8, 8, 8, 8, 8, 8, 8, 8, 8, 8, 8, 8, 8, 8, 8, 8, 8, 8, 8, 8, 8, 8, 8, 8, 8, 8, 8, 8, 8, 8, 8, 8, 8, 8, 8, 8, 8, 8, 8, 8, 8, 8, 8, 8, 8, 8, 8, 8, 8, 8, 8, 8, 8, 8, 8, 8, 8, 8, 8, 8, 8, 8, 8, 8, 8, 8, 8, 8, 8, 8, 8, 8, 8, 8, 8, 8, 8, 8, 8, 8, 8, 8, 8, 8, 8, 8, 8, 8, 8, 8, 8, 8, 8, 8, 8, 8, 8, 8, 8, 8, 8, 8, 8]⟩
theorem len8_size : len8.size = 256 := by kernel_rfl

theorem bat_len8_all : (List.range 256).all (fun y => bat len8 ((y : Nat) : Int) == blen ((y : Nat) : Int)) = true := by decide +kernel

theorem bat_len8 {y : Int} (h0 : 0 ≤ y) (h1 : y < 256) : bat len8 y = blen y := by
  obtain ⟨n, rfl⟩ := Int.eq_ofNat_of_zero_le h0
  have := List.all_eq_true.1 bat_len8_all n (List.mem_range.2 (by omega))
  simpa using this

theorem blen_0 {x : Int} (h : x < 1) : blen x = 0 := by unfold blen; rw [if_pos (by omega)]
theorem blen_1 {x : Int} (h0 : 1 ≤ x) (h1 : x < 2) : blen x = 1 := by unfold blen; rw [if_neg (by omega), if_pos (by omega)]
theorem blen_2 {x : Int} (h0 : 2 ≤ x) (h1 : x < 4) : blen x = 2 := by unfold blen; rw [if_neg (by omega), if_neg (by omega), if_pos (by omega)]
theorem blen_3 {x : Int} (h0 : 4 ≤ x) (h1 : x < 8) : blen x = 3 := by unfold blen; rw [if_neg (by omega), if_neg (by omega), if_neg (by omega), if_pos (by omega)]
theorem blen_4 {x : Int} (h0 : 8 ≤ x) (h1 : x < 16) : blen x = 4 := by unfold blen; rw [if_neg (by omega), if_neg (by omega), if_neg (by omega), if_neg (by omega), if_pos (by omega)]
theorem blen_5 {x : Int} (h0 : 16 ≤ x) (h1 : x < 32) : blen x = 5 := by unfold blen; rw [if_neg (by omega), if_neg (by omega), if_neg (by omega), if_neg (by omega), if_neg (by omega), if_pos (by omega)]
theorem blen_6 {x : Int} (h0 : 32 ≤ x) (h1 : x < 64) : blen x = 6 := by unfold blen; rw [if_neg (by omega), if_neg (by omega), if_neg (by omega), if_neg (by omega), if_neg (by omega), if_neg (by omega), if_pos (by omega)]
theorem blen_7 {x : Int} (h0 : 64 ≤ x) (h1 : x < 128) : blen x = 7 := by unfold blen; rw [if_neg (by omega), if_neg (by omega), if_neg (by omega), if_neg (by omega), if_neg (by omega), if_neg (by omega), if_neg (by omega), if_pos (by omega)]
theorem blen_8 {x : Int} (h0 : 128 ≤ x) (h1 : x < 256) : blen x = 8 := by unfold blen; rw [if_neg (by omega), if_neg (by omega), if_neg (by omega), if_neg (by omega), if_neg (by omega), if_neg (by omega), if_neg (by omega), if_neg (by omega), if_pos (by omega)]
theorem blen_9 {x : Int} (h0 : 256 ≤ x) (h1 : x < 512) : blen x = 9 := by unfold blen; rw [if_neg (by omega), if_neg (by omega), if_neg (by omega), if_neg (by omega), if_neg (by omega), if_neg (by omega), if_neg (by omega), if_neg (by omega), if_neg (by omega), if_pos (by omega)]
theorem blen_10 {x : Int} (h0 : 512 ≤ x) : blen x = 10 := by unfold blen; rw [if_neg (by omega), if_neg (by omega), if_neg (by omega), if_neg (by omega), if_neg (by omega), if_neg (by omega), if_neg (by omega), if_neg (by omega), if_neg (by omega), if_neg (by omega)]

theorem blen_256 {x : Int} (h0 : 256 ≤ x) (h1 : x < 1024) : 8 + blen (x / 256) = blen x := by
  by_cases h : x < 512
  · have e1 : blen x = 9 := blen_9 h0 h
    have e2 : blen (x / 256) = 1 := blen_1 (by omega) (by omega)
    rw [e1, e2]; rfl
  · have e1 : blen x = 10 := blen_10 (by omega)
    have e2 : blen (x / 256) = 2 := blen_2 (by omega) (by omega)
    rw [e1, e2]; rfl

theorem blen_bd (x : Int) : 0 ≤ blen x ∧ blen x ≤ 10 := by
  have ite_bd : ∀ (c : Prop) [Decidable c] (a b : Int), (0 ≤ a ∧ a ≤ 10) → (0 ≤ b ∧ b ≤ 10) → 0 ≤ (if c then a else b) ∧ (if c then a else b) ≤ 10 := by
    intro c _ a b ha hb; split <;> assumption
  unfold blen
  repeat' first
    | (apply ite_bd)
    | omega

/-- Numbers together, as long as they are sizes. -/
def sumGo : Int → List Int → Int × Bool
  | a, [] => (a, true)
  | a, x :: l => if isSize x && isSize (a + x) then sumGo (a + x) l else (0, false)

theorem sumGo_at {a : Int} {l : List Int} {i : Nat} (h : i < l.length) : sumGo a (l.drop i) = if isSize (l.getD i 0) && isSize (a + l.getD i 0) then sumGo (a + l.getD i 0) (l.drop (i + 1)) else (0, false) := by
  rw [List.drop_eq_getElem_cons h]
  simp only [sumGo]
  have : l.getD i 0 = l[i] := by simp [List.getD, h]
  rw [this]

theorem pow_bd' {k : Int} (hk : 0 ≤ k) (hk2 : k ≤ 10) : 1 ≤ (2 : Int) ^ k.toNat ∧ (2 : Int) ^ k.toNat ≤ 1024 := by
  have : k = 0 ∨ k = 1 ∨ k = 2 ∨ k = 3 ∨ k = 4 ∨ k = 5 ∨ k = 6 ∨ k = 7 ∨ k = 8 ∨ k = 9 ∨ k = 10 := by omega
  rcases this with rfl | rfl | rfl | rfl | rfl | rfl | rfl | rfl | rfl | rfl | rfl <;> decide

theorem ord_step {p k n : Int} (hk : 0 ≤ k) (hk2 : k ≤ 10) (hn : n = 2 ^ k.toNat) (h1 : 1 ≤ p) (h2 : p ≤ n) (h3 : k = 0 ∨ n < 2 * p) : ordOk p = true ∧ ordV p = k := by
  have : k = 0 ∨ k = 1 ∨ k = 2 ∨ k = 3 ∨ k = 4 ∨ k = 5 ∨ k = 6 ∨ k = 7 ∨ k = 8 ∨ k = 9 ∨ k = 10 := by omega
  have hp : p ≤ 1024 := by
    have := pow_bd' hk hk2
    omega
  have ho : ordOk p = true := by simp [ordOk]; omega
  refine ⟨ho, ?_⟩
  simp only [ordV, ho, if_true]
  rcases this with rfl | rfl | rfl | rfl | rfl | rfl | rfl | rfl | rfl | rfl | rfl
  · have hn : n = 1 := hn; exact blen_0 (by omega)
  · have hn : n = 2 := hn; exact blen_1 (by omega) (by omega)
  · have hn : n = 4 := hn; exact blen_2 (by omega) (by omega)
  · have hn : n = 8 := hn; exact blen_3 (by omega) (by omega)
  · have hn : n = 16 := hn; exact blen_4 (by omega) (by omega)
  · have hn : n = 32 := hn; exact blen_5 (by omega) (by omega)
  · have hn : n = 64 := hn; exact blen_6 (by omega) (by omega)
  · have hn : n = 128 := hn; exact blen_7 (by omega) (by omega)
  · have hn : n = 256 := hn; exact blen_8 (by omega) (by omega)
  · have hn : n = 512 := hn; exact blen_9 (by omega) (by omega)
  · have hn : n = 1024 := hn; exact blen_10 (by omega)

theorem pow_bd {k : Int} (hk : 0 ≤ k) (hk2 : k ≤ 11) : 1 ≤ (2 : Int) ^ k.toNat ∧ (2 : Int) ^ k.toNat ≤ 2048 := by
  have : k = 0 ∨ k = 1 ∨ k = 2 ∨ k = 3 ∨ k = 4 ∨ k = 5 ∨ k = 6 ∨ k = 7 ∨ k = 8 ∨ k = 9 ∨ k = 10 ∨ k = 11 := by omega
  rcases this with rfl | rfl | rfl | rfl | rfl | rfl | rfl | rfl | rfl | rfl | rfl | rfl <;> decide

theorem pow_succ' {k : Int} (hk : 0 ≤ k) : (2 : Int) ^ (k + 1).toNat = 2 * 2 ^ k.toNat := by
  rw [show (k + 1).toNat = k.toNat + 1 by omega, Int.pow_succ, Int.mul_comm]

theorem ord_facts {p : Int} (h : ordOk p = true) : (0 ≤ ordV p ∧ ordV p ≤ 10) ∧ 4096 * p ≤ spanV (ordV p) ∧ (ordV p = 0 ∨ (2 ≤ p ∧ spanV (ordV p - 1) ≤ 4096 * (p - 1))) := by
  have h' := h
  simp only [ordOk, Bool.and_eq_true, decide_eq_true_eq] at h'
  have e0 : ordV p = blen (p - 1) := by simp [ordV, h]
  rw [e0]
  have alts : (1 ≤ p ∧ p ≤ 1) ∨ (2 ≤ p ∧ p ≤ 2) ∨ (3 ≤ p ∧ p ≤ 4) ∨ (5 ≤ p ∧ p ≤ 8) ∨ (9 ≤ p ∧ p ≤ 16) ∨ (17 ≤ p ∧ p ≤ 32) ∨ (33 ≤ p ∧ p ≤ 64) ∨ (65 ≤ p ∧ p ≤ 128) ∨ (129 ≤ p ∧ p ≤ 256) ∨ (257 ≤ p ∧ p ≤ 512) ∨ (513 ≤ p ∧ p ≤ 1024) := by omega
  rcases alts with h | h | h | h | h | h | h | h | h | h | h
  · have e : blen (p - 1) = 0 := blen_0 (by omega)
    rw [e]; exact ⟨by decide, by have : spanV 0 = 4096 := (by decide); omega, by left; rfl⟩
  · have e : blen (p - 1) = 1 := blen_1 (by omega) (by omega)
    rw [e]; exact ⟨by decide, by have : spanV 1 = 8192 := (by decide); omega, by right; have : spanV (1 - 1) = 4096 := (by decide); omega⟩
  · have e : blen (p - 1) = 2 := blen_2 (by omega) (by omega)
    rw [e]; exact ⟨by decide, by have : spanV 2 = 16384 := (by decide); omega, by right; have : spanV (2 - 1) = 8192 := (by decide); omega⟩
  · have e : blen (p - 1) = 3 := blen_3 (by omega) (by omega)
    rw [e]; exact ⟨by decide, by have : spanV 3 = 32768 := (by decide); omega, by right; have : spanV (3 - 1) = 16384 := (by decide); omega⟩
  · have e : blen (p - 1) = 4 := blen_4 (by omega) (by omega)
    rw [e]; exact ⟨by decide, by have : spanV 4 = 65536 := (by decide); omega, by right; have : spanV (4 - 1) = 32768 := (by decide); omega⟩
  · have e : blen (p - 1) = 5 := blen_5 (by omega) (by omega)
    rw [e]; exact ⟨by decide, by have : spanV 5 = 131072 := (by decide); omega, by right; have : spanV (5 - 1) = 65536 := (by decide); omega⟩
  · have e : blen (p - 1) = 6 := blen_6 (by omega) (by omega)
    rw [e]; exact ⟨by decide, by have : spanV 6 = 262144 := (by decide); omega, by right; have : spanV (6 - 1) = 131072 := (by decide); omega⟩
  · have e : blen (p - 1) = 7 := blen_7 (by omega) (by omega)
    rw [e]; exact ⟨by decide, by have : spanV 7 = 524288 := (by decide); omega, by right; have : spanV (7 - 1) = 262144 := (by decide); omega⟩
  · have e : blen (p - 1) = 8 := blen_8 (by omega) (by omega)
    rw [e]; exact ⟨by decide, by have : spanV 8 = 1048576 := (by decide); omega, by right; have : spanV (8 - 1) = 524288 := (by decide); omega⟩
  · have e : blen (p - 1) = 9 := blen_9 (by omega) (by omega)
    rw [e]; exact ⟨by decide, by have : spanV 9 = 2097152 := (by decide); omega, by right; have : spanV (9 - 1) = 1048576 := (by decide); omega⟩
  · have e : blen (p - 1) = 10 := blen_10 (by omega)
    rw [e]; exact ⟨by decide, by have : spanV 10 = 4194304 := (by decide); omega, by right; have : spanV (10 - 1) = 2097152 := (by decide); omega⟩

theorem ordV_bd (p : Int) : 0 ≤ ordV p ∧ ordV p ≤ 10 := by
  unfold ordV
  split
  · exact blen_bd _
  · omega

theorem pages_facts {n : Int} (h : isSize n = true) : 0 ≤ pagesV n ∧ pagesV n ≤ 1048576 ∧ n ≤ pagesV n * 4096 ∧ (0 < n → (pagesV n - 1) * 4096 < n) ∧ (n = 0 → pagesV n = 0) := by
  have h' := isSize_iff.1 h
  simp only [pagesV, h, if_true]
  omega

theorem up_facts {n a : Int} (h : upOk n a = true) : (1 ≤ a ∧ a ≤ 4096) ∧ (0 ≤ n ∧ n ≤ 4294967296) ∧ (n ≤ upV n a ∧ upV n a - n < a) ∧ Int.tmod (upV n a) a = 0 ∧ upV n a ≤ 4294967296 ∧ upOk (upV n a) a = true ∧ upV (upV n a) a = upV n a ∧ isSize n = true := by
  simp only [upOk, Bool.and_eq_true] at h
  obtain ⟨hn, ha⟩ := h
  obtain ⟨h1, h2⟩ := isSize_iff.1 hn
  obtain ⟨h3, h4, _⟩ := whole_iff.1 ha
  have hv := upV_ok hn ha
  obtain ⟨j, hj, haj⟩ := whole_pow ha
  generalize hq : (n + a - 1) / a = q at hv
  have e := Int.emod_add_mul_ediv (n + a - 1) a
  have l := Int.emod_lt_of_pos (n + a - 1) (show 0 < a by omega)
  have l0 := Int.emod_nonneg (n + a - 1) (show a ≠ 0 by omega)
  rw [hq] at e
  have hc : a * q = q * a := Int.mul_comm a q
  have hle : n ≤ upV n a := by omega
  have hlt : upV n a - n < a := by omega
  have hmax : upV n a ≤ 4294967296 := by
    have hk : a * ((2 ^ (32 - j) : Nat) : Int) = 4294967296 := by
      rw [haj, ← Int.natCast_mul, ← Nat.pow_add, show j + (32 - j) = 32 by omega]; decide
    generalize ((2 ^ (32 - j) : Nat) : Int) = k at hk
    have : q ≤ k := by
      rcases Int.lt_or_le k q with hlt2 | hle2
      · exfalso
        have : a * (k + 1) ≤ a * q := Int.mul_le_mul_of_nonneg_left (by omega) (by omega)
        rw [Int.mul_add] at this
        omega
      · exact hle2
    have : q * a ≤ k * a := Int.mul_le_mul_of_nonneg_right this (by omega)
    rw [hv]; rw [Int.mul_comm k a] at this; omega
  have hN : isSize (upV n a) = true := isSize_iff.2 ⟨by omega, hmax⟩
  have hidem : upV (upV n a) a = upV n a := by
    rw [upV_ok hN ha, hv]
    have : (q * a + a - 1) / a = q := by
      have : q * a + a - 1 = (a - 1) + a * q := by omega
      rw [this, Int.add_mul_ediv_left _ _ (by omega), Int.ediv_eq_zero_of_lt (by omega) (by omega), Int.zero_add]
    rw [this]
  refine ⟨⟨h3, h4⟩, ⟨h1, h2⟩, ⟨hle, hlt⟩, ?_, hmax, ?_, hidem, hn⟩
  · rw [hv]; exact Int.mul_tmod_left q a
  · simp [upOk, hN, ha]

end Go.Proofs.Ytdjdgdkkhadkoaa.K
