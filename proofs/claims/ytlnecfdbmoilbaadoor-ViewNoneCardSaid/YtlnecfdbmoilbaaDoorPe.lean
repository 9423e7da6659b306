/-
  How many bits of a word are set: the reckoning.
-/
import Derived.Test.YtlnecfdbmoilbaaDoorPd
namespace Go.Proofs.YtlnecfdbmoilbaaDoor.K
set_option linter.unusedSimpArgs false
set_option linter.unusedVariables false

/-- How many bits of x are set, below n. -/
def pcN (x n : Nat) : Nat := (bits x n).sum

theorem mask1 : mask 1 32 = 6148914691236517205 := by decide +kernel
theorem mask2 : mask 2 16 = 3689348814741910323 := by decide +kernel
theorem mask4 : mask 4 8 = 1085102592571150095 := by decide +kernel

theorem fdiv_nat (x k : Nat) : Int.fdiv ((x : Nat) : Int) (2 ^ k) = ((x / 2 ^ k : Nat) : Int) := by
  rw [Int.fdiv_eq_ediv_of_nonneg _ (Int.le_of_lt (Int.pow_pos (by omega)))]
  push_cast
  rfl

theorem iand_i {a b : Nat} (ha : a < 2 ^ 63) (hb : b < 2 ^ 63) : iand .i64 (a : Int) (b : Int) = ((a &&& b : Nat) : Int) := by
  unfold iand
  show IntKind.i64.wrap ((BitVec.ofInt 64 (a : Int) &&& BitVec.ofInt 64 (b : Int)).toNat : Int) = _
  rw [ofInt_nat64, ofInt_nat64, BitVec.toNat_and, BitVec.toNat_ofNat, BitVec.toNat_ofNat, Nat.mod_eq_of_lt (by omega), Nat.mod_eq_of_lt (by omega)]
  have : a &&& b ≤ a := Nat.and_le_left
  exact i64_in (by omega)

theorem pc1_nat {x : Nat} (h : x < 2 ^ 64) (h2 : (x / 2 ^ 1 &&& 6148914691236517205) + (x &&& 6148914691236517205) < 2 ^ 64) : pc1 (x : Int) = (((x / 2 ^ 1 &&& 6148914691236517205) + (x &&& 6148914691236517205) : Nat) : Int) := by
  unfold pc1
  rw [fdiv_nat]
  have e1 := iand_u (a := x / 2 ^ 1) (b := 6148914691236517205) (Nat.lt_of_le_of_lt (Nat.div_le_self _ _) h) (by decide)
  have e2 := iand_u (a := x) (b := 6148914691236517205) h (by decide)
  have c : ((6148914691236517205 : Nat) : Int) = 6148914691236517205 := rfl
  rw [c] at e1 e2
  rw [e1, e2, ← Int.natCast_add]
  exact wrapU_nat h2

theorem pc2_nat {x : Nat} (h : x < 2 ^ 64) (h2 : (x / 2 ^ 2 &&& 3689348814741910323) + (x &&& 3689348814741910323) < 2 ^ 64) : pc2 (x : Int) = (((x / 2 ^ 2 &&& 3689348814741910323) + (x &&& 3689348814741910323) : Nat) : Int) := by
  unfold pc2
  rw [fdiv_nat]
  have e1 := iand_u (a := x / 2 ^ 2) (b := 3689348814741910323) (Nat.lt_of_le_of_lt (Nat.div_le_self _ _) h) (by decide)
  have e2 := iand_u (a := x) (b := 3689348814741910323) h (by decide)
  have c : ((3689348814741910323 : Nat) : Int) = 3689348814741910323 := rfl
  rw [c] at e1 e2
  rw [e1, e2, ← Int.natCast_add]
  exact wrapU_nat h2

theorem pc3_nat {x : Nat} (h2 : x / 2 ^ 4 + x < 2 ^ 64) : pc3 (x : Int) = (((x / 2 ^ 4 + x) &&& 1085102592571150095 : Nat) : Int) := by
  unfold pc3
  rw [fdiv_nat, ← Int.natCast_add, wrapU_nat h2]
  exact iand_u h2 (by decide)

theorem pc4_nat {k x : Nat} (h2 : x + x / 2 ^ k < 2 ^ 64) : pc4 k (x : Int) = ((x + x / 2 ^ k : Nat) : Int) := by
  unfold pc4
  rw [fdiv_nat, ← Int.natCast_add, wrapU_nat h2]

theorem wrap_mod {c : Nat} (h : c < 18446744073709551616) : IntKind.i64.wrap (c : Int) % 18446744073709551616 = (c : Int) := by
  rw [IntKind.wrap_i64]; omega

theorem ofInt_wrap {c : Nat} (h : c < 18446744073709551616) : BitVec.ofInt 64 (IntKind.i64.wrap (c : Int)) = BitVec.ofNat 64 c := by
  apply BitVec.eq_of_toNat_eq
  rw [BitVec.toNat_ofInt, bv_small h]
  have e := wrap_mod h
  generalize IntKind.i64.wrap (c : Int) = y at *
  rw [show (2 : Nat) ^ 64 = 18446744073709551616 by decide +kernel]
  omega

theorem low7 {c : Nat} (h : c < 18446744073709551616) : iand .i64 (IntKind.wrap .i64 (c : Int)) 127 = ((c % 128 : Nat) : Int) := by
  unfold iand
  show IntKind.i64.wrap ((BitVec.ofInt 64 (IntKind.i64.wrap (c : Int)) &&& BitVec.ofInt 64 ((127 : Nat) : Int)).toNat : Int) = _
  rw [ofInt_wrap h, ofInt_nat64, BitVec.toNat_and, bv_small h, bv_small (by decide), show (127 : Nat) = 2 ^ 7 - 1 by decide, Nat.and_two_pow_sub_one_eq_mod]
  exact i64_in (by omega)

set_option maxRecDepth 10000 in
theorem pcI_eq {x : Nat} (h : x < 2 ^ 64) : pcI (x : Int) = ((pcN x 64 : Nat) : Int) := by
  -- the bits
  have l0 : (bits x 64).length = 64 := bits_length 64 x
  have m0 : ∀ d ∈ bits x 64, d ≤ 1 := bits_le 64 x
  have v0 : val 1 (bits x 64) = x := bits_val 64 x h
  -- by twos
  have s1 := step_sum (w := 1) (n := 32) (l := bits x 64) (by omega) (fun d hd => by have := m0 d hd; omega)
  rw [v0, mask1] at s1
  have l1 : (pairs (bits x 64)).length = 32 := by rw [pairs_length, l0]
  have m1 := pairs_le _ m0
  have u1 : (pairs (bits x 64)).sum = pcN x 64 := pairs_sum _
  generalize pairs (bits x 64) = c1 at s1 l1 m1 u1
  have b1 : val (2 * 1) c1 < 2 ^ 64 := by have := val_lt (w := 2) (l := c1) (fun d hd => by have := m1 d hd; omega); rw [l1] at this; exact this
  -- by fours
  have s2 := step_sum (w := 2) (n := 16) (l := c1) (by omega) (fun d hd => by have := m1 d hd; omega)
  rw [mask2] at s2
  have l2 : (pairs c1).length = 16 := by rw [pairs_length, l1]
  have m2 := pairs_le _ m1
  have u2 : (pairs c1).sum = pcN x 64 := (pairs_sum _).trans u1
  generalize pairs c1 = c2 at s2 l2 m2 u2
  have b2 : val (2 * 2) c2 < 2 ^ 64 := by have := val_lt (w := 4) (l := c2) (fun d hd => by have := m2 d hd; omega); rw [l2] at this; exact this
  -- by eights
  have s3 := step_mid (w := 4) (n := 8) (l := c2) (by omega) (fun d hd => by have := m2 d hd; omega)
  rw [mask4] at s3
  have l3 : (pairs c2).length = 8 := by rw [pairs_length, l2]
  have m3 := pairs_le _ m2
  have u3 : (pairs c2).sum = pcN x 64 := (pairs_sum _).trans u2
  generalize pairs c2 = c3 at s3 l3 m3 u3
  have b3 := val_sum_lt (w := 4) (n := 16) (l := c2) (fun d hd => by have := m2 d hd; omega) l2
  rw [show 4 * 16 = 64 from rfl] at b3
  match c3, l3 with
  | [f0, f1, f2, f3, f4, f5, f6, f7], _ =>
    obtain ⟨a, ha, ha2, b, hb, hb2, c, hc, hc2, hcm⟩ := last_steps (m3 f0 (by simp)) (m3 f1 (by simp)) (m3 f2 (by simp)) (m3 f3 (by simp)) (m3 f4 (by simp)) (m3 f5 (by simp)) (m3 f6 (by simp)) (m3 f7 (by simp))
    unfold pcI
    have t1 : pc1 (x : Int) = ((val (2 * 1) c1 : Nat) : Int) := by rw [pc1_nat h (by rw [s1]; exact b1), s1]
    have t2 : pc2 ((val (2 * 1) c1 : Nat) : Int) = ((val (2 * 2) c2 : Nat) : Int) := by rw [pc2_nat b1 (by rw [s2]; exact b2), s2]
    have t3 : pc3 ((val (2 * 2) c2 : Nat) : Int) = ((val (2 * 4) [f0, f1, f2, f3, f4, f5, f6, f7] : Nat) : Int) := by rw [pc3_nat b3, s3]
    rw [t1, t2, t3, pc4_nat (by rw [← ha]; exact ha2), ← ha, pc4_nat (by rw [← hb]; exact hb2), ← hb, pc4_nat (by rw [← hc]; exact hc2), ← hc, ← u3]
    have e5 := low7 (c := c) hc2
    rw [e5, hcm]
    simp [List.sum_cons, Nat.add_assoc]

end Go.Proofs.YtlnecfdbmoilbaaDoor.K
