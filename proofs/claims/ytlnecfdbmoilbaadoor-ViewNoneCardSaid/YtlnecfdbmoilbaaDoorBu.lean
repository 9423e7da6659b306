/-
  Rows of bits: counting, sameness.
-/
import Derived.Test.YtlnecfdbmoilbaaDoorBt
namespace Go.Proofs.YtlnecfdbmoilbaaDoor.K
set_option linter.unusedSimpArgs false
set_option linter.unusedVariables false

def pc1 (x : Int) : Int := IntKind.wrap .u64 (iand .u64 (Int.fdiv x (2 ^ 1)) 6148914691236517205 + iand .u64 x 6148914691236517205)
def pc2 (x : Int) : Int := IntKind.wrap .u64 (iand .u64 (Int.fdiv x (2 ^ 2)) 3689348814741910323 + iand .u64 x 3689348814741910323)
def pc3 (x : Int) : Int := iand .u64 (IntKind.wrap .u64 (Int.fdiv x (2 ^ 4) + x)) 1085102592571150095
def pc4 (k : Nat) (x : Int) : Int := IntKind.wrap .u64 (x + Int.fdiv x (2 ^ k))
/-- How many bits of a word are set, as it is reckoned. -/
def pcI (x : Int) : Int := iand .i64 (IntKind.wrap .i64 (pc4 32 (pc4 16 (pc4 8 (pc3 (pc2 (pc1 x))))))) 127

theorem pc_all : (List.range 65).all (fun r => (List.range 65).all fun k => decide (64 < r + k) || (pcI ((mkM r k : Nat) : Int) == (k : Int))) = true := by decide +kernel

theorem pc_mask {r k : Nat} (h : r + k ≤ 64) : pcI ((mkM r k : Nat) : Int) = (k : Int) := by
  have := List.all_eq_true.1 (List.all_eq_true.1 pc_all r (List.mem_range.2 (by omega))) k (List.mem_range.2 (by omega))
  simp only [Bool.or_eq_true, decide_eq_true_eq, beq_iff_eq] at this
  rcases this with h1 | h1
  · omega
  · exact h1

theorem pc_zero : pcI 0 = 0 := by decide +kernel

/-- A word behind a mask, where the places are all alike. -/
theorem Words.masked {ws : Nat → Nat} {nw n : Nat} {p : Nat → Bool} (h : Words ws nw n p) {x k : Nat} {b : Bool} (hk : x % 64 + k ≤ 64) (hn : x + k ≤ n) (hk1 : 1 ≤ k) (hb : ∀ y, x ≤ y → y < x + k → p y = b) :
    ws (x / 64) &&& mkM (x % 64) k = if b then mkM (x % 64) k else 0 := by
  have hj : x / 64 < nw := by rw [h.many]; omega
  apply Nat.eq_of_testBit_eq
  intro i
  rw [Nat.testBit_and, mkM_bit]
  by_cases hi : x % 64 ≤ i ∧ i < x % 64 + k
  · rw [h.bit _ hj i (by omega), hb (64 * (x / 64) + i) (by omega) (by omega)]
    have h1 : 64 * (x / 64) + i < n := by omega
    cases b <;> simp [hi, h1, mkM_bit]
  · have h1 : (decide (x % 64 ≤ i) && decide (i < x % 64 + k)) = false := by simpa using fun a => by omega
    rw [h1]
    cases b
    · simp
    · simp only [Bool.and_false, if_true]; rw [mkM_bit, h1]

theorem pc_masked {ws : Nat → Nat} {nw n : Nat} {p : Nat → Bool} (h : Words ws nw n p) {f k x m : Int} {b : Bool} (hf : 0 ≤ f) (hx : f ≤ x) (hm : 1 ≤ m) (hm2 : m ≤ 64 - x % 64) (hn : x + m ≤ (n : Int)) (hxm : x + m ≤ f + k) (hb : ∀ y : Int, f ≤ y → y < f + k → p y.toNat = b) :
    pcI (((ws (Int.toNat (x / 64)) &&& mkM (Int.toNat (x % 64)) (Int.toNat m) : Nat)) : Int) = if b then m else 0 := by
  have := h.masked (x := x.toNat) (k := m.toNat) (b := b) (by omega) (by omega) (by omega) (fun y h1 h2 => by
    have := hb (y : Int) (by omega) (by omega)
    simpa using this)
  rw [show Int.toNat (x / 64) = x.toNat / 64 by omega, show Int.toNat (x % 64) = x.toNat % 64 by omega, this]
  cases b
  · exact pc_zero
  · simp only [if_true]; rw [pc_mask (by omega)]; omega

/-- Two rows of words the same. -/
def eqW (n1 n2 : Nat) (w1 w2 : Nat → Nat) : Bool := n1 == n2 && (List.range n1).all (fun j => w1 j == w2 j)

theorem eqW_len {n1 n2 : Nat} {w1 w2 : Nat → Nat} (h : ¬ (n1 : Int) = (n2 : Int)) : false = eqW n1 n2 w1 w2 := by
  have : n1 ≠ n2 := fun e => h (by rw [e])
  simp [eqW, this]
theorem eqW_at {n1 n2 : Nat} {w1 w2 : Nat → Nat} {x : Int} (h0 : 0 ≤ x ∧ x < (n1 : Int)) (he : ¬ ((w1 (Int.toNat x) : Nat) : Int) = ((w2 (Int.toNat x) : Nat) : Int)) : false = eqW n1 n2 w1 w2 := by
  symm
  unfold eqW
  rw [Bool.and_eq_false_iff]
  right
  rw [Bool.eq_false_iff]
  intro h
  have := List.all_eq_true.1 h x.toNat (List.mem_range.2 (by omega))
  rw [beq_iff_eq] at this
  exact he (by rw [this])
theorem eqW_all {n1 n2 : Nat} {w1 w2 : Nat → Nat} (hl : n1 = n2) (h : ∀ j, j < n1 → w1 j = w2 j) : true = eqW n1 n2 w1 w2 := by
  symm
  unfold eqW
  rw [Bool.and_eq_true]
  refine ⟨by simpa using hl, List.all_eq_true.2 fun j hj => ?_⟩
  rw [beq_iff_eq]
  exact h j (List.mem_range.1 hj)

theorem Words.same {w1 w2 : Nat → Nat} {nw n : Nat} {p q : Nat → Bool} (h1 : Words w1 nw n p) (h2 : Words w2 nw n q) (hpq : ∀ x, x < n → p x = q x) : eqW nw nw w1 w2 = true := by
  refine (eqW_all rfl fun j hj => ?_).symm
  apply Nat.eq_of_testBit_eq
  intro i
  by_cases hi : i < 64
  · rw [h1.bit j hj i hi, h2.bit j hj i hi]
    by_cases hx : 64 * j + i < n
    · rw [hpq _ hx]
    · simp [hx]
  · rw [Nat.testBit_lt_two_pow (Nat.lt_of_lt_of_le (h1.small j hj) (Nat.pow_le_pow_right (by omega) (by omega))), Nat.testBit_lt_two_pow (Nat.lt_of_lt_of_le (h2.small j hj) (Nat.pow_le_pow_right (by omega) (by omega)))]

theorem wth_of {n : Nat} {f k : Int} (h0 : 0 ≤ f) (h1 : 0 ≤ k) (h2 : f + k ≤ (n : Int)) : wth n f k = true := by
  simp only [wth, Bool.and_eq_true, decide_eq_true_eq]; omega
theorem trnE_0 {n : Nat} {f k : Int} (h0 : 0 ≤ f) (h1 : 0 ≤ k) (h2 : f + k ≤ (n : Int)) : trnE n f k = 0 := (trnE_yes (wth_of h0 h1 h2)).symm
theorem trnE_wth {n : Nat} {f k : Int} (h : trnE n f k = 0) : wth n f k = true := by
  unfold trnE at h
  split at h
  · assumption
  · omega
theorem trnE_wf {n : Nat} {f k : Int} (h : ¬ trnE n f k = 0) : wth n f k = false := by
  unfold trnE at h
  split at h
  · exact absurd rfl h
  · simp_all
theorem trn_in {p : Nat → Bool} {n : Nat} {f k y : Int} {b : Bool} (h : wth n f k = true) (h1 : f ≤ y) (h2 : y < f + k) : trn p n f k b y.toNat = b := by
  obtain ⟨a, c, d⟩ := wth_facts h
  rw [trn_yes h]
  unfold setR
  rw [if_pos (by omega)]
theorem parts_eq {p : Nat → Bool} {n : Nat} {f k c : Int} (h0 : 0 ≤ f) (h1 : 0 ≤ c) (h2 : c ≤ k) (h3 : f + k ≤ (n : Int)) : trn (trn p n f c true) n (f + c) (k - c) true = trn p n f k true := by
  rw [trn_yes (wth_of (by omega) (by omega) (by omega)), trn_yes (wth_of h0 h1 (by omega)), trn_yes (wth_of h0 (by omega) h3), show (f + c).toNat = f.toNat + c.toNat by omega, setR_setR, show c.toNat + (k - c).toNat = k.toNat by omega]

end Go.Proofs.YtlnecfdbmoilbaaDoor.K
