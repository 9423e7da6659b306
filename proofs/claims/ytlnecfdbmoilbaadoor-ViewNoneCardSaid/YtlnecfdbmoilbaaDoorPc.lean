/-
  How many bits of a word are set.
-/
import Derived.Test.YtlnecfdbmoilbaaDoorBu
namespace Go.Proofs.YtlnecfdbmoilbaaDoor.K
set_option linter.unusedSimpArgs false
set_option linter.unusedVariables false

/-- Digits of w bits, the lowest first. -/
def val (w : Nat) : List Nat → Nat
  | [] => 0
  | d :: l => d + 2 ^ w * val w l
def mask (w : Nat) : Nat → Nat
  | 0 => 0
  | n + 1 => (2 ^ w - 1) + 2 ^ (2 * w) * mask w n
def evens : List Nat → List Nat
  | [] => []
  | [a] => [a]
  | a :: _ :: l => a :: evens l
def pairs : List Nat → List Nat
  | [] => []
  | [a] => [a]
  | a :: b :: l => (a + b) :: pairs l
def adj : List Nat → List Nat
  | [] => []
  | [a] => [a]
  | a :: b :: l => (a + b) :: adj (b :: l)

theorem val_lt {w : Nat} : ∀ {l : List Nat}, (∀ d ∈ l, d < 2 ^ w) → val w l < 2 ^ (w * l.length)
  | [], _ => by simp [val]
  | d :: l, h => by
    have h1 := val_lt (l := l) fun x hx => h x (List.mem_cons_of_mem _ hx)
    have h2 := h d List.mem_cons_self
    simp only [val, List.length_cons]
    rw [Nat.mul_succ, Nat.pow_add, Nat.mul_comm (2 ^ (w * l.length))]
    have : 2 ^ w * (val w l + 1) ≤ 2 ^ w * 2 ^ (w * l.length) := Nat.mul_le_mul_left _ h1
    rw [Nat.mul_add] at this
    omega

theorem and_split {w a A b B : Nat} (ha : a < 2 ^ w) (hb : b < 2 ^ w) : (a + 2 ^ w * A) &&& (b + 2 ^ w * B) = (a &&& b) + 2 ^ w * (A &&& B) := by
  apply Nat.eq_of_testBit_eq
  intro i
  have hab : a &&& b < 2 ^ w := Nat.lt_of_le_of_lt Nat.and_le_left ha
  rw [Nat.testBit_and, Nat.add_comm a, Nat.add_comm b, Nat.add_comm (a &&& b), Nat.testBit_two_pow_mul_add A ha, Nat.testBit_two_pow_mul_add B hb, Nat.testBit_two_pow_mul_add _ hab]
  split
  · rw [Nat.testBit_and]
  · rw [Nat.testBit_and]

theorem val_and {w : Nat} : ∀ (n : Nat) (l : List Nat), l.length ≤ 2 * n → (∀ d ∈ l, d < 2 ^ w) → val w l &&& mask w n = val (2 * w) (evens l)
  | n, [], _, _ => by simp [val, evens]
  | 0, _ :: _, h, _ => by simp at h
  | n + 1, [a], _, h => by
    have ha := h a (by simp)
    have hp : 1 ≤ 2 ^ w := Nat.one_le_two_pow
    have hle : 2 ^ w ≤ 2 ^ (2 * w) := Nat.pow_le_pow_right (by omega) (by omega)
    simp only [val, mask, evens, Nat.mul_zero, Nat.add_zero]
    have := and_split (w := 2 * w) (a := a) (A := 0) (b := 2 ^ w - 1) (B := mask w n) (by omega) (by omega)
    rw [Nat.mul_zero, Nat.add_zero] at this
    rw [this, Nat.zero_and, Nat.mul_zero, Nat.add_zero, Nat.and_two_pow_sub_one_eq_mod, Nat.mod_eq_of_lt ha]
  | n + 1, a :: b :: l, hl, h => by
    have ha := h a (by simp)
    have hb := h b (by simp)
    have hp : 1 ≤ 2 ^ w := Nat.one_le_two_pow
    have ih := val_and n l (by simp at hl; omega) fun d hd => h d (by simp [hd])
    simp only [val, mask, evens]
    have e : 2 ^ (2 * w) = 2 ^ w * 2 ^ w := by rw [← Nat.pow_add]; congr 1; omega
    have hlt : a + 2 ^ w * b < 2 ^ (2 * w) := by
      rw [e]
      have : 2 ^ w * (b + 1) ≤ 2 ^ w * 2 ^ w := Nat.mul_le_mul_left _ hb
      rw [Nat.mul_add] at this
      omega
    have hle : 2 ^ w ≤ 2 ^ (2 * w) := Nat.pow_le_pow_right (by omega) (by omega)
    have e2 : a + 2 ^ w * (b + 2 ^ w * val w l) = (a + 2 ^ w * b) + 2 ^ (2 * w) * val w l := by
      rw [e, Nat.mul_add, Nat.mul_assoc, Nat.add_assoc]
    rw [e2, and_split hlt (by omega), ih, Nat.and_two_pow_sub_one_eq_mod, Nat.add_mul_mod_self_left, Nat.mod_eq_of_lt ha]

theorem val_shift {w d : Nat} {l : List Nat} (h : d < 2 ^ w) : val w (d :: l) / 2 ^ w = val w l := by
  simp only [val]
  rw [Nat.add_mul_div_left _ _ (Nat.pow_pos (by omega)), Nat.div_eq_of_lt h, Nat.zero_add]

theorem val_pairs {w : Nat} : ∀ (l : List Nat), val w (evens l.tail) + val w (evens l) = val w (pairs l)
  | [] => by simp [evens, pairs, val]
  | [a] => by simp [evens, pairs, val]
  | [a, b] => by simp [evens, pairs, val]; omega
  | a :: b :: c :: l => by
    have ih := val_pairs (w := w) (c :: l)
    simp only [List.tail_cons] at ih ⊢
    have e : evens (b :: c :: l) = b :: evens l := rfl
    have e1 : evens (a :: b :: c :: l) = a :: evens (c :: l) := rfl
    have e2 : pairs (a :: b :: c :: l) = (a + b) :: pairs (c :: l) := rfl
    rw [e, e1, e2]
    simp only [val]
    rw [← ih, Nat.mul_add]
    omega

theorem val_adj {w : Nat} : ∀ (l : List Nat), val w l.tail + val w l = val w (adj l)
  | [] => by simp [adj, val]
  | [a] => by simp [adj, val]
  | a :: b :: l => by
    have ih := val_adj (w := w) (b :: l)
    simp only [List.tail_cons] at ih ⊢
    have e2 : adj (a :: b :: l) = (a + b) :: adj (b :: l) := rfl
    rw [e2]
    show val w (b :: l) + (a + 2 ^ w * val w (b :: l)) = (a + b) + 2 ^ w * val w (adj (b :: l))
    rw [← ih, Nat.mul_add]
    have : val w (b :: l) = b + 2 ^ w * val w l := rfl
    omega

theorem evens_adj : ∀ (l : List Nat), evens (adj l) = pairs l
  | [] => rfl
  | [a] => rfl
  | [a, b] => rfl
  | a :: b :: c :: l => by
    have ih := evens_adj (c :: l)
    have e : adj (a :: b :: c :: l) = (a + b) :: (b + c) :: adj (c :: l) := rfl
    rw [e]
    show (a + b) :: evens (adj (c :: l)) = (a + b) :: pairs (c :: l)
    rw [ih]

theorem pairs_sum : ∀ (l : List Nat), (pairs l).sum = l.sum
  | [] => rfl
  | [a] => rfl
  | a :: b :: l => by
    have := pairs_sum l
    simp only [pairs, List.sum_cons, this]; omega

theorem pairs_le {m : Nat} : ∀ (l : List Nat), (∀ d ∈ l, d ≤ m) → ∀ d ∈ pairs l, d ≤ 2 * m
  | [], _ => by simp [pairs]
  | [a], h => by
    intro d hd
    simp only [pairs, List.mem_singleton] at hd
    subst hd
    have := h d (by simp); omega
  | a :: b :: l, h => by
    intro d hd
    simp only [pairs, List.mem_cons] at hd
    rcases hd with rfl | hd
    · have := h a (by simp); have := h b (by simp); omega
    · exact pairs_le l (fun x hx => h x (by simp [hx])) d hd

theorem adj_le {m : Nat} : ∀ (l : List Nat), (∀ d ∈ l, d ≤ m) → ∀ d ∈ adj l, d ≤ 2 * m
  | [], _ => by simp [adj]
  | [a], h => by
    intro d hd
    simp only [adj, List.mem_singleton] at hd
    subst hd
    have := h d (by simp); omega
  | a :: b :: l, h => by
    intro d hd
    simp only [adj, List.mem_cons] at hd
    rcases hd with rfl | hd
    · have := h a (by simp); have := h b (by simp); omega
    · exact adj_le (b :: l) (fun x hx => h x (by simp at hx ⊢; exact .inr hx)) d hd

theorem adj_length : ∀ (l : List Nat), (adj l).length = l.length
  | [] => rfl
  | [a] => rfl
  | a :: b :: l => by
    have := adj_length (b :: l)
    simp only [adj, List.length_cons] at this ⊢
    omega

theorem pairs_length : ∀ (l : List Nat), (pairs l).length = (l.length + 1) / 2
  | [] => rfl
  | [a] => by simp [pairs]
  | a :: b :: l => by
    have := pairs_length l
    simp only [pairs, List.length_cons]
    omega

/-- One step: neighbours added. -/
theorem step_sum {w n : Nat} {l : List Nat} (hl : l.length ≤ 2 * n) (h : ∀ d ∈ l, d < 2 ^ w) : (val w l / 2 ^ w &&& mask w n) + (val w l &&& mask w n) = val (2 * w) (pairs l) := by
  rw [val_and n l hl h, ← val_pairs]
  congr 1
  cases l with
  | nil => simp [val, evens]
  | cons d l =>
    rw [val_shift (h d (by simp)), List.tail_cons]
    exact val_and n l (by simp at hl; omega) fun x hx => h x (by simp [hx])

theorem step_mid {w n : Nat} {l : List Nat} (hl : l.length ≤ 2 * n) (h : ∀ d ∈ l, 2 * d < 2 ^ w) : (val w l / 2 ^ w + val w l) &&& mask w n = val (2 * w) (pairs l) := by
  have e : val w l / 2 ^ w + val w l = val w (adj l) := by
    rw [← val_adj]
    congr 1
    cases l with
    | nil => simp [val]
    | cons d l => rw [val_shift (by have := h d (by simp); omega), List.tail_cons]
  rw [e, val_and n (adj l) (by rw [adj_length]; exact hl) ?_, evens_adj]
  intro d hd
  have := adj_le (m := (2 ^ w - 1) / 2) l (fun x hx => by have := h x hx; omega) d hd
  have hp : 1 ≤ 2 ^ w := Nat.one_le_two_pow
  omega

/-- The bits of a word. -/
def bits (x : Nat) : Nat → List Nat
  | 0 => []
  | n + 1 => x % 2 :: bits (x / 2) n
theorem bits_val : ∀ (n x : Nat), x < 2 ^ n → val 1 (bits x n) = x
  | 0, x, h => by simp at h; subst h; rfl
  | n + 1, x, h => by
    simp only [bits, val]
    rw [bits_val n (x / 2) (by rw [Nat.pow_succ] at h; omega)]
    omega
theorem bits_le : ∀ (n x : Nat), ∀ d ∈ bits x n, d ≤ 1
  | 0, _ => by simp [bits]
  | n + 1, x => by
    intro d hd
    simp only [bits, List.mem_cons] at hd
    rcases hd with rfl | hd
    · omega
    · exact bits_le n _ d hd
theorem bits_length : ∀ (n x : Nat), (bits x n).length = n
  | 0, _ => rfl
  | n + 1, x => by simp [bits, bits_length n]

end Go.Proofs.YtlnecfdbmoilbaaDoor.K
