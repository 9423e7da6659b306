/-
  How many bits of a word are set: the reckoning.
-/
import Derived.Test.YtlnecfdbmoilbaaDoorPc
namespace Go.Proofs.YtlnecfdbmoilbaaDoor.K
set_option linter.unusedSimpArgs false
set_option linter.unusedVariables false

theorem val_sum {w : Nat} {l : List Nat} (h : ∀ d ∈ l, d < 2 ^ w) : val w l / 2 ^ w + val w l = val w (adj l) := by
  rw [← val_adj]
  congr 1
  cases l with
  | nil => simp [val]
  | cons d l => rw [val_shift (h d (by simp)), List.tail_cons]

theorem val_sum_lt {w n : Nat} {l : List Nat} (h : ∀ d ∈ l, 2 * d < 2 ^ w) (hl : l.length = n) : val w l / 2 ^ w + val w l < 2 ^ (w * n) := by
  rw [val_sum (fun d hd => by have := h d hd; omega)]
  have := val_lt (w := w) (l := adj l) (fun d hd => by
    have := adj_le (m := (2 ^ w - 1) / 2) l (fun x hx => by have := h x hx; omega) d hd
    have hp : 1 ≤ 2 ^ w := Nat.one_le_two_pow
    omega)
  rw [adj_length, hl] at this
  exact this

theorem v2 {a b : Nat} {l : List Nat} (ha : a < 256) (hb : b < 256) : val 8 (a :: b :: l) / 2 ^ 16 = val 8 l := by
  rw [show (2 : Nat) ^ 16 = 2 ^ 8 * 2 ^ 8 from rfl, ← Nat.div_div_eq_div_mul, val_shift (w := 8) ha, val_shift (w := 8) hb]

theorem v4 {a b c d : Nat} {l : List Nat} (ha : a < 256) (hb : b < 256) (hc : c < 256) (hd : d < 256) : val 8 (a :: b :: c :: d :: l) / 2 ^ 32 = val 8 l := by
  rw [show (2 : Nat) ^ 32 = 2 ^ 16 * 2 ^ 16 from rfl, ← Nat.div_div_eq_div_mul, v2 ha hb, v2 hc hd]

theorem vlow {d : Nat} {l : List Nat} (h : d < 128) : val 8 (d :: l) % 128 = d := by
  show (d + 2 ^ 8 * val 8 l) % 128 = d
  omega

theorem val8_lt {l : List Nat} (h : ∀ d ∈ l, d < 256) (hl : l.length = 8) : val 8 l < 2 ^ 64 := by
  have := val_lt (w := 8) (l := l) h
  rw [hl] at this
  exact this

theorem all8 {P : Nat → Prop} {a b c d e f g h : Nat} (ha : P a) (hb : P b) (hc : P c) (hd : P d) (he : P e) (hf : P f) (hg : P g) (hh : P h) : ∀ x ∈ [a, b, c, d, e, f, g, h], P x := by
  intro x hx
  simp only [List.mem_cons, List.not_mem_nil, or_false] at hx
  rcases hx with rfl | rfl | rfl | rfl | rfl | rfl | rfl | rfl <;> assumption

theorem last_steps {f0 f1 f2 f3 f4 f5 f6 f7 : Nat} (h0 : f0 ≤ 8) (h1 : f1 ≤ 8) (h2 : f2 ≤ 8) (h3 : f3 ≤ 8) (h4 : f4 ≤ 8) (h5 : f5 ≤ 8) (h6 : f6 ≤ 8) (h7 : f7 ≤ 8) :
    ∃ a : Nat, a = val 8 [f0, f1, f2, f3, f4, f5, f6, f7] + val 8 [f0, f1, f2, f3, f4, f5, f6, f7] / 2 ^ 8 ∧ a < 2 ^ 64 ∧ ∃ b : Nat, b = a + a / 2 ^ 16 ∧ b < 2 ^ 64 ∧ ∃ c : Nat, c = b + b / 2 ^ 32 ∧ c < 2 ^ 64 ∧ c % 128 = f0 + f1 + f2 + f3 + f4 + f5 + f6 + f7 := by
  have ea : val 8 [f0, f1, f2, f3, f4, f5, f6, f7] + val 8 [f0, f1, f2, f3, f4, f5, f6, f7] / 2 ^ 8 = val 8 [f0 + f1, f1 + f2, f2 + f3, f3 + f4, f4 + f5, f5 + f6, f6 + f7, f7] := by
    rw [val_shift (w := 8) (by omega), Nat.add_comm]
    exact val_adj (w := 8) [f0, f1, f2, f3, f4, f5, f6, f7]
  refine ⟨_, ea.symm, val8_lt (all8 (by omega) (by omega) (by omega) (by omega) (by omega) (by omega) (by omega) (by omega)) rfl, ?_⟩
  have eb : val 8 [f0 + f1, f1 + f2, f2 + f3, f3 + f4, f4 + f5, f5 + f6, f6 + f7, f7] + val 8 [f0 + f1, f1 + f2, f2 + f3, f3 + f4, f4 + f5, f5 + f6, f6 + f7, f7] / 2 ^ 16 =
      val 8 [f0 + f1 + (f2 + f3), f1 + f2 + (f3 + f4), f2 + f3 + (f4 + f5), f3 + f4 + (f5 + f6), f4 + f5 + (f6 + f7), f5 + f6 + f7, f6 + f7, f7] := by
    rw [v2 (by omega) (by omega)]
    simp only [val, Nat.mul_add]
    omega
  refine ⟨_, eb.symm, val8_lt (all8 (by omega) (by omega) (by omega) (by omega) (by omega) (by omega) (by omega) (by omega)) rfl, ?_⟩
  generalize hg0 : f0 + f1 + (f2 + f3) = g0
  generalize hg1 : f1 + f2 + (f3 + f4) = g1
  generalize hg2 : f2 + f3 + (f4 + f5) = g2
  generalize hg3 : f3 + f4 + (f5 + f6) = g3
  generalize hg4 : f4 + f5 + (f6 + f7) = g4
  generalize hg5 : f5 + f6 + f7 = g5
  generalize hg6 : f6 + f7 = g6
  have ec : val 8 [g0, g1, g2, g3, g4, g5, g6, f7] + val 8 [g0, g1, g2, g3, g4, g5, g6, f7] / 2 ^ 32 = val 8 [g0 + g4, g1 + g5, g2 + g6, g3 + f7, g4, g5, g6, f7] := by
    rw [v4 (by omega) (by omega) (by omega) (by omega)]
    clear hg0 hg1 hg2 hg3 hg4 hg5 hg6
    simp only [val, Nat.mul_add]
    omega
  refine ⟨_, ec.symm, val8_lt (all8 (by omega) (by omega) (by omega) (by omega) (by omega) (by omega) (by omega) (by omega)) rfl, ?_⟩
  rw [vlow (by omega)]
  omega

end Go.Proofs.YtlnecfdbmoilbaaDoor.K
