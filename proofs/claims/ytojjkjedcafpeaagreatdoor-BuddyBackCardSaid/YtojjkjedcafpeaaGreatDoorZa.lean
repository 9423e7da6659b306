/-
  Records of numbers and truths that are compared; whether a run is in a list.
-/
import Derived.Test.YtojjkjedcafpeaaGreatDoorM6
namespace Go.Proofs.YtojjkjedcafpeaaGreatDoor.K
set_option linter.unusedSimpArgs false
set_option linter.unusedVariables false

section
variable {L : List Rn} {x a k : Int} {b : Bool}
end
section
variable {m mo : AM} {N g G : Nat} {r r2 : Int} {q q2 : List Tg} {Q Q2 : Nat → List Int}
theorem cnt_lt (c : Nat) : ∀ n, c ≤ n → countTo (fun i => decide (i < c)) n = c
  | 0, h => by unfold countTo; omega
  | n + 1, h => by
    unfold countTo
    by_cases e : c ≤ n
    · rw [cnt_lt c n e, if_neg (by simp; omega)]; rfl
    · have hc : c = n + 1 := by omega
      subst hc
      rw [if_pos (by simp)]
      have : ∀ k, k ≤ n → countTo (fun i => decide (i < n + 1)) k = k := fun k => by
        induction k with
        | zero => intro _; rfl
        | succ k ih => intro hk; unfold countTo; rw [ih (by omega), if_pos (by simp; omega)]
      rw [this n (Nat.le_refl _)]
theorem Bdy.cntC (h : Bdy m N g r q Q) : countTo m.com m.cap = g + 1 := by
  have e : m.com = fun i => decide (i < g + 1) := funext h.bm.com
  have hc := h.bm.cap
  have hn := h.bm.cn
  have : m.cap = N + 1 := hc
  rw [e, this]; exact cnt_lt (g + 1) (N + 1) (by omega)
end
theorem cap_N {c : Int} (h : ¬ imax 0 (imin c 80) ≤ 1) : ∃ N : Nat, imax 0 (imin c 80) = (N : Int) + 1 ∧ 1 ≤ N ∧ N ≤ 79 := by
  have h2 : imax 0 (imin c 80) ≤ 80 := by unfold imax imin; split <;> split <;> omega
  exact ⟨(imax 0 (imin c 80) - 1).toNat, by omega, by omega, by omega⟩
theorem new_cap1 {c : Int} (h : c ≤ 1) : (AM.new c).cap ≤ 1 := by
  show capN c ≤ 1
  unfold capN imax imin; split <;> split <;> omega
/-- What Grow leaves, by numbers. -/
theorem gw_ok {N g : Nat} {r k : Int} (h : gwE N g r k = 0) : gwBad k = false ∧ ((gwG N g r k : Nat) : Int) = upG g k + 1 * 2 ^ k.toNat ∧ ((gwG N g r k : Nat) : Int) % (1 * 2 ^ k.toNat) = 0 ∧ (1 * 2 ^ k.toNat : Int) ≤ ((gwG N g r k : Nat) : Int) - (g : Int) ∧ ((gwG N g r k : Nat) : Int) - (g : Int) < 2 * (1 * 2 ^ k.toNat) := by
  obtain ⟨u1, u2, u3, u4⟩ := upG_facts g k
  have e : ((gwG N g r k : Nat) : Int) = upG g k + 1 * 2 ^ k.toNat := by unfold gwG; rw [if_pos h]; omega
  have hb : gwBad k = false := by
    unfold gwE at h
    split at h
    · omega
    · rename_i hb; simpa using hb
  refine ⟨hb, e, ?_, by omega, by omega⟩
  rw [e, Int.one_mul, Int.add_emod_right]
  have : ((upG g k).toNat : Int) % ((2 ^ k.toNat : Nat) : Int) = 0 := by rw [← Int.natCast_emod, u3]; rfl
  rw [Int.natCast_pow] at this
  rw [Int.toNat_of_nonneg (by omega)] at this
  exact this
theorem gw_no {N g : Nat} {r k : Int} (h : gwE N g r k ≠ 0) : gwG N g r k = g ∧ (gwE N g r k == 2) = (decide (k < 0) || decide (10 < k)) := by
  refine ⟨by unfold gwG; rw [if_neg h], ?_⟩
  show _ = gwBad k
  unfold gwE
  rcases gwBad k with _ | _
  · simp only [Bool.false_eq_true, if_false]; split
    · rfl
    · split <;> rfl
  · rfl
end Go.Proofs.YtojjkjedcafpeaaGreatDoor.K
