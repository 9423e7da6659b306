/-
  What the reference's rows and the set's rows have in common.
-/
import Derived.Test.YtnbkafnikpbmbaaDoorM2
namespace Go.Proofs.YtnbkafnikpbmbaaDoor.K
set_option linter.unusedSimpArgs false
set_option linter.unusedVariables false

theorem incLast_snoc (l : List Int) (a b : Int) : incLast (l ++ [a, b]) = l ++ [a, b + 1] := by
  unfold incLast
  have e : Int.toNat (((l ++ [a, b]).length : Int) - 1) = l.length + 1 := by simp; omega
  rw [e]
  have g : (l ++ [a, b]).getD (l.length + 1) 0 = b := by
    rw [List.getD_eq_getElem?_getD, List.getElem?_append_right (by omega)]
    simp
  rw [g, List.set_append_right _ _ (by omega)]
  simp

theorem rowsUp_succ (p : Nat → Bool) (i : Nat) : rowsUp p (i + 1) = if p i then incLast (if i = 0 ∨ p (i - 1) = false then rowsUp p i ++ [(i : Int), 0] else rowsUp p i) else rowsUp p i := rfl

theorem rowsUp_gap {p : Nat → Bool} {i : Nat} : ∀ m, (∀ y, i ≤ y → y < i + m → p y = false) → rowsUp p (i + m) = rowsUp p i
  | 0, _ => rfl
  | m + 1, h => by
    have ih := rowsUp_gap m fun y h1 h2 => h y h1 (by omega)
    show rowsUp p (i + m + 1) = _
    simp only [rowsUp]
    rw [h (i + m) (by omega) (by omega)]
    simpa using ih

theorem rowsUp_run {p : Nat → Bool} {i : Nat} (hs : i = 0 ∨ p (i - 1) = false) : ∀ m, (∀ y, i ≤ y → y < i + (m + 1) → p y = true) → rowsUp p (i + (m + 1)) = rowsUp p i ++ [(i : Int), ((m + 1 : Nat) : Int)]
  | 0, h => by
    show rowsUp p (i + 1) = _
    simp only [rowsUp]
    rw [if_pos (h i (by omega) (by omega)), if_pos hs, incLast_snoc]
    rfl
  | m + 1, h => by
    have ih := rowsUp_run hs m fun y h1 h2 => h y h1 (by omega)
    show rowsUp p (i + (m + 1) + 1) = _
    rw [rowsUp_succ p (i + (m + 1)), if_pos (h (i + (m + 1)) (by omega) (by omega)), if_neg ?_, ih, incLast_snoc]
    · congr 3
    · have := h (i + m) (by omega) (by omega)
      rw [show i + (m + 1) - 1 = i + m by omega, this]
      simp

theorem runsGo_up (p : Nat → Bool) (n : Nat) : ∀ f i, i ≤ n → n < i + f → (i < n → p i = true) → (i < n → i = 0 ∨ p (i - 1) = false) → rowsUp p n = rowsUp p i ++ flat (runsGo p n f i) := by
  intro f
  induction f with
  | zero => intro i h1 h2; omega
  | succ f ih =>
    intro i h1 h2 h3 h4
    by_cases hi : i < n
    · have hm := nxt_more hi (h3 hi)
      have hl := nxt_le p false h1
      have e1 : rowsUp p (nxt p false n i) = rowsUp p i ++ [(i : Int), ((nxt p false n i : Nat) : Int) - (i : Int)] := by
        have := rowsUp_run (h4 hi) (nxt p false n i - i - 1) (fun y a b => by
          have := nxt_miss (p := p) (v := false) (n := n) (i := i) (x := y) a (by omega)
          simpa using this)
        rw [show i + (nxt p false n i - i - 1 + 1) = nxt p false n i by omega] at this
        rw [this]
        congr 3
        omega
      have hg := nxt_ge p true n (nxt p false n i)
      have hl2 := nxt_le p true hl
      have e2 : rowsUp p (nxt p true n (nxt p false n i)) = rowsUp p (nxt p false n i) := by
        have := rowsUp_gap (p := p) (i := nxt p false n i) (nxt p true n (nxt p false n i) - nxt p false n i) (fun y a b => by
          have := nxt_miss (p := p) (v := true) (n := n) (i := nxt p false n i) (x := y) a (by omega)
          simpa using this)
        rwa [show nxt p false n i + (nxt p true n (nxt p false n i) - nxt p false n i) = nxt p true n (nxt p false n i) by omega] at this
      have e3 := ih (nxt p true n (nxt p false n i)) hl2 (by omega) (fun h => nxt_hit h) (fun h => by
        right
        have he : nxt p false n i < n := by omega
        have hpe := nxt_hit he
        have hpt := nxt_hit h
        have hne : nxt p true n (nxt p false n i) ≠ nxt p false n i := by
          intro e
          rw [e, hpe] at hpt
          cases hpt
        have := nxt_miss (p := p) (v := true) (n := n) (i := nxt p false n i) (x := nxt p true n (nxt p false n i) - 1) (by omega) (by omega)
        simpa using this)
      rw [e3, e2, e1]
      simp only [runsGo]
      rw [if_pos hi]
      simp [flat]
    · obtain rfl : i = n := by omega
      simp only [runsGo]
      rw [if_neg hi]
      simp [flat]

/-- What the reference's rows give is what the set's rows give. -/
theorem rowsUp_runs (p : Nat → Bool) (n : Nat) : rowsUp p n = flat (runs p n) := by
  have hl := nxt_le p true (Nat.zero_le n)
  have e := runsGo_up p n (n + 1) (nxt p true n 0) hl (by omega) (fun h => nxt_hit h) (fun h => by
    rcases Nat.eq_zero_or_pos (nxt p true n 0) with h0 | h0
    · exact .inl h0
    · right
      have := nxt_miss (p := p) (v := true) (n := n) (i := 0) (x := nxt p true n 0 - 1) (by omega) (by omega)
      simpa using this)
  have g := rowsUp_gap (p := p) (i := 0) (nxt p true n 0) (fun y a b => by
    have := nxt_miss (p := p) (v := true) (n := n) (i := 0) (x := y) a (by omega)
    simpa using this)
  rw [Nat.zero_add] at g
  rw [e, g]
  rfl

end Go.Proofs.YtnbkafnikpbmbaaDoor.K
