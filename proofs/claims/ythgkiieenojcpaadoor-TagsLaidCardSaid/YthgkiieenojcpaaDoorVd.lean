/-
  What a run that was laid tells.
-/
import Derived.Test.YthgkiieenojcpaaDoorVa
namespace Go.Proofs.YthgkiieenojcpaaDoor.K
set_option linter.unusedSimpArgs false
set_option linter.unusedVariables false

theorem lay_back {q : List Tg} {i n : Int} {f : Tg} (hf : f.1 ≠ 1) (h0 : 0 ≤ i) (hn : i + n ≤ (q.length : Int)) : ∀ k : Nat, (k : Int) < n → rrAt (layL q i n f (1, 0)) (i.toNat + k) = i
  | 0, hk => by
    have e := layL_at q i n f (1, 0) (j := i.toNat) (by omega)
    rw [if_pos (by omega), if_pos (by omega)] at e
    obtain ⟨x, hx⟩ : ∃ x, i.toNat = x := ⟨_, rfl⟩
    rw [Nat.add_zero, hx]
    rw [hx] at e
    cases x with
    | zero =>
      show (if (gtD (layL q i n f (1, 0)) 0).1 = 1 then (-1 : Int) else 0) = i
      rw [e, if_neg hf]; omega
    | succ x =>
      show (if (gtD (layL q i n f (1, 0)) (x + 1)).1 = 1 then rrAt (layL q i n f (1, 0)) x else ((x + 1 : Nat) : Int)) = i
      rw [e, if_neg hf]; omega
  | k + 1, hk => by
    have ih := lay_back hf h0 hn k (by omega)
    have e := layL_at q i n f (1, 0) (j := i.toNat + (k + 1)) (by omega)
    rw [if_pos (by omega), if_neg (by omega)] at e
    rw [show i.toNat + (k + 1) = (i.toNat + k) + 1 by omega] at e ⊢
    show (if (gtD (layL q i n f (1, 0)) (i.toNat + k + 1)).1 = 1 then rrAt (layL q i n f (1, 0)) (i.toNat + k) else _) = i
    rw [e, if_pos rfl]; exact ih
/-- Of a run that was laid each page tells it. -/
theorem run_laid {q : List Tg} {i a s x : Int} (hs : s = 2 ∨ s = 3) (h : rlE q i a s = 0) (h0 : 0 ≤ x) (h1 : x < pgsN a) : rrV (rlQ q i a s) (i + x) = i ∧ rrT (rlQ q i a s) (i + x) = (s, a) ∧ rrE (rlQ q i a s) (i + x) = 0 := by
  have hb : rlBad a s = false := by
    unfold rlE at h
    cases e : rlBad a s with
    | true => rw [e, if_pos rfl] at h; omega
    | false => rfl
  obtain ⟨b1, b2, b3, b4⟩ := rlBad_in hb
  have hc : ¬ (i < 0 ∨ (q.length : Int) < pgsN a ∨ (q.length : Int) - pgsN a < i) := fun e => by
    unfold rlE at h; rw [hb, if_neg (by decide), if_pos e] at h; omega
  have hbd := pgsN_bd b2
  have hl := layL_len q i (pgsN a) (s, a) (1, 0)
  have eQ : rlQ q i a s = layL q i (pgsN a) (s, a) (1, 0) := by
    unfold rlQ; rw [if_pos h]; unfold rlF rlO; rw [if_neg (by omega), if_neg (by omega)]
  rw [eQ]
  have hg : rgE (layL q i (pgsN a) (s, a) (1, 0)) (i + x) = 0 := by unfold rgE; rw [if_neg (by rw [hl]; omega)]
  have hi : rrI (layL q i (pgsN a) (s, a) (1, 0)) (i + x) = i := by
    have := lay_back (q := q) (i := i) (n := pgsN a) (f := (s, a)) (by show s ≠ 1; omega) (by omega) (by omega) x.toNat (by omega)
    unfold rrI
    rw [if_neg (by omega), show (i + x).toNat = i.toNat + x.toNat by omega]; exact this
  have e := layL_at q i (pgsN a) (s, a) (1, 0) (j := i.toNat) (by omega)
  rw [if_pos (by omega), if_pos (by omega)] at e
  obtain ⟨r1, r2, r3⟩ := rr_4 hg hi (by omega) (by
    rw [e, Bool.and_eq_true, decide_eq_true_eq, decide_eq_true_eq]
    refine ⟨?_, ?_⟩
    · show 2 ≤ s; omega
    · show i + x - i < pgsN a; omega)
  rw [← r1, ← r2, ← r3, e]; exact ⟨rfl, rfl, rfl⟩
/-- Of one that is laid as None each tells none. -/
theorem run_none {q : List Tg} {i a x : Int} (h : rlE q i a 0 = 0) (h0 : 0 ≤ x) (h1 : x < pgsN a) : rrE (rlQ q i a 0) (i + x) = 8 := by
  have hb : rlBad a 0 = false := by
    unfold rlE at h
    cases e : rlBad a 0 with
    | true => rw [e, if_pos rfl] at h; omega
    | false => rfl
  obtain ⟨b1, b2, b3, b4⟩ := rlBad_in hb
  have hc : ¬ (i < 0 ∨ (q.length : Int) < pgsN a ∨ (q.length : Int) - pgsN a < i) := fun e => by
    unfold rlE at h; rw [hb, if_neg (by decide), if_pos e] at h; omega
  have hbd := pgsN_bd b2
  have hl := layL_len q i (pgsN a) (0, 0) (0, 0)
  have eQ : rlQ q i a 0 = layL q i (pgsN a) (0, 0) (0, 0) := by unfold rlQ; rw [if_pos h]; rfl
  rw [eQ]
  have hg : rgE (layL q i (pgsN a) (0, 0) (0, 0)) (i + x) = 0 := by unfold rgE; rw [if_neg (by rw [hl]; omega)]
  have e := layL_at q i (pgsN a) (0, 0) (0, 0) (j := (i + x).toNat) (by omega)
  have e : gtD (layL q i (pgsN a) (0, 0) (0, 0)) (i + x).toNat = (0, 0) := by rw [e, if_pos (by omega)]; split <;> rfl
  have hi := rrI_no (q := layL q i (pgsN a) (0, 0) (0, 0)) (x := i + x) (y := i + x) rfl (by omega) (by rw [e]; decide)
  exact (rr_3 hg hi (by omega) (by rw [e]; rfl)).2.2.symm
theorem rl_none {q : List Tg} {i a s : Int} (h : rlE q i a s = 0) : rlE (rlQ q i a s) i a 0 = 0 := by
  have hb : rlBad a s = false := by
    unfold rlE at h
    cases e : rlBad a s with
    | true => rw [e, if_pos rfl] at h; omega
    | false => rfl
  obtain ⟨b1, b2, b3, b4⟩ := rlBad_in hb
  have hc : ¬ (i < 0 ∨ (q.length : Int) < pgsN a ∨ (q.length : Int) - pgsN a < i) := fun e => by
    unfold rlE at h; rw [hb, if_neg (by decide), if_pos e] at h; omega
  have hb2 : rlBad a 0 = false := by unfold rlBad; rw [decide_eq_false (by omega), decide_eq_false (by omega)]; rfl
  unfold rlE
  rw [hb2, if_neg (by decide), rlQ_len, if_neg hc]
theorem rlE_ok {q : List Tg} {i a s : Int} (h : rlE q i a s = 0) : 0 ≤ a ∧ a ≤ 10 ∧ s ≠ 1 ∧ s ≤ 3 := by
  refine rlBad_in ?_
  unfold rlE at h
  cases e : rlBad a s with
  | true => rw [e, if_pos rfl] at h; omega
  | false => rfl
theorem rlE_in {q : List Tg} {i a s : Int} (h : rlE q i a s = 0) : 0 ≤ i ∧ i + pgsN a ≤ (q.length : Int) := by
  unfold rlE at h
  cases e : rlBad a s with
  | true => rw [e, if_pos rfl] at h; omega
  | false => rw [e, if_neg (by decide)] at h; split at h <;> omega
theorem rlE_arg {q : List Tg} {i a s : Int} (hs : s = 2 ∨ s = 3) : (rlE q i a s == 2) = (decide (a < 0) || decide (10 < a)) := by
  unfold rlE rlBad
  rcases hs with rfl | rfl
  all_goals
    cases h : (decide (a < 0) || decide (10 < a)) with
    | true => rfl
    | false => rw [show ((false || (_ == (1 : Int))) || decide ((3 : Int) < _)) = false from rfl, if_neg (by decide)]; split <;> rfl
end Go.Proofs.YthgkiieenojcpaaDoor.K
