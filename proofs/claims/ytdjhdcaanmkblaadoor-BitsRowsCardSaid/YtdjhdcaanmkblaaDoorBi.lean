/-
  The rows of a set, one by one: plainly.
-/
import Derived.Test.YtdjhdcaanmkblaaDoorBz
namespace Go.Proofs.YtdjhdcaanmkblaaDoor.K
set_option linter.unusedSimpArgs false
set_option linter.unusedVariables false

def sumR : List (Int × Int) → Int
  | [] => 0
  | x :: L => x.2 + sumR L
def RunsOK (p : Nat → Bool) (N : Nat) : Int → List (Int × Int) → Prop
  | _, [] => True
  | e, x :: L => (e < x.1 ∧ 1 ≤ x.2 ∧ 0 ≤ x.1 ∧ x.1 + x.2 ≤ (N : Int) ∧ cntV p N x.1 x.2 = x.2) ∧ RunsOK p N (x.1 + x.2) L
theorem cntR_gap {p : Nat → Bool} {a k : Nat} (h : ∀ x, a ≤ x → x < a + k → p x = false) : cntR p a k = 0 := cntR_none fun x h1 h2 => h x h1 h2
theorem runsGo_ok (p : Nat → Bool) (N : Nat) : ∀ (f i : Nat) (e : Int), i ≤ N → N < i + f → (i < N → p i = true) → (i < N → e < (i : Int)) →
    RunsOK p N e (runsGo p N f i) ∧ sumR (runsGo p N f i) = ((cntR p i (N - i) : Nat) : Int) := by
  intro f
  induction f with
  | zero => intro i e h1 h2; omega
  | succ f ih =>
    intro i e h1 h2 hp he
    unfold runsGo
    by_cases hi : i < N
    · rw [if_pos hi]
      have g1 := nxt_more hi (hp hi)
      have g2 := nxt_le p false h1
      generalize hq : nxt p false N i = q at *
      have hall : ∀ x, i ≤ x → x < q → p x = true := fun x a b => by
        have := nxt_miss (p := p) (v := false) (n := N) (i := i) (x := x) a (by omega)
        cases h : p x with
        | true => rfl
        | false => exact absurd h this
      have g3 := nxt_ge p true N q
      have g4 := nxt_le p true g2
      generalize hr : nxt p true N q = r at *
      have hgap : ∀ x, q ≤ x → x < r → p x = false := fun x a b => by
        have := nxt_miss (p := p) (v := true) (n := N) (i := q) (x := x) a (by omega)
        cases h : p x with
        | false => rfl
        | true => exact absurd h this
      have hqf : q < N → p q = false := fun h => by rw [← hq] at h ⊢; exact nxt_hit h
      have hrt : r < N → p r = true := fun h => by rw [← hr] at h ⊢; exact nxt_hit h
      have hqr : r < N → q < r := fun h => by
        rcases Nat.lt_or_ge q r with a | a
        · exact a
        · have e1 : r = q := by omega
          have := hrt h
          rw [e1, hqf (by omega)] at this; cases this
      obtain ⟨k1, k2⟩ := ih r (((q : Nat) : Int)) g4 (by omega) hrt (fun h => by have := hqr h; omega)
      have hc : cntR p i (q - i) = q - i := by
        have := cntR_all (b := true) (p := p) (q - i) i (fun x a b => hall x a (by omega))
        simpa using this
      have hw : wth N ((i : Nat) : Int) (((q : Nat) : Int) - ((i : Nat) : Int)) = true := by unfold wth; simp only [Bool.and_eq_true, decide_eq_true_eq]; omega
      have hcv : cntV p N ((i : Nat) : Int) (((q : Nat) : Int) - ((i : Nat) : Int)) = ((q : Nat) : Int) - ((i : Nat) : Int) := by
        rw [cntV_yes hw, show Int.toNat ((i : Nat) : Int) = i by omega, show Int.toNat (((q : Nat) : Int) - ((i : Nat) : Int)) = q - i by omega, hc]; omega
      refine ⟨⟨⟨he hi, by show (1 : Int) ≤ ((q : Nat) : Int) - ((i : Nat) : Int); omega, by show (0 : Int) ≤ ((i : Nat) : Int); omega, by show ((i : Nat) : Int) + (((q : Nat) : Int) - ((i : Nat) : Int)) ≤ _; omega, hcv⟩, ?_⟩, ?_⟩
      · show RunsOK p N (((i : Nat) : Int) + (((q : Nat) : Int) - ((i : Nat) : Int))) _
        rw [show ((i : Nat) : Int) + (((q : Nat) : Int) - ((i : Nat) : Int)) = ((q : Nat) : Int) by omega]; exact k1
      · show (((q : Nat) : Int) - ((i : Nat) : Int)) + sumR _ = _
        rw [k2]
        have a1 := cntR_add p (q - i) i (N - q)
        have a2 := cntR_add p (r - q) q (N - r)
        rw [show i + (q - i) = q by omega, show (q - i) + (N - q) = N - i by omega, hc] at a1
        have hz : cntR p q (r - q) = 0 := cntR_gap (fun x a b => hgap x a (by omega))
        rw [show q + (r - q) = r by omega, show (r - q) + (N - r) = N - q by omega, hz] at a2
        omega
    · rw [if_neg hi]
      have : i = N := by omega
      subst this
      refine ⟨trivial, ?_⟩
      rw [Nat.sub_self]; rfl
theorem runs_ok (p : Nat → Bool) (N : Nat) : RunsOK p N (-1) (runs p N) ∧ sumR (runs p N) = cntV p N 0 (N : Int) := by
  have g := nxt_le p true (Nat.zero_le N)
  obtain ⟨h1, h2⟩ := runsGo_ok p N (N + 1) (nxt p true N 0) (-1) g (by omega) (fun h => nxt_hit h) (fun h => by omega)
  refine ⟨h1, ?_⟩
  have hw : wth N 0 (N : Int) = true := by unfold wth; simp
  have a := cntR_add p (nxt p true N 0) 0 (N - nxt p true N 0)
  rw [Nat.zero_add, show nxt p true N 0 + (N - nxt p true N 0) = N by omega, cntR_gap (a := 0) (k := nxt p true N 0) (fun x _ b => by
    have := nxt_miss (p := p) (v := true) (n := N) (i := 0) (x := x) (Nat.zero_le _) (by omega)
    cases h : p x with
    | false => rfl
    | true => exact absurd h this)] at a
  unfold runs
  rw [h2, cntV_yes hw, show Int.toNat (0 : Int) = 0 from rfl, show Int.toNat ((N : Nat) : Int) = N by omega]
  omega
/-- The rows from a place on, in the list of all. -/
structure RowI (p : Nat → Bool) (N : Nat) (x e s : Int) (yl : List (Int × Int)) : Prop where
  pre : ∃ A, flat (runs p N) = A ++ flat yl ∧ (A.length : Int) = x
  ok : RunsOK p N e yl
  sum : s + sumR yl = cntV p N 0 (N : Int)
  le : 0 ≤ s ∧ s ≤ e + 1
theorem RowI.zero (p : Nat → Bool) (N : Nat) : RowI p N 0 (-1) 0 (runs p N) := ⟨⟨[], rfl, rfl⟩, (runs_ok p N).1, by rw [Int.zero_add]; exact (runs_ok p N).2, by omega⟩
section
variable {p : Nat → Bool} {N : Nat} {x e s : Int} {yl : List (Int × Int)}
theorem RunsOK.bound {p : Nat → Bool} {N : Nat} : ∀ (L : List (Int × Int)) {e : Int}, RunsOK p N e L → e ≤ (N : Int) → e + (L.length : Int) ≤ (N : Int)
  | [], e, _, h => by simpa using h
  | x :: L, e, ⟨⟨h1, h2, h3, h4, _⟩, h5⟩, _ => by
    have := RunsOK.bound L h5 h4
    rw [List.length_cons]; omega
theorem RowI.len (h : RowI p N x e s yl) : ((flat (runs p N)).length : Int) = x + 2 * (yl.length : Int) ∧ 0 ≤ x ∧ ((flat (runs p N)).length : Int) ≤ 2 * (N : Int) + 2 := by
  obtain ⟨A, h1, h2⟩ := h.pre
  have h3 := RunsOK.bound _ (runs_ok p N).1 (by omega)
  have h4 := flat_len (runs p N)
  refine ⟨?_, by omega, by omega⟩
  rw [h1, List.length_append, flat_len]; omega
theorem RowI.hd (h : RowI p N x e s yl) (hx : x + 1 < ((flat (runs p N)).length : Int)) : ∃ a n L, yl = (a, n) :: L ∧ (flat (runs p N)).getD x.toNat 0 = a ∧ (flat (runs p N)).getD (x + 1).toNat 0 = n ∧ (e < a ∧ 1 ≤ n ∧ 0 ≤ a ∧ a + n ≤ (N : Int) ∧ cntV p N a n = n ∧ trnE N a n = 0) ∧ RowI p N (x + 2) (a + n) (s + n) L := by
  have hl := h.len
  obtain ⟨⟨A, h1, h2⟩, ho, hs, hle⟩ := h
  cases yl with
  | nil => simp at hl; omega
  | cons y L =>
    obtain ⟨a, n⟩ := y
    have e1 : flat ((a, n) :: L) = [a, n] ++ flat L := rfl
    rw [e1] at h1
    obtain ⟨⟨o1, o2, o3, o4, o5⟩, o6⟩ := ho
    have hw : wth N a n = true := by unfold wth; simp only [Bool.and_eq_true, decide_eq_true_eq]; dsimp only at *; omega
    refine ⟨a, n, L, rfl, ?_, ?_, ⟨o1, o2, o3, o4, o5, (trnE_yes hw).symm⟩, ⟨A ++ [a, n], by rw [h1, List.append_assoc], by simp; omega⟩, o6, ?_, ?_⟩
    · rw [h1, List.getD_eq_getElem?_getD, List.getElem?_append_right (by omega), show x.toNat - A.length = 0 by omega]; rfl
    · rw [h1, List.getD_eq_getElem?_getD, List.getElem?_append_right (by omega), show (x + 1).toNat - A.length = 1 by omega]; rfl
    · rw [← hs]; show s + n + sumR L = s + (n + sumR L); omega
    · dsimp only at *; omega
theorem RowI.end_ (h : RowI p N x e s yl) (hx : ((flat (runs p N)).length : Int) ≤ x + 1) : s = cntV p N 0 (N : Int) := by
  have hl := h.len
  have : yl = [] := List.eq_nil_of_length_eq_zero (by omega)
  have hs := h.sum
  rw [this] at hs
  have : sumR [] = 0 := rfl
  omega
end
theorem cnt_allI (p : Nat → Bool) (N : Nat) : wth N 0 (N : Int) = true ∧ trnE N 0 (N : Int) = 0 := by
  have hw : wth N 0 (N : Int) = true := by unfold wth; simp
  exact ⟨hw, (trnE_yes hw).symm⟩
theorem flat_get {R : List (Int × Int)} {k : Nat} (hk : k < R.length) : (flat R).getD (2 * k) 0 = (R[k]).1 ∧ (flat R).getD (2 * k + 1) 0 = (R[k]).2 := by
  induction R generalizing k with
  | nil => exact absurd hk (Nat.not_lt_zero _)
  | cons x L ih =>
    have e1 : flat (x :: L) = x.1 :: x.2 :: flat L := rfl
    cases k with
    | zero => rw [e1]; exact ⟨rfl, rfl⟩
    | succ k =>
      have := ih (k := k) (by simpa using hk)
      rw [e1, show 2 * (k + 1) = 2 * k + 1 + 1 by omega]
      simpa [List.getD_eq_getElem?_getD] using this
theorem pfx_at {R pre : List (Int × Int)} {x : Int × Int} (h : (pre ++ [x]) <+: R) : ∃ hk : pre.length < R.length, R[pre.length] = x := by
  obtain ⟨t, rfl⟩ := h
  refine ⟨by simp, ?_⟩
  simp
end Go.Proofs.YtdjhdcaanmkblaaDoor.K
