/-
  Plain laws of arenas: one page of a great arena.
-/
import Derived.Test.YtlnecfdbmoilbaaDoorKv
namespace Go.Proofs.YtlnecfdbmoilbaaDoor.K
set_option linter.unusedSimpArgs false
set_option linter.unusedVariables false

theorem capN_mm (c : Int) : imin (imax c 0) 1048576 = ((capN c : Nat) : Int) := by
  unfold capN imin imax; split <;> split <;> split <;> (try split) <;> omega
theorem new_rowC (c p n : Int) : rowC (AM.new c) p n ≤ 0 := by
  unfold rowC
  split
  · omega
  · unfold cntV
    split
    · have : cntR (AM.new c).com p.toNat n.toNat = 0 := cntR_none fun _ _ _ => rfl
      omega
    · omega
theorem great_e (c p : Int) : (comE (AM.new c) p 1 = 0 ∧ 0 ≤ p ∧ p < (capN c : Int) ∧ comM (AM.new c) p 1 = ⟨capN c, setR (fun _ => false) p.toNat 1 true, zeroP (fun _ => 0) p.toNat 1, false, 0⟩) ∨
    (comE (AM.new c) p 1 = 3 ∧ ¬ (0 ≤ p ∧ p < (capN c : Int)) ∧ comM (AM.new c) p 1 = AM.new c) := by
  have hr : rowE (AM.new c) p 1 = trnE (capN c) p 1 := rowE_ge (by omega)
  have hc := new_rowC c p 1
  cases hw : wth (capN c) p 1 with
  | true =>
    have h0 : rowE (AM.new c) p 1 = 0 := by rw [hr]; exact (trnE_yes hw).symm
    have ha : ¬ ((AM.new c).armed = true ∧ (AM.new c).refuse = 0) := fun h => by have := h.1; simp [AM.new] at this
    have := wth_facts hw
    exact .inl ⟨com_e4 h0 hc ha, by omega, by omega, (com_yes h0 hc ha).symm⟩
  | false =>
    have h0 : rowE (AM.new c) p 1 = 3 := by rw [hr]; exact (trnE_no hw).symm
    refine .inr ⟨(com_e1 (by omega)).trans h0, fun h => ?_, (com_no (by omega)).symm⟩
    rw [wth_of (by omega) (by omega) (by omega)] at hw; cases hw
theorem great_eq (c p : Int) : comE (AM.new c) p 1 = 0 → 0 ≤ p ∧ p < (capN c : Int) := fun h => by
  rcases great_e c p with ⟨_, h1, h2, _⟩ | ⟨h1, _⟩
  · exact ⟨h1, h2⟩
  · omega
theorem great1 (c p : Int) : ((!((comE (AM.new c) p 1 == 0) == ((decide ((0 : Int) ≤ p)) && (decide (p < ((capN c : Nat) : Int)))))) || ((comE (AM.new c) p 1 != 0) && (comE (AM.new c) p 1 != 3))) = false := by
  rcases great_e c p with ⟨h, h1, h2, _⟩ | ⟨h, h1, _⟩
  · rw [h, decide_eq_true h1, decide_eq_true h2]; rfl
  · rw [h]
    have : ((decide ((0 : Int) ≤ p)) && (decide (p < ((capN c : Nat) : Int)))) = false := by
      cases hb : ((decide ((0 : Int) ≤ p)) && (decide (p < ((capN c : Nat) : Int)))) with
      | false => rfl
      | true => simp only [Bool.and_eq_true, decide_eq_true_eq] at hb; exact absurd hb h1
    rw [this]; rfl

/-- Where bytes are there. -/
theorem great_thr (c p a n : Int) : thr (comM (AM.new c) p 1) a n = true ↔ (comE (AM.new c) p 1 = 0 ∧ 1 ≤ n ∧ n ≤ 4096 ∧ p * 4096 ≤ a ∧ a ≤ (p + 1) * 4096 - n) ∨ (n = 0 ∧ 0 ≤ a ∧ a ≤ ((capN c : Nat) : Int) * 4096) := by
  constructor
  · intro ht
    obtain ⟨g1, g2, g3, g4⟩ := inB_facts (thr_in ht)
    have hcap : (comM (AM.new c) p 1).cap = capN c := by rcases great_e c p with ⟨_, _, _, h⟩ | ⟨_, _, h⟩ <;> rw [h] <;> rfl
    rw [hcap] at g3 g4
    by_cases hn : n = 0
    · exact .inr ⟨hn, g1, by omega⟩
    · have p1 := (thr_page ht (x := a) (by omega) (by omega)).2
      have p2 := (thr_page ht (x := a + n - 1) (by omega) (by omega)).2
      rcases great_e c p with ⟨h, h1, h2, hm⟩ | ⟨_, _, hm⟩
      · rw [hm] at p1 p2
        have q1 : setR (fun _ => false) p.toNat 1 true (Int.toNat (a / 4096)) = true := p1
        have q2 : setR (fun _ => false) p.toNat 1 true (Int.toNat ((a + n - 1) / 4096)) = true := p2
        unfold setR at q1 q2
        split at q1
        · split at q2
          · exact .inl ⟨h, by omega, by omega, by omega, by omega⟩
          · cases q2
        · cases q1
      · rw [hm] at p1; cases p1
  · rintro (⟨h, h1, h2, h3, h4⟩ | ⟨h1, h2, h3⟩)
    · rcases great_e c p with ⟨_, k1, k2, hm⟩ | ⟨k, _⟩
      · rw [hm]
        unfold thr
        have hi : inB ⟨capN c, setR (fun _ => false) p.toNat 1 true, zeroP (fun _ => 0) p.toNat 1, false, 0⟩ a n = true := inB_yes (by omega) (by omega) (by show n ≤ ((capN c : Nat) : Int) * 4096; omega) (by show a ≤ ((capN c : Nat) : Int) * 4096 - n; omega)
        rw [hi]
        have hc := cntR_all (b := true) (p := setR (fun _ => false) p.toNat 1 true) (pgN a n) (pg0 a) (fun x q1 q2 => by
          unfold pg0 at q1 q2; unfold pgN at q2
          unfold setR; rw [if_pos (by omega)])
        simp only [if_true] at hc
        simp [hc]
      · omega
    · unfold thr
      have hcap : (comM (AM.new c) p 1).cap = capN c := by rcases great_e c p with ⟨_, _, _, h⟩ | ⟨_, _, h⟩ <;> rw [h] <;> rfl
      have hi : inB (comM (AM.new c) p 1) a n = true := inB_yes (by omega) (by omega) (by rw [hcap]; omega) (by rw [hcap]; omega)
      rw [hi, h1]; rfl
theorem great_in (c p a n : Int) : ((((((comE (AM.new c) p 1 == 0) && (decide ((1 : Int) ≤ n))) && (decide (n ≤ 4096))) && (decide (p * 4096 ≤ a))) && (decide (a ≤ (p + 1) * 4096 - n))) || (((n == 0) && (decide ((0 : Int) ≤ a))) && (decide (a ≤ ((capN c : Nat) : Int) * 4096)))) = thr (comM (AM.new c) p 1) a n := by
  rw [Bool.eq_iff_iff, great_thr]
  simp only [Bool.or_eq_true, Bool.and_eq_true, decide_eq_true_eq, beq_iff_eq, and_assoc]
theorem chk_iff (m : AM) (a n : Int) : (chkE m a n == 0) = thr m a n ∧ ((chkE m a n != 0) && (chkE m a n != 3)) = false := by
  unfold chkE
  cases thr m a n <;> exact ⟨rfl, rfl⟩
theorem great2 (c p a n : Int) : ((!((chkE (comM (AM.new c) p 1) a n == 0) == ((((((comE (AM.new c) p 1 == 0) && (decide ((1 : Int) ≤ n))) && (decide (n ≤ 4096))) && (decide (p * 4096 ≤ a))) && (decide (a ≤ (p + 1) * 4096 - n))) || (((n == 0) && (decide ((0 : Int) ≤ a))) && (decide (a ≤ ((capN c : Nat) : Int) * 4096)))))) || ((chkE (comM (AM.new c) p 1) a n != 0) && (chkE (comM (AM.new c) p 1) a n != 3))) = false := by
  rw [great_in, (chk_iff _ _ _).1, (chk_iff _ _ _).2]
  simp
theorem great3 (c p a k : Int) : (((ldE (comM (AM.new c) p 1) a k == 0) == ((((((((k : Int) == 1) || ((k : Int) == 2)) || ((k : Int) == 4)) || ((k : Int) == 8)) && (comE (AM.new c) p 1 == 0)) && (decide (p * 4096 ≤ a))) && (decide (a ≤ (p + 1) * 4096 - k)))) && ((ldE (comM (AM.new c) p 1) a k == 2) == (!(((((k : Int) == 1) || ((k : Int) == 2)) || ((k : Int) == 4)) || ((k : Int) == 8))))) = true := by
  have hw : (((((k : Int) == 1) || ((k : Int) == 2)) || ((k : Int) == 4)) || ((k : Int) == 8)) = wholeB k := rfl
  rw [hw]
  unfold ldE
  cases h : wholeB k with
  | false => simp
  | true =>
    obtain ⟨h1, h8⟩ := wholeB_le h
    rw [if_pos rfl, (chk_iff _ _ _).1]
    have e : thr (comM (AM.new c) p 1) a k = (((true && (comE (AM.new c) p 1 == 0)) && (decide (p * 4096 ≤ a))) && (decide (a ≤ (p + 1) * 4096 - k))) := by
      rw [Bool.eq_iff_iff, great_thr]
      simp only [Bool.and_eq_true, decide_eq_true_eq, beq_iff_eq, true_and, and_assoc]
      constructor
      · rintro (⟨g1, _, _, g2, g3⟩ | ⟨g1, _⟩)
        · exact ⟨g1, g2, g3⟩
        · omega
      · rintro ⟨g1, g2, g3⟩
        exact .inl ⟨g1, by omega, by omega, g2, g3⟩
    rw [e]
    have e2 : (chkE (comM (AM.new c) p 1) a k == 2) = false := by unfold chkE; split <;> rfl
    rw [e2]
    simp
theorem great4 (m : AM) (p : Int) : (comE m p 0 == 2) = true := by
  have : rowE m p 0 = 2 := rowE_lt (by omega)
  rw [com_e1 (by omega), this]; rfl
theorem great5 (c : Int) : ((((countTo (AM.new c).com (AM.new c).cap : Nat) : Int)) != 0) = false := by
  rw [show countTo (AM.new c).com (AM.new c).cap = 0 from countTo_none _]; rfl

end Go.Proofs.YtlnecfdbmoilbaaDoor.K
