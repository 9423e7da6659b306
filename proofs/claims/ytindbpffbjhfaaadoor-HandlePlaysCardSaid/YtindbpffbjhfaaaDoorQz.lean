/-
  Handles: the document's table, case by case.
-/
import Derived.Test.YtindbpffbjhfaaaDoorQa
namespace Go.Proofs.YtindbpffbjhfaaaDoor.K
set_option linter.unusedSimpArgs false
set_option linter.unusedVariables false
theorem gtD_rep {α : Type} [Inhabited α] {n i : Nat} {x : α} (h : i < n) : gtD (List.replicate n x) i = x := by
  rw [gtD_lt (by simpa using h)]; simp
section
variable {t : List Sl} {h a : Int}
theorem rDro_1 (q : rFind t h < 0) : t = rDroT t h ∧ 6 = rGetE t h := by
  unfold rDroT rGetE rSet; rw [if_pos q, if_pos q]; exact ⟨rfl, rfl⟩
theorem rDro_2 (q : ¬ rFind t h < 0) : t.set (Int.toNat (rFind t h)) (0, (gtD t (Int.toNat (rFind t h))).2) = rDroT t h ∧ 0 = rGetE t h := by
  unfold rDroT rGetE rSet; rw [if_neg q, if_neg q]; exact ⟨rfl, rfl⟩
theorem rMov_0 (q : a < 1) : t = rMovT t h a ∧ 2 = rMovE t h a := by unfold rMovT rMovE; rw [if_pos q, if_pos q]; exact ⟨rfl, rfl⟩
theorem rMov_1 (q : ¬ a < 1) (q2 : rFind t h < 0) : t = rMovT t h a ∧ 6 = rMovE t h a := by
  unfold rMovT rMovE rGetE rSet; rw [if_neg q, if_neg q, if_pos q2, if_pos q2]; exact ⟨rfl, rfl⟩
theorem rMov_2 (q : ¬ a < 1) (q2 : ¬ rFind t h < 0) : t.set (Int.toNat (rFind t h)) (a, (gtD t (Int.toNat (rFind t h))).2) = rMovT t h a ∧ 0 = rMovE t h a := by
  unfold rMovT rMovE rGetE rSet; rw [if_neg q, if_neg q, if_neg q2, if_neg q2]; exact ⟨rfl, rfl⟩
theorem rNew_0 (q : a < 1) : t = rNewT t a ∧ 0 = rNewV t a ∧ 2 = rNewE t a := by unfold rNewT rNewV rNewE; rw [if_pos q, if_pos q, if_pos q]; exact ⟨rfl, rfl, rfl⟩
theorem rNew_1 (q : ¬ a < 1) (hx : -1 = rNewI t) : t = rNewT t a ∧ 0 = rNewV t a ∧ 10 = rNewE t a := by
  unfold rNewT rNewV rNewE rSet; rw [if_neg q, if_neg q, if_neg q, if_pos (by omega), if_pos (by omega), if_pos (by omega)]; exact ⟨rfl, rfl, rfl⟩
theorem rNew_2 {x : Int} (q : ¬ a < 1) (hx : x = rNewI t) (h0 : 0 ≤ x) : t.set (Int.toNat x) (a, (gtD t (Int.toNat x)).2 + 1) = rNewT t a ∧ 256 * ((gtD t (Int.toNat x)).2 + 1) + x = rNewV t a ∧ 0 = rNewE t a := by
  unfold rNewT rNewV rNewE rSet; rw [if_neg q, if_neg q, if_neg q, if_neg (by omega), if_neg (by omega), if_neg (by omega), ← hx]; exact ⟨rfl, rfl, rfl⟩
end
theorem rAll_yes {t : List Sl} {l : List Int} {x : Int} (h : l = allH (rOn t) (rHv t) (Int.toNat x)) (h0 : 0 ≤ x) (hp : rOn t (Int.toNat x) = true) : l ++ [256 * (gtD t (Int.toNat x)).2 + x] = allH (rOn t) (rHv t) (Int.toNat (x + 1)) := by
  have := allH_yes h h0 hp
  unfold rHv at this ⊢
  rw [Int.toNat_of_nonneg h0] at this
  exact this
theorem hAll_yes {m : AM} {o z : Int} {l : List Int} {x : Int} (h : l = allH (hOn m o z) (hHv m o z) (Int.toNat x)) (h0 : 0 ≤ x) (hp : hOn m o z (Int.toNat x) = true) : l ++ [hVl (hGn m o z x) x] = allH (hOn m o z) (hHv m o z) (Int.toNat (x + 1)) := by
  have := allH_yes h h0 hp
  unfold hHv at this ⊢
  rw [Int.toNat_of_nonneg h0] at this
  exact this
/-- The handle that an act is about. -/
def rName (t : List Sl) (n h : Int) (o : Bool) : Int := if (o || (((rAll t).length : Int) == 0)) = true then h else gtD (rAll t) (Int.toNat (imax 0 n % ((rAll t).length : Int)))
theorem rName_1 {t : List Sl} {n h : Int} {o : Bool} (q : (o || ((((rAll t).length : Nat) : Int) == 0)) = true) : h = rName t n h o := by unfold rName; rw [if_pos q]
theorem rName_2 {t : List Sl} {n h : Int} {o : Bool} (q : (o || ((((rAll t).length : Nat) : Int) == 0)) = false) : (rAll t).length ≠ 0 ∧ gtD (rAll t) (Int.toNat (imax 0 n % ((rAll t).length : Int))) = rName t n h o := by
  refine ⟨fun e => ?_, ?_⟩
  · rw [e] at q; simp at q
  · unfold rName; rw [if_neg (by rw [q]; decide)]
theorem rName_rng {t : List Sl} {n h : Int} {o : Bool} (hok : OkT t) (hh : 0 ≤ h ∧ h ≤ 18446744073709551615) : 0 ≤ rName t n h o ∧ rName t n h o ≤ 18446744073709551615 := by
  unfold rName
  split
  · exact hh
  · rename_i q
    have hl : (rAll t).length ≠ 0 := fun e => q (by rw [e]; simp)
    have him : 0 ≤ imax 0 n := by unfold imax; split <;> omega
    have := Int.emod_lt_of_pos (imax 0 n) (show (0 : Int) < (((rAll t).length : Nat) : Int) by omega)
    have := Int.emod_nonneg (imax 0 n) (show (((rAll t).length : Nat) : Int) ≠ 0 by omega)
    exact rAll_rng hok (by omega)
end Go.Proofs.YtindbpffbjhfaaaDoor.K
