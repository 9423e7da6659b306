/-
  Tags and handles, plainly.
-/
import Derived.Test.YtnbkafnikpbmbaaDoorGc
namespace Go.Proofs.YtnbkafnikpbmbaaDoor.K
set_option linter.unusedSimpArgs false
set_option linter.unusedVariables false

/-- What a view's Put makes of an arena, and answers. -/
def vptE (m : AM) (o z a : Int) (s : ByteArray) : Int := if vchE z a ((s.size : Nat) : Int) = 0 then chkE m (o + a) ((s.size : Nat) : Int) else 3
def vptM (m : AM) (o z a : Int) (s : ByteArray) : AM := if vchE z a ((s.size : Nat) : Int) = 0 then putM m (o + a) s else m
theorem vpt_1 {m : AM} {o z a : Int} {s : ByteArray} (h : vchE z a ((s.size : Nat) : Int) ≠ 0) : vchE z a ((s.size : Nat) : Int) = vptE m o z a s ∧ m = vptM m o z a s := by unfold vptE vptM; rw [if_neg h, if_neg h]; exact ⟨vch_3 h, rfl⟩
theorem vpt_2 {m : AM} {o z a : Int} {s : ByteArray} (h : vchE z a ((s.size : Nat) : Int) = 0) : chkE m (o + a) ((s.size : Nat) : Int) = vptE m o z a s ∧ putM m (o + a) s = vptM m o z a s := by unfold vptE vptM; rw [if_pos h, if_pos h]; exact ⟨rfl, rfl⟩

/-- A page's tag. -/
def tgB (m : AM) (o z i : Int) : Int := IntKind.wrap .u8 (vldV m o z i 1)
def tgS (m : AM) (o z i : Int) : Int := tgB m o z i % 4
def tgO (m : AM) (o z i : Int) : Int := tgB m o z i / 4
def tgE (m : AM) (o z i : Int) : Int := vldE m o z i 1
def runAt (m : AM) (o z : Int) : Nat → Int
  | 0 => 0
  | k + 1 => if tgS m o z ((k + 1 : Nat) : Int) = 1 then runAt m o z k else ((k + 1 : Nat) : Int)
theorem runAt_bd (m : AM) (o z : Int) : ∀ k : Nat, 0 ≤ runAt m o z k ∧ runAt m o z k ≤ (k : Int)
  | 0 => by unfold runAt; omega
  | k + 1 => by
    have := runAt_bd m o z k
    unfold runAt
    split <;> omega
def runBad (m : AM) (o z i : Int) : Bool := decide (tgS m o z (runAt m o z i.toNat) < 2) || decide (IntKind.wrap .i64 (1 * 2 ^ (min (Int.toNat (tgO m o z (runAt m o z i.toNat))) 64)) ≤ i - runAt m o z i.toNat)
def runE (m : AM) (o z i : Int) : Int := if tgE m o z i ≠ 0 then tgE m o z i else if runBad m o z i then 8 else 0
def runV (m : AM) (o z i : Int) : Int := if runE m o z i = 0 then runAt m o z i.toNat else 0
def runS (m : AM) (o z i : Int) : Int := if runE m o z i = 0 then tgS m o z (runAt m o z i.toNat) else 0
def runO (m : AM) (o z i : Int) : Int := if runE m o z i = 0 then tgO m o z (runAt m o z i.toNat) else 0
theorem run_1 {m : AM} {o z i : Int} (h : tgE m o z i ≠ 0) : 0 = runV m o z i ∧ 0 = runS m o z i ∧ 0 = runO m o z i ∧ tgE m o z i = runE m o z i := by
  have e : runE m o z i = tgE m o z i := by unfold runE; rw [if_pos h]
  have e2 : runE m o z i ≠ 0 := by rw [e]; exact h
  unfold runV runS runO
  rw [if_neg e2, if_neg e2, if_neg e2]
  exact ⟨rfl, rfl, rfl, e.symm⟩
theorem run_2 {m : AM} {o z i x : Int} (h : tgE m o z i = 0) (hx : runAt m o z i.toNat = x) (hb : (decide (tgS m o z x < 2) || decide (IntKind.wrap .i64 (1 * 2 ^ (min (Int.toNat (tgO m o z x)) 64)) ≤ i - x)) = true) : 0 = runV m o z i ∧ 0 = runS m o z i ∧ 0 = runO m o z i ∧ 8 = runE m o z i := by
  have e : runE m o z i = 8 := by unfold runE runBad; rw [if_neg (fun q => q h), hx, hb]; rfl
  have e2 : runE m o z i ≠ 0 := by rw [e]; decide
  unfold runV runS runO
  rw [if_neg e2, if_neg e2, if_neg e2]
  exact ⟨rfl, rfl, rfl, e.symm⟩
theorem run_3 {m : AM} {o z i x : Int} (h : tgE m o z i = 0) (hx : runAt m o z i.toNat = x) (hb : (decide (tgS m o z x < 2) || decide (IntKind.wrap .i64 (1 * 2 ^ (min (Int.toNat (tgO m o z x)) 64)) ≤ i - x)) = false) : x = runV m o z i ∧ tgS m o z x = runS m o z i ∧ tgO m o z x = runO m o z i ∧ 0 = runE m o z i := by
  have e : runE m o z i = 0 := by unfold runE runBad; rw [if_neg (fun q => q h), hx, hb]; rfl
  unfold runV runS runO
  rw [if_pos e, if_pos e, if_pos e, hx]
  exact ⟨rfl, rfl, rfl, e.symm⟩

theorem page_thr1 {a n : Int} (h : 0 ≤ a ∧ 0 ≤ n ∧ a + n ≤ 4096) : thr (comM (AM.new 1) 0 1) a n = true := by
  refine thr_sub (a := 0) (n := 4096) (by decide +kernel) ?_ ?_ ?_ <;> omega
/-- The first number that is so. -/
def fstN (p : Nat → Bool) (n : Nat) : Option Nat := (List.range n).find? p
def NoUp (p : Nat → Bool) (x : Int) : Prop := ∀ k : Nat, (k : Int) < x → p k = false
theorem noUp_zero (p : Nat → Bool) : NoUp p 0 := fun k h => absurd h (by omega)
theorem noUp_step {p : Nat → Bool} {x : Int} (h : NoUp p x) (h0 : 0 ≤ x) (hf : p x.toNat = false) : NoUp p (x + 1) := fun k hk => by
  rcases Int.lt_or_le (k : Int) x with h1 | h1
  · exact h k h1
  · rw [show k = x.toNat by omega]; exact hf
theorem fstN_at {p : Nat → Bool} {n : Nat} {x : Int} (h : NoUp p x) (h0 : 0 ≤ x) (h1 : x < (n : Int)) (hf : p x.toNat = true) : fstN p n = some x.toNat := by
  unfold fstN
  rw [List.find?_range_eq_some]
  exact ⟨hf, List.mem_range.2 (by omega), fun k hk => by rw [h k (by omega)]; rfl⟩
theorem fstN_none {p : Nat → Bool} {n : Nat} {x : Int} (h : NoUp p x) (hx : (n : Int) ≤ x) : fstN p n = none := by
  unfold fstN
  rw [List.find?_range_eq_none]
  intro k hk
  rw [h k (by omega)]; rfl

/-- Handles. -/
def hLen (z : Int) : Int := imin (z / 16) 256
theorem hLen_bd {z : Int} (h : 0 ≤ z) : 0 ≤ hLen z ∧ hLen z ≤ 256 ∧ hLen z * 16 ≤ z := by unfold hLen imin; split <;> omega
def hAt (m : AM) (o z i : Int) : Int := IntKind.wrap .i64 (vldV m o z (i * 16) 8)
def hGn (m : AM) (o z i : Int) : Int := vldV m o z (i * 16 + 8) 8
def hSetM (m : AM) (o z i a : Int) : AM := vstM m o z (i * 16) 8 (IntKind.wrap .u64 a)
def hFree (m : AM) (o z : Int) (i : Nat) : Bool := hAt m o z (i : Int) == 0 && decide (hGn m o z (i : Int) < 72057594037927935)
def hOf (g i : Int) : Int := IntKind.wrap .u64 ((IntKind.wrap .u64 ((IntKind.wrap .u64 (g + 1)) * 256)) + (IntKind.wrap .u64 i))
def hNxO (m : AM) (o z : Int) : Option Nat := fstN (hFree m o z) (hLen z).toNat
def hNxV (m : AM) (o z : Int) : Int := match hNxO m o z with | some i => hOf (hGn m o z (i : Int)) (i : Int) | none => 0
def hNxE (m : AM) (o z : Int) : Int := match hNxO m o z with | some _ => 0 | none => 10
theorem hOf_mod {g i : Int} (h : 0 ≤ g ∧ g < 72057594037927935) (hi : 0 ≤ i ∧ i < 256) : hOf g i = (g + 1) * 256 + i := by
  unfold hOf
  rw [u64_in (x := g + 1) (by omega), u64_in (x := (g + 1) * 256) (by omega), u64_in (x := i) (by omega), u64_in (by omega)]
def hfOk (m : AM) (o z h : Int) : Bool := decide (h % 256 < hLen z) && !(hAt m o z (h % 256) == 0 || h / 256 != hGn m o z (h % 256))
def hfA (m : AM) (o z h : Int) : Int := if hfOk m o z h then hAt m o z (h % 256) else 0
def hfE (m : AM) (o z h : Int) : Int := if hfOk m o z h then 0 else 6
def hNwE (m : AM) (o z a : Int) : Int := if a < 1 then 2 else hNxE m o z
def hNwV (m : AM) (o z a : Int) : Int := if a < 1 then 0 else if hNxE m o z = 0 then hNxV m o z else 0
def hNwM (m : AM) (o z a : Int) : AM := if a < 1 then m else if hNxE m o z = 0 then vstM (hSetM m o z (hNxV m o z % 256) a) o z (hNxV m o z % 256 * 16 + 8) 8 (hNxV m o z / 256) else m
end Go.Proofs.YtnbkafnikpbmbaaDoor.K
