/-
  Tags and handles, plainly.
-/
import Derived.Test.YtnbkafnikpbmbaaDoorGc
namespace Go.Proofs.YtnbkafnikpbmbaaDoor.K
set_option linter.unusedSimpArgs false
set_option linter.unusedVariables false

theorem page_thr2 {a n : Int} (h : 0 ≤ a ∧ 0 ≤ n ∧ a + n ≤ 8192) : thr (comM (AM.new 2) 0 2) a n = true := by
  refine thr_sub (a := 0) (n := 8192) (by decide +kernel) ?_ ?_ ?_ <;> omega

/-- The first number that is so. -/
def fstN (p : Nat → Bool) (n : Nat) : Option Nat := (List.range n).find? p
def NoUp (p : Nat → Bool) (x : Int) : Prop := ∀ k : Nat, (k : Int) < x → p k = false
theorem noUp_zero (p : Nat → Bool) : NoUp p 0 := fun k h => absurd h (by omega)
theorem noUp_step {p : Nat → Bool} {x : Int} (h : NoUp p x) (h0 : 0 ≤ x) (hf : p x.toNat = false) : NoUp p (x + 1) := fun k hk => by
  rcases Int.lt_or_le (k : Int) x with h1 | h1
  · exact h k h1
  · rw [show k = x.toNat by omega]; exact hf
theorem fstN_at {p : Nat → Bool} {n : Nat} {x : Int} (h : NoUp p x) (h0 : 0 ≤ x) (h1 : x < (n : Int)) (hf : p x.toNat = true) : fstN p n = some x.toNat := by
  unfold fstN
  rw [List.find?_range_eq_some]
  exact ⟨hf, List.mem_range.2 (by omega), fun k hk => by rw [h k (by omega)]; rfl⟩
theorem fstN_none {p : Nat → Bool} {n : Nat} {x : Int} (h : NoUp p x) (hx : (n : Int) ≤ x) : fstN p n = none := by
  unfold fstN
  rw [List.find?_range_eq_none]
  intro k hk
  rw [h k (by omega)]; rfl

/-- Handles. -/
def hLen (z : Int) : Int := imin (z / 16) 256
theorem hLen_bd {z : Int} (h : 0 ≤ z) : 0 ≤ hLen z ∧ hLen z ≤ 256 ∧ hLen z * 16 ≤ z := by unfold hLen imin; split <;> omega
def hAt (m : AM) (o z i : Int) : Int := IntKind.wrap .i64 (vldV m o z (i * 16) 8)
def hGn (m : AM) (o z i : Int) : Int := vldV m o z (i * 16 + 8) 8
def hSetM (m : AM) (o z i a : Int) : AM := vstM m o z (i * 16) 8 (IntKind.wrap .u64 a)
def hFree (m : AM) (o z : Int) (i : Nat) : Bool := hAt m o z (i : Int) == 0 && decide (hGn m o z (i : Int) < 72057594037927935)
def hOf (g i : Int) : Int := IntKind.wrap .u64 ((IntKind.wrap .u64 ((IntKind.wrap .u64 (g + 1)) * 256)) + (IntKind.wrap .u64 i))
def hNxO (m : AM) (o z : Int) : Option Nat := fstN (hFree m o z) (hLen z).toNat
def hNxV (m : AM) (o z : Int) : Int := match hNxO m o z with | some i => hOf (hGn m o z (i : Int)) (i : Int) | none => 0
def hNxE (m : AM) (o z : Int) : Int := match hNxO m o z with | some _ => 0 | none => 10
theorem hNx_at {m : AM} {o z x : Int} (h : NoUp (hFree m o z) x) (h0 : 0 ≤ x) (h1 : x < hLen z) (hf : (hAt m o z x == 0 && decide (hGn m o z x < 72057594037927935)) = true) : hOf (hGn m o z x) x = hNxV m o z ∧ 0 = hNxE m o z := by
  have e : hNxO m o z = some x.toNat := fstN_at h h0 (by omega) (by unfold hFree; rw [Int.toNat_of_nonneg h0]; exact hf)
  unfold hNxV hNxE
  rw [e]
  show _ = hOf (hGn m o z ((x.toNat : Nat) : Int)) ((x.toNat : Nat) : Int) ∧ _
  rw [Int.toNat_of_nonneg h0]; exact ⟨rfl, rfl⟩
theorem hNx_none {m : AM} {o z x : Int} (h : NoUp (hFree m o z) x) (hx : hLen z ≤ x) (hz : 0 ≤ x) : 0 = hNxV m o z ∧ 10 = hNxE m o z := by
  have e : hNxO m o z = none := fstN_none h (by omega)
  unfold hNxV hNxE
  rw [e]; exact ⟨rfl, rfl⟩
theorem hNx_step {m : AM} {o z x : Int} (h : NoUp (hFree m o z) x) (h0 : 0 ≤ x) (hf : (hAt m o z x == 0 && decide (hGn m o z x < 72057594037927935)) = false) : NoUp (hFree m o z) (x + 1) := noUp_step h h0 (by unfold hFree; rw [Int.toNat_of_nonneg h0]; exact hf)
theorem hOf_mod {g i : Int} (h : 0 ≤ g ∧ g < 72057594037927935) (hi : 0 ≤ i ∧ i < 256) : hOf g i = (g + 1) * 256 + i := by
  unfold hOf
  rw [u64_in (x := g + 1) (by omega), u64_in (x := (g + 1) * 256) (by omega), u64_in (x := i) (by omega), u64_in (by omega)]
def hfOk (m : AM) (o z h : Int) : Bool := decide (h % 256 < hLen z) && !(hAt m o z (h % 256) == 0 || h / 256 != hGn m o z (h % 256))
def hfI (m : AM) (o z h : Int) : Int := if hfOk m o z h then h % 256 else 0
def hfA (m : AM) (o z h : Int) : Int := if hfOk m o z h then hAt m o z (h % 256) else 0
def hfE (m : AM) (o z h : Int) : Int := if hfOk m o z h then 0 else 6
theorem hf_no {m : AM} {o z h : Int} (q : hfOk m o z h = false) : 0 = hfI m o z h ∧ 0 = hfA m o z h ∧ 6 = hfE m o z h := by unfold hfI hfA hfE; rw [q]; exact ⟨rfl, rfl, rfl⟩
theorem hf_yes {m : AM} {o z h : Int} (q : hfOk m o z h = true) : h % 256 = hfI m o z h ∧ hAt m o z (h % 256) = hfA m o z h ∧ 0 = hfE m o z h := by unfold hfI hfA hfE; rw [q]; exact ⟨rfl, rfl, rfl⟩
theorem hf_rng (m : AM) (o z h : Int) : 0 ≤ hfI m o z h ∧ hfI m o z h ≤ 255 := by unfold hfI; split <;> omega
def hNwE (m : AM) (o z a : Int) : Int := if a < 1 then 2 else hNxE m o z
def hNwV (m : AM) (o z a : Int) : Int := if a < 1 then 0 else if hNxE m o z = 0 then hNxV m o z else 0
def hNwM (m : AM) (o z a : Int) : AM := if a < 1 then m else if hNxE m o z = 0 then vstM (hSetM m o z (hNxV m o z % 256) a) o z (hNxV m o z % 256 * 16 + 8) 8 (hNxV m o z / 256) else m
def hDrM (m : AM) (o z h : Int) : AM := if hfE m o z h = 0 then hSetM m o z (hfI m o z h) 0 else m
theorem hNxV_rng (m : AM) (o z : Int) : 0 ≤ hNxV m o z ∧ hNxV m o z ≤ 18446744073709551615 := by
  unfold hNxV hOf
  split
  · have h1 : ∀ x, 0 ≤ IntKind.u64.wrap x ∧ IntKind.u64.wrap x ≤ 18446744073709551615 := fun x => by rw [IntKind.wrap_u64]; omega
    exact h1 _
  · omega
end Go.Proofs.YtnbkafnikpbmbaaDoor.K
