/-
  What Fill and Copy compute.
-/
import Derived.Test.YtlnecfdbmoilbaaDoorKt
namespace Go.Proofs.YtlnecfdbmoilbaaDoor.K
set_option linter.unusedSimpArgs false
set_option linter.unusedVariables false

theorem u8_cast (c : UInt8) : 0 ≤ ((c.toNat : Nat) : Int) ∧ ((c.toNat : Nat) : Int) ≤ 255 := by
  have := c.toNat_lt; omega
theorem u8_of (c : UInt8) : u8 ((c.toNat : Nat) : Int) = c := by unfold u8; rw [Int.toNat_natCast]; exact UInt8.ofNat_toNat
/-- Bytes of which some are filled. -/
def filF (f : Nat → UInt8) (o k : Nat) (c : UInt8) (x : Nat) : UInt8 := if o ≤ x ∧ x < o + k then c else f x
theorem filF_zero (f : Nat → UInt8) (o : Nat) (c : UInt8) : f = filF f o 0 c := by
  funext x; unfold filF; rw [if_neg (by omega)]
theorem filF_step {f fx : Nat → UInt8} {o : Nat} {c : UInt8} {y : Int} (h : fx = filF f o y.toNat c) (h0 : 0 ≤ y) : putF fx (o + y.toNat * 1) (u8 ((c.toNat : Nat) : Int)) = filF f o (y + 1).toNat c := by
  subst h
  funext x
  rw [u8_of]
  unfold putF filF
  by_cases h1 : x = o + y.toNat * 1
  · rw [if_pos h1, if_pos (by omega)]
  · rw [if_neg h1]
    by_cases h2 : o ≤ x ∧ x < o + y.toNat
    · rw [if_pos h2, if_pos (by omega)]
    · rw [if_neg h2, if_neg (by omega)]
def filA (m : AM) (a n : Nat) (c : UInt8) : AM := ⟨m.cap, m.com, filF m.mem a n c, m.armed, m.refuse⟩
def filM (m : AM) (a n : Int) (c : UInt8) : AM := if thr m a n then filA m a.toNat n.toNat c else m
theorem fil_m1 {m : AM} {a n : Int} {c : UInt8} (h : chkE m a n ≠ 0) : m = filM m a n c := by unfold filM; rw [thr_no h]; rfl
theorem fil_m2 {m : AM} {a n : Int} {c : UInt8} (h : thr m a n = true) : filA m a.toNat n.toNat c = filM m a n c := by unfold filM; rw [h]; rfl
theorem fil_step {M mx : Nat → UInt8} {c : UInt8} {A n1 n2 i q k : Nat} (h : mx = filF M A n1 c) (hA : A + n1 = 4096 * i + q) (hq : q + k ≤ 4096) (h2 : n1 + k = n2) (y : Nat) :
    filF M A n2 c y = putPg mx i (filF (fun o => mx (4096 * i + o)) q k c) y := by
  unfold putPg
  by_cases hp : 4096 * i ≤ y ∧ y < 4096 * i + 4096
  · rw [if_pos hp]
    unfold filF
    by_cases hq2 : q ≤ y - 4096 * i ∧ y - 4096 * i < q + k
    · rw [if_pos hq2, if_pos (by omega)]
    · rw [if_neg hq2, h]
      unfold filF
      dsimp only
      rw [show 4096 * i + (y - 4096 * i) = y by omega]
      by_cases h3 : A ≤ y ∧ y < A + n1
      · rw [if_pos (by omega), if_pos h3]
      · rw [if_neg (by omega), if_neg h3]
  · rw [if_neg hp, h]
    unfold filF
    by_cases h3 : A ≤ y ∧ y < A + n1
    · rw [if_pos (by omega), if_pos h3]
    · rw [if_neg (by omega), if_neg h3]

def cpyE (m : AM) (t f n : Int) : Int := if thr m f n then chkE m t (((bytS m f n).size : Nat) : Int) else chkE m f n
def cpyM (m : AM) (t f n : Int) : AM := if thr m f n then putM m t (bytS m f n) else m
theorem cpy_e1 {m : AM} {t f n : Int} (h : chkE m f n ≠ 0) : chkE m f n = cpyE m t f n := by unfold cpyE; rw [thr_no h]; rfl
theorem cpy_e2 {m : AM} {t f n : Int} (h : thr m f n = true) : chkE m t (((bytS m f n).size : Nat) : Int) = cpyE m t f n := by unfold cpyE; rw [h]; rfl
theorem cpy_m1 {m : AM} {t f n : Int} (h : chkE m f n ≠ 0) : m = cpyM m t f n := by unfold cpyM; rw [thr_no h]; rfl
theorem cpy_m2 {m : AM} {t f n : Int} (h : thr m f n = true) : putM m t (bytS m f n) = cpyM m t f n := by unfold cpyM; rw [h]; rfl

end Go.Proofs.YtlnecfdbmoilbaaDoor.K
