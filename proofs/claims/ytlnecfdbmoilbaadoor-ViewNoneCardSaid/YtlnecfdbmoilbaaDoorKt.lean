/-
  Numbers in bytes: what Load and Store compute.
-/
import Derived.Test.YtlnecfdbmoilbaaDoorKs
namespace Go.Proofs.YtlnecfdbmoilbaaDoor.K
set_option linter.unusedSimpArgs false
set_option linter.unusedVariables false

def wholeB (k : Int) : Bool := ((k == 1 || k == 2) || k == 4) || k == 8
theorem wholeB_le {k : Int} (h : wholeB k = true) : 1 ≤ k ∧ k ≤ 8 := by
  unfold wholeB at h
  simp at h
  omega
theorem bytS_size {m : AM} {a n : Int} (h : thr m a n = true) : (bytS m a n).size = n.toNat := by
  unfold bytS; rw [if_pos h, bs_size]
/-- The number that the first bytes of a string make. -/
def ldN (s : ByteArray) : Nat → Int
  | 0 => 0
  | i + 1 => ior .u64 (ldN s i) (IntKind.wrap .u64 ((bat s (i : Int)) * 2 ^ (min (Int.toNat (8 * (i : Int))) 64)))
theorem ldN_step {s : ByteArray} {x y : Int} (h : x = ldN s y.toNat) (h0 : 0 ≤ y) : ior .u64 x (IntKind.wrap .u64 ((bat s y) * 2 ^ (min (Int.toNat (8 * y)) 64))) = ldN s (y + 1).toNat := by
  obtain ⟨i, rfl⟩ : ∃ i : Nat, y = i := ⟨y.toNat, by omega⟩
  subst h
  rw [show ((i : Int) + 1).toNat = i + 1 by omega, Int.toNat_natCast]
  rfl
def ldE (m : AM) (a k : Int) : Int := if wholeB k then chkE m a k else 2
def ldV (m : AM) (a k : Int) : Int := if wholeB k && thr m a k then ldN (bytS m a k) k.toNat else 0
theorem ld_e1 {m : AM} {a k : Int} (h : wholeB k = false) : (2 : Int) = ldE m a k := by unfold ldE; rw [h]; rfl
theorem ld_e2 {m : AM} {a k : Int} (h : wholeB k = true) : ldE m a k = chkE m a k := by unfold ldE; rw [h]; rfl
theorem ld_v1 {m : AM} {a k : Int} (h : wholeB k = false) : (0 : Int) = ldV m a k := by unfold ldV; rw [h]; rfl
theorem thr_no {m : AM} {a k : Int} (h : chkE m a k ≠ 0) : thr m a k = false := by
  unfold chkE at h
  cases ht : thr m a k with
  | false => rfl
  | true => rw [ht] at h; exact absurd rfl h
theorem ld_v2 {m : AM} {a k : Int} (h : chkE m a k ≠ 0) : (0 : Int) = ldV m a k := by unfold ldV; rw [thr_no h, Bool.and_false]; rfl
theorem ld_v4 {m : AM} {a k : Int} (h : wholeB k = true) (ht : thr m a k = true) : ldN (bytS m a k) k.toNat = ldV m a k := by unfold ldV; rw [h, ht]; rfl
theorem chk_thr {m : AM} {a k : Int} (h : thr m a k = true) : chkE m a k = 0 := by unfold chkE; rw [h]; rfl

def u8 (t : Int) : UInt8 := UInt8.ofNat t.toNat
theorem u8_toNat {t : Int} (h : 0 ≤ t ∧ t ≤ 255) : ((u8 t).toNat : Int) = t := by
  unfold u8
  rw [UInt8.toNat_ofNat']
  omega
def putF (f : Nat → UInt8) (i : Nat) (v : UInt8) (x : Nat) : UInt8 := if x = i then v else f x
theorem bytes_puti (f : Nat → UInt8) (i : Nat) (t : Int) (h : 0 ≤ t ∧ t ≤ 255) (o : Nat) : bytes (putF f i (u8 t)) 0 o = (fun x => if x = i then Value.int .u8 t else bytes f 0 x) o := by
  unfold bytes putF
  simp only [Nat.sub_zero]
  split
  · rw [u8_toNat h]
  · rfl
theorem wrap_u8 (x : Int) : 0 ≤ IntKind.u8.wrap x ∧ IntKind.u8.wrap x ≤ 255 := by
  rw [IntKind.wrap_u8]; omega

theorem shr2_u64 {a b : Int} (h0 : 0 ≤ b) (h1 : b ≤ 63) (h2 : True) : 0 ≤ b ∧ Int.fdiv a (2 ^ (min (Int.toNat b) 64)) = a / 2 ^ b.toNat := shr2_i64 h0 h1 h2
/-- The bytes of a number. -/
def stB (x : Int) (i : Nat) : UInt8 := u8 (IntKind.u8.wrap (x / 2 ^ Int.toNat (8 * (i : Int))))
def stF (x : Int) (n : Nat) (j : Nat) : UInt8 := if j < n then stB x j else 0
theorem stF_zero (x : Int) : (fun _ => 0) = stF x 0 := rfl
theorem stF_step {x y : Int} {f : Nat → UInt8} (h : f = stF x y.toNat) (h0 : 0 ≤ y) : putF f y.toNat (u8 (IntKind.u8.wrap (x / 2 ^ Int.toNat (8 * y)))) = stF x (y + 1).toNat := by
  obtain ⟨i, rfl⟩ : ∃ i : Nat, y = i := ⟨y.toNat, by omega⟩
  subst h
  funext j
  rw [show ((i : Int) + 1).toNat = i + 1 by omega, Int.toNat_natCast]
  unfold putF stF
  by_cases hj : j = i
  · rw [if_pos hj, if_pos (by omega), hj]; rfl
  · rw [if_neg hj]
    by_cases h2 : j < i
    · rw [if_pos h2, if_pos (by omega)]
    · rw [if_neg h2, if_neg (by omega)]
theorem stF_bs {x k : Int} {f : Nat → UInt8} (h : f = stF x 8) (hk : k ≤ 8) : bs (fun j => f (0 + j)) k.toNat = bs (stB x) k.toNat := by
  subst h
  refine bs_congr fun j hj => ?_
  rw [Nat.zero_add]; unfold stF; rw [if_pos (by omega)]
def stE (m : AM) (a k : Int) : Int := if wholeB k then chkE m a k else 2
def stM (m : AM) (a k x : Int) : AM := if wholeB k then putM m a (bs (stB x) k.toNat) else m
theorem st_e1 {m : AM} {a k : Int} (h : wholeB k = false) : (2 : Int) = stE m a k := by unfold stE; rw [h]; rfl
theorem st_m1 {m : AM} {a k x : Int} (h : wholeB k = false) : m = stM m a k x := by unfold stM; rw [h]; rfl
theorem st_e2 {m : AM} {a k x : Int} (h : wholeB k = true) : chkE m a ((ByteArray.size (bs (stB x) k.toNat) : Nat) : Int) = stE m a k := by
  unfold stE; rw [h, bs_size, show ((k.toNat : Nat) : Int) = k by have := wholeB_le h; omega]; rfl
theorem st_m2 {m : AM} {a k x : Int} (h : wholeB k = true) : putM m a (bs (stB x) k.toNat) = stM m a k x := by unfold stM; rw [h]; rfl

end Go.Proofs.YtlnecfdbmoilbaaDoor.K
