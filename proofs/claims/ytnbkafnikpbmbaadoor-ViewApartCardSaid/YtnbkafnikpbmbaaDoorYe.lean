/-
  Parts of a view.
-/
import Derived.Test.YtnbkafnikpbmbaaDoorYc
namespace Go.Proofs.YtnbkafnikpbmbaaDoor.K
set_option linter.unusedSimpArgs false
set_option linter.unusedVariables false

theorem p4_thr {a n : Int} (h : 0 ≤ a ∧ 0 ≤ n ∧ a + n ≤ 16384) : thr (comM (AM.new 4) 0 4) a n = true := by
  refine thr_sub (a := 0) (n := 16384) (by decide +kernel) ?_ ?_ ?_ <;> omega
theorem p4_put {a n : Int} (s : ByteArray) : thr (putM (comM (AM.new 4) 0 4) 0 s) a n = thr (comM (AM.new 4) 0 4) a n := by
  unfold putM; split <;> rfl
def vfiM (m : AM) (o z a n : Int) (c : UInt8) : AM := if vchE z a n = 0 then filM m (o + a) n c else m
theorem vfi_1 {m : AM} {o z a n : Int} {c : UInt8} (h : vchE z a n ≠ 0) : vchE z a n = vbyE m o z a n ∧ m = vfiM m o z a n c := by unfold vfiM; rw [if_neg h]; exact ⟨vby_1 h, rfl⟩
theorem vfi_2 {m : AM} {o z a n : Int} {c : UInt8} (h : vchE z a n = 0) : chkE m (o + a) n = vbyE m o z a n ∧ filM m (o + a) n c = vfiM m o z a n c := by unfold vfiM; rw [if_pos h]; exact ⟨vby_2 h, rfl⟩
section
variable {m : AM} {o z a1 z1 a2 z2 : Int}
end
end Go.Proofs.YtnbkafnikpbmbaaDoor.K
