/-
  Bins, plainly.
-/
import Derived.Test.YtnbkafnikpbmbaaDoorHb
import Derived.LoopN
namespace Go.Proofs.YtnbkafnikpbmbaaDoor.K
set_option linter.unusedSimpArgs false
set_option linter.unusedVariables false

theorem wrap_u64_rng (x : Int) : 0 ≤ IntKind.u64.wrap x ∧ IntKind.u64.wrap x ≤ 18446744073709551615 := by rw [IntKind.wrap_u64]; omega
def bnN (m : AM) (o z k : Int) : Int := if (k < 0 ∨ 4 < k) ∨ z < 40 then 0 else IntKind.wrap .i64 (vldV m o z (8 * k) 8)
end Go.Proofs.YtnbkafnikpbmbaaDoor.K
