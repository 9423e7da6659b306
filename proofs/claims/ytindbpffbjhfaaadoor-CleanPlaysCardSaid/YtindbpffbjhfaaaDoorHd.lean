/-
  Bins, plainly.
-/
import Derived.Test.YtindbpffbjhfaaaDoorHb
import Derived.LoopN
namespace Go.Proofs.YtindbpffbjhfaaaDoor.K
set_option linter.unusedSimpArgs false
set_option linter.unusedVariables false

theorem rounds_in {P : Program} {c : Code} {Q : Exit → Act → World → Prop} {n : Nat} {a : Act} {w : World} (h : c.wp P (Exit.then (Code.rounds P c Q n) Q) a w) : Code.rounds P c Q (n + 1) a w := h

theorem wrap_u64_rng (x : Int) : 0 ≤ IntKind.u64.wrap x ∧ IntKind.u64.wrap x ≤ 18446744073709551615 := by rw [IntKind.wrap_u64]; omega
theorem ldN_rng (s : ByteArray) : ∀ i : Nat, 0 ≤ ldN s i ∧ ldN s i ≤ 18446744073709551615
  | 0 => by unfold ldN; omega
  | i + 1 => by unfold ldN ior; exact wrap_u64_rng _
theorem vldV_rng (m : AM) (o z a k : Int) : 0 ≤ vldV m o z a k ∧ vldV m o z a k ≤ 18446744073709551615 := by
  unfold vldV ldV
  split
  · split
    · split
      · exact ldN_rng _ _
      · omega
    · omega
  · omega
theorem getW_rng (l : List Int) (m : AM) (o z i : Int) : 0 ≤ getW l m o z i ∧ getW l m o z i ≤ 18446744073709551615 := by
  unfold getW
  split
  · exact vldV_rng _ _ _ _ _
  · omega
def bnN (m : AM) (o z k : Int) : Int := if (k < 0 ∨ 4 < k) ∨ z < 40 then 0 else IntKind.wrap .i64 (vldV m o z (8 * k) 8)
end Go.Proofs.YtindbpffbjhfaaaDoor.K
