/-
  A walk by computing: records of numbers that are compared.
-/
import Derived.Test.YtnbkafnikpbmbaaDoorIa
import Derived.Laws.StructEq
namespace Go.Proofs.YtnbkafnikpbmbaaDoor.K
set_option linter.unusedSimpArgs false
set_option linter.unusedVariables false

theorem run_part {P : Program} {t : TypeId} {cs : Array Value} {off : Nat} {v : Value} {k : IntKind} (ht : P.underlying t = some (.int k)) (hv : cs[off]? = some v) (w : World) : (part t cs off).run P w = .ok v w := by
  unfold part isAgg
  simp [run_underlying ht, hv]
section
variable {P : Program} {c : Cx} {n : Nat} {E : Env} {H : Heap} {A : List Res} {a : Act} {w : World} {o : Oper}
/-- Two records of numbers are compared. -/
theorem St.binS {K : Act → World → Prop} (hS : St c n E H A a w) (q : BinOp) (x y : Operand) (t t2 : TypeId) (ho : o.op = .binOp q t x y t2) {d : Nat} (hd : o.dst = some d) (hdn : d < n) {xs ys : Array Value} {r : Value} (hr : ∀ w, (binOp q t (.agg xs) (.agg ys)).run P w = .ok r w) (hm : P.eqGuardType P.depth t = false)
    (h : ∀ a', St c n (putE E d [] r) H A a' w → K a' w) (hok : okO E [] x = true := by as_aux_lemma => kernel_rfl) (hok2 : okO E [] y = true := by as_aux_lemma => kernel_rfl) (hx : rho E x = .agg xs := by as_aux_lemma => kernel_rfl) (hy : rho E y = .agg ys := by as_aux_lemma => kernel_rfl) : Runs1 P o a w K := by
  refine ⟨r, w, ?_, ?_⟩
  · have e1 : a.eval x = .agg xs := by rw [eval1 hS hok, hx]
    have e2 : a.eval y = .agg ys := by rw [eval1 hS hok2, hy]
    simp only [execOp, ho, e1, e2]
    have hb : (do eqGuard q t x y (.agg xs) (.agg ys); binOp q t (.agg xs) (.agg ys)).run P w = .ok r w := by
      rw [runBind (w' := w) (x := ()) (run_eqGuard_agg w q t x y xs ys hm)]
      exact hr w
    rw [runBind hb]
    rfl
  · rw [hd]; exact h _ (hS.put hdn)
end
section
variable {P : Program} {c : Cx} {n : Nat} {E : Env} {H Hf : Heap} {A : List Res} {a : Act} {w : World} {ops : Array Oper} {R : Act → World → Prop} {Q : Exit → Act → World → Prop}
end
end Go.Proofs.YtnbkafnikpbmbaaDoor.K
