/-
  A row of our own that becomes a slice that grows; parts of a row that are moved, and cleared.
-/
import Derived.Test.YtnbkafnikpbmbaaDoorGe
namespace Go.Proofs.YtnbkafnikpbmbaaDoor.K
set_option linter.unusedSimpArgs false
set_option linter.unusedVariables false

section
variable {P : Program} {c : Cx} {n : Nat} {E : Env} {H : Heap} {A : List Res} {a : Act} {w : World} {o : Oper} {K : Act → World → Prop}
/-- What is held is let go. -/
theorem WS.forget (h : WS c H A w) (j : Nat) : WS c H (A.eraseIdx j) w :=
  h.dropA [] (fun q hq => (List.eraseIdx_sublist _ _).subset hq) (h.ars.apart.sublist (List.eraseIdx_sublist _ _))
end
end Go.Proofs.YtnbkafnikpbmbaaDoor.K
