import Derived.Test.YtojjkjedcafpeaaGreatDoorZa
namespace Go.Proofs.YtojjkjedcafpeaaGreatDoor.K
set_option linter.unusedSimpArgs false
set_option linter.unusedVariables false
section
variable {m m' mo : AM} {N g : Nat} {r r' r2 : Int} {q q' q2 : List Tg} {Q Q' Q2 : Nat → List Int}
theorem Bdy.tgN (h : Bdy m N g r q Q) {s : Nat} (hs : 2 ≤ (gtD q s).1) : (gtD q s = (2, (((gtD q s).2.toNat : Nat) : Int)) ∨ gtD q s = (3, (((gtD q s).2.toNat : Nat) : Int))) := by
  have hsN := h.tl.lt (p := s) (by omega);have hl := h.tl.len;obtain ⟨t1, t2, t3, t4⟩ := h.bm.tg.rng s (by omega);have e2 : (gtD q s).2 = (((gtD q s).2.toNat : Nat) : Int) := by omega
  by_cases e : (gtD q s).1 = 2
  · exact .inl (Prod.ext e e2)
  · exact .inr (Prod.ext (by show (gtD q s).1 = 3; omega) e2)
end
end Go.Proofs.YtojjkjedcafpeaaGreatDoor.K
