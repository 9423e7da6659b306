/-
  A row of our own that becomes a slice that grows; parts of a row that are moved, and cleared.
-/
import Derived.Test.YtnbkafnikpbmbaaDoorGe
namespace Go.Proofs.YtnbkafnikpbmbaaDoor.K
set_option linter.unusedSimpArgs false
set_option linter.unusedVariables false

section
variable {P : Program} {c : Cx} {n : Nat} {E : Env} {H : Heap} {A : List Res} {a : Act} {w : World} {o : Oper} {K : Act → World → Prop}
theorem WS.grBack {e sz m tot cap g : Nat} {f : Nat → Value} (h : WS c H [] w) (j : Nat) (l : List Nat) {H' : Heap} (htot : tot = cap * sz) (hm : 0 < m) (hmc : m ≤ cap) (hj : H[j]? = some (g, .row e (m * sz) tot f) := by as_aux_lemma => kernel_rfl)
    (hp : pickH H l = some H' := by as_aux_lemma => kernel_rfl) (hd : distinct l = true := by decide) (hnl : l.all (fun k => !Nat.beq k j) = true := by decide) : WS c H' [grR e sz (sc g 0 m cap) (one g) (m, f)] w := by
  subst htot
  have hq := h.perm l hp hd
  have hne := pick_ne h hp hj rfl hnl
  have hmem := List.mem_of_getElem? hj
  refine ⟨hq.heap, hq.apart, hq.mine, fun e' he hk => ?_, AllAr.one (.inr ⟨g, cap, rfl, hm, h.heap _ hmem, hmc, fun k => Iff.rfl⟩), h.fr.to (fun k hk => .inl hk) (fun k hk => ?_)⟩
  · rcases hk with hk | hk
    · exact hne e' he hk
    · exact hk.elim
  · rcases hk with hk | hk
    · have hk : k = g := hk
      subst hk
      exact (h.mine _ hmem rfl).symm
    · exact hk.elim
end
end Go.Proofs.YtnbkafnikpbmbaaDoor.K
