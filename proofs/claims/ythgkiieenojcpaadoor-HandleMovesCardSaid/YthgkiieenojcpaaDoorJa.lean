/-
  A walk by computing: records of numbers that are compared.
-/
import Derived.Test.YthgkiieenojcpaaDoorIa
import Derived.Laws.StructEq
namespace Go.Proofs.YthgkiieenojcpaaDoor.K
set_option linter.unusedSimpArgs false
set_option linter.unusedVariables false

section
variable {P : Program} {c : Cx} {n : Nat} {E : Env} {H : Heap} {A : List Res} {a : Act} {w : World} {o : Oper}
end
section
variable {P : Program} {c : Cx} {n : Nat} {E : Env} {H Hf : Heap} {A : List Res} {a : Act} {w : World} {ops : Array Oper} {R : Act → World → Prop} {Q : Exit → Act → World → Prop}
/-- A guard that is known to hold. -/
theorem St.wants {o : Oper} (hS : St c n E H A a w) {d : Nat} {x : Bool} (hg : guardSlot ops o = some (d, x)) (hl : look E d = some ([], vb x)) (hd : d < n) : Region.wanted o (yielded ops a.tmps) = true :=
  (wanted_iff hg a (Nat.lt_of_lt_of_le hd hS.size)).2 (hS.env.at (look_mem hl) (fun p hp => by cases hp))
theorem Runs1.listG {o : Oper} {rest : List Oper} (hS : St c n E H A a w) (d : Nat) (x : Bool) (h : Runs1 P o a w (wpList P ops Q rest)) (hd : d < n) (hg : guardSlot ops o = some (d, x) := by rfl) (hl : look E d = some ([], vb x) := by as_aux_lemma => kernel_rfl) : wpList P ops Q (o :: rest) a w := by
  obtain ⟨v, w', h1, h2⟩ := h
  unfold wpList
  rw [if_pos (hS.wants hg hl hd)]
  refine .inl ?_
  unfold Oper.wp
  rw [h1]
  exact h2
end
end Go.Proofs.YthgkiieenojcpaaDoor.K
