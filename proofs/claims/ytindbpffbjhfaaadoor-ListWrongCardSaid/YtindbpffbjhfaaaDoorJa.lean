/-
  A walk by computing: records of numbers that are compared.
-/
import Derived.Test.YtindbpffbjhfaaaDoorIa
import Derived.Laws.StructEq
namespace Go.Proofs.YtindbpffbjhfaaaDoor.K
set_option linter.unusedSimpArgs false
set_option linter.unusedVariables false

section
variable {P : Program} {c : Cx} {n : Nat} {E : Env} {H : Heap} {A : List Res} {a : Act} {w : World} {o : Oper}
end
section
variable {P : Program} {c : Cx} {n : Nat} {E : Env} {H Hf : Heap} {A : List Res} {a : Act} {w : World} {ops : Array Oper} {R : Act → World → Prop} {Q : Exit → Act → World → Prop}
theorem St.ordSkip {i : Nat} {o : Oper} {rest : List (Nat × Nat)} (hS : St c n E H A a w) (d : Nat) (x : Bool) (v : Value) {e : Nat} (h : ∀ a', St c n (putE E e [] undef) H A a' w → Stay Hf w ∧ wpOrd P ops (Stay Hf) R rest a' w) (hd : d < n) (hen : e < n) (hv : v ≠ vb x) (hi : ops[i]? = some o := by rfl) (he : o.dst = some e := by rfl) (hg : guardSlot ops o = some (d, x) := by rfl) (hl : look E d = some ([], v) := by as_aux_lemma => kernel_rfl) : wpOrd P ops (Stay Hf) R ((i, 0) :: rest) a w := by
  refine nAt_of_wpList1 hi (.inr ⟨?_, ?_⟩)
  · cases hw : Region.wanted o (yielded ops a.tmps) with
    | false => rfl
    | true => exact absurd ((hS.env.at (look_mem hl) (fun p hp => by cases hp)).symm.trans ((wanted_iff hg a (Nat.lt_of_lt_of_le hd hS.size)).1 hw)) hv
  · rw [he]; exact h _ (hS.put hen)
end
end Go.Proofs.YtindbpffbjhfaaaDoor.K
