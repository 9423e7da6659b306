/-
  Slices that grow from nothing, or from an empty row that is there, as something that a walk holds.
-/
import Derived.Test.YtdjhdcaanmkblaaDoorUa
namespace Go.Proofs.YtdjhdcaanmkblaaDoor.K
set_option linter.unusedSimpArgs false
set_option linter.unusedVariables false

def GeV (e : TypeId) (sz : Nat) (w : World) (v : Value) (F : Nat → Prop) (n : Nat) (f : Nat → Value) : Prop := GrV e sz w v F n f ∨ ((∃ a, v = .slice (some a) 0 0) ∧ n = 0 ∧ ∀ k, ¬ F k)
theorem GeV.slice {e : TypeId} {sz : Nat} {w : World} {v : Value} {F : Nat → Prop} {n : Nat} {f : Nat → Value} (h : GeV e sz w v F n f) : ∃ x c, v = .slice x n c := by
  rcases h with h | ⟨⟨a, rfl⟩, rfl, _⟩
  · exact h.slice
  · exact ⟨_, _, rfl⟩
section
variable {P : Program} {c : Cx} {n : Nat} {E : Env} {H : Heap} {A : List Res} {a : Act} {w : World} {o : Oper}
theorem GeV.tell {e : TypeId} {sz m : Nat} {v : Value} {F : Nat → Prop} {f f' : Nat → Value} (h : GeV e sz w v F m f) (hf : ∀ x, x < m * sz → f x = f' x) : GeV e sz w v F m f' := by
  rcases h with (h | ⟨gb, cap, rfl, h0, hrow, hcap, hF⟩) | h
  · exact .inl (.inl h)
  · exact .inl (.inr ⟨gb, cap, rfl, h0, HE.row_eq hrow (fun x hx => (hf x hx).symm), hcap, hF⟩)
  · exact .inr h
end
end Go.Proofs.YtdjhdcaanmkblaaDoor.K
