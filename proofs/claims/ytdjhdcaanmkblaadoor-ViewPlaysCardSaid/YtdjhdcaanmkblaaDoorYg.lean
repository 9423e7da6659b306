/-
  Parts that are laid one behind the other.
-/
import Derived.Test.YtdjhdcaanmkblaaDoorYe
import Derived.Test.YtdjhdcaanmkblaaDoorQz
import Derived.Lib.Join
namespace Go.Proofs.YtdjhdcaanmkblaaDoor.K
set_option linter.unusedSimpArgs false
set_option linter.unusedVariables false

def joinS (L : List ByteArray) : ByteArray := ⟨(Lib.join (L.map (·.data.toList)) []).toArray⟩
theorem s1V_cell {w : World} {g o : Nat} {L : List ByteArray} (h : HE.holds w g (.fn o (o + L.length) (s1V (gtD L) o))) : (0 < L.length → g < w.heap.size) ∧ ∀ (j : Nat) x, L[j]? = some x → w.cell? ⟨g, o + j, none⟩ = some (.string x) := by
  obtain ⟨c, T, fz, hc, hf⟩ := h
  refine ⟨fun _ => ?_, fun j x hj => ?_⟩
  · rcases Nat.lt_or_ge g w.heap.size with h | h
    · exact h
    · rw [Array.getElem?_eq_none h] at hc; cases hc
  · have hl : j < L.length := (List.getElem?_eq_some_iff.1 hj).1
    unfold World.cell?
    simp only [hc]
    rw [hf (o + j) (by omega) (by omega)]
    unfold s1V
    rw [Nat.add_sub_cancel_left, gtD_lt hl, (List.getElem?_eq_some_iff.1 hj).2]; rfl
section
variable {z : Int} {J : ByteArray}
end
end Go.Proofs.YtdjhdcaanmkblaaDoor.K
