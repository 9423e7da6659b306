/-
  What comes in: lists of numbers.
-/
import Derived.Test.YtghohcgbmceiaaaDoorLd
import Derived.Test.YtghohcgbmceiaaaDoorM4
import Derived.ChangeSlices
namespace Go.Proofs.YtghohcgbmceiaaaDoor.K
open Go.ChangeShapes Go.WideShapes Go.ChangeAt Go.RowKit
set_option linter.unusedVariables false
set_option linter.unusedSimpArgs false
section
variable {H : Type} {enc : TypeId × Value → H} {w : World} {sp : Nat → Bool} {held : Bool}

theorem open_ils {fuel : Nat} {cs : List Value} {x : DataW H × List MemPlace} (h : DataW.trod enc Tryd.prog w 0 sp held fuel 44 cs = some x) :
    cs = [.slice none 0 0] ∨ ∃ (a : Addr) (len cap : Nat) (l : List Int), cs = [.slice (some a) len cap] ∧ l.length = len ∧ (0 < len → len ≤ 9223372036854775807 ∧ a.spot = none ∧ HE.holds w a.block (.fn a.off (a.off + l.length) (ints l a.off))) := by
  rcases open_ints Tryd.underlying44 Tryd.underlying3 (by kernel_rfl) h with ⟨e, _⟩ | ⟨a, len, cap, zs, e, _, hl, hm, hz, _, hcell, _⟩
  · exact .inl e
  right
  have hzl : len ≤ zs.length := by rw [hz]; split <;> omega
  have hlen : (zs.take len).length = len := by rw [List.length_take]; omega
  refine ⟨a, len, cap, zs.take len, e, hlen, fun h0 => ?_⟩
  have hs := spot_none (hcell 0 (by omega))
  obtain ⟨b, o, s⟩ := a
  obtain rfl : s = none := hs
  exact ⟨by unfold maxLen at hm; omega, rfl, ints_of_cells hcell (by omega) hzl⟩
end
end Go.Proofs.YtghohcgbmceiaaaDoor.K
