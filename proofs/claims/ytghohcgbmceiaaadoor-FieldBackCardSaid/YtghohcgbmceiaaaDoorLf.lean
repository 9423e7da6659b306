/-
  What comes in: lists of u64 numbers.
-/
import Derived.Test.YtghohcgbmceiaaaDoorLc
import Derived.Test.YtghohcgbmceiaaaDoorLe
namespace Go.Proofs.YtghohcgbmceiaaaDoor.K
open Go.ChangeShapes Go.WideShapes Go.ChangeAt Go.RowKit
set_option linter.unusedVariables false
set_option linter.unusedSimpArgs false
section
variable {H : Type} {enc : TypeId × Value → H} {w : World} {sp : Nat → Bool} {held : Bool}

theorem open_uls {fuel : Nat} {cs : List Value} {x : DataW H × List MemPlace} (h : DataW.trod enc Tryd.prog w 0 sp held fuel 53 cs = some x) :
    cs = [.slice none 0 0] ∨ ∃ (a : Addr) (len cap : Nat) (ws : Nat → Nat), cs = [.slice (some a) len cap] ∧ (0 < len → (len ≤ cap ∧ cap ≤ 9223372036854775807) ∧ a.spot = none ∧ HE.holds w a.block (.fn a.off (a.off + len) (u64s ws a.off)) ∧ ∀ i, i < len → ws i ≤ 18446744073709551615) := by
  rcases open_ints Tryd.underlying53 Tryd.underlying54 (by kernel_rfl) h with ⟨e, _⟩ | ⟨a, len, cap, zs, e, _, hl, hm, hz, _, hcell, hwz⟩
  · exact .inl e
  right
  have hzl : len ≤ zs.length := by rw [hz]; split <;> omega
  refine ⟨a, len, cap, fun i => (zs.getD i 0).toNat, e, fun h0 => ?_⟩
  have hs := spot_none (hcell 0 (by omega))
  obtain ⟨b, o, s⟩ := a
  obtain rfl : s = none := hs
  have hr : ∀ i, i < zs.length → 0 ≤ zs.getD i 0 ∧ zs.getD i 0 ≤ 18446744073709551615 := fun i hi => by
    refine rng_u64 (hwz _ ?_)
    rw [List.getD_eq_getElem?_getD, List.getElem?_eq_getElem hi]
    exact List.getElem_mem hi
  refine ⟨⟨hl, by unfold maxLen at hm; omega⟩, rfl, ?_, fun i hi => by have := hr i (by omega); show (zs.getD i 0).toNat ≤ _; omega⟩
  have e1 : ∀ i, (⟨b, o, none⟩ : Addr).add i = ⟨b, o + i, none⟩ := fun i => addr_add _ rfl i
  obtain ⟨_, c, T, fz, hb, _⟩ := cell_block (hcell 0 (by omega))
  rw [e1] at hb
  refine ⟨c, T, fz, hb, fun x hx hx2 => ?_⟩
  have hx : o ≤ x := hx
  have hx2 : x < o + len := hx2
  have hi := hcell (x - o) (by omega)
  rw [e1, show o + (x - o) = x by omega] at hi
  obtain ⟨_, c', T', fz', hb', hc'⟩ := cell_block hi
  have : c' = c := by
    have hb' : w.heap[b]? = some (.cells c' T' fz') := hb'
    have hb : w.heap[b]? = some (.cells c T fz) := hb
    rw [hb] at hb'
    injection hb' with hb'
    injection hb' with h1
    exact h1.symm
  subst this
  have hc' : c'[x]? = some (Value.int .u64 (zs.getD (x - o) 0)) := hc'
  rw [hc']
  unfold u64s
  have := hr (x - o) (by omega)
  rw [Int.toNat_of_nonneg this.1]
end
end Go.Proofs.YtghohcgbmceiaaaDoor.K
