/-
  What comes in: rows of structs.
-/
import Derived.Test.YthgkiieenojcpaaDoorSw
import Derived.Test.YthgkiieenojcpaaDoorLg
namespace Go.Proofs.YthgkiieenojcpaaDoor.K
open Go.ChangeShapes Go.WideShapes Go.ChangeAt Go.RowKit
set_option linter.unusedVariables false
set_option linter.unusedSimpArgs false
section
variable {H : Type} {enc : TypeId × Value → H} {w : World} {sp : Nat → Bool} {held : Bool}

theorem at_s1V {n : Nat} {cs : List Value} {y : DataW H × List MemPlace} (h : DataW.trod enc Tryd.prog w 0 sp held n 9 cs = some y) : ∃ c : ByteArray, True ∧ cs = (List.range 1).map (fun j => s1V (fun _ => c) 0 j) := by
  obtain ⟨s, e, _⟩ := DataW.trod_string Tryd.underlying9 h
  exact ⟨s, trivial, by rw [e]; rfl⟩
theorem op_s1V {fuel : Nat} {cs : List Value} {x : DataW H × List MemPlace} (hdb : HE.holds w 0 (.fn 0 64 dbT)) (h : DataW.trod enc Tryd.prog w 0 sp held fuel 54 cs = some x) :
    ∃ (ao : Option Addr) (c g o : Nat) (L : List ByteArray), cs = [.slice ao L.length c] ∧ (L.length = 0 ∨ ao = some ⟨g, o, none⟩) ∧ L.length ≤ c ∧ HE.holds w g (.fn o (o + L.length) (s1V (gtD L) o)) := by
  rcases open_rows (α := ByteArray) default (fun c j => s1V (fun _ => c) 0 j) (fun _ => True) Tryd.underlying54 (show Tryd.prog.cellsOf 9 = 1 by kernel_rfl) (by decide) (fun n cs y h => at_s1V h) h with e | ⟨a, len, cap, f, e, hf⟩
  · exact ⟨none, 0, 0, 0, [], e, .inl rfl, Nat.zero_le _, HE.fn_none hdb rfl⟩
  · have hll : ((List.range len).map f).length = len := by simp
    rcases Nat.eq_zero_or_pos len with h0 | h0
    · subst h0
      exact ⟨some a, cap, 0, 0, [], e, .inl rfl, Nat.zero_le _, HE.fn_none hdb rfl⟩
    · obtain ⟨h1, h2, h3, h4⟩ := hf h0
      have hg : ∀ i, i < len → gtD ((List.range len).map f) i = f i := fun i hi => by
        rw [gtD_lt (by omega)]; simp
      obtain ⟨ab, ao, sp_⟩ := a
      obtain rfl : sp_ = none := h2
      refine ⟨some ⟨ab, ao, none⟩, cap, ab, ao, (List.range len).map f, by rw [hll]; exact e, .inr rfl, by rw [hll]; exact h1.1, ?_⟩
      rw [hll]
      have h5 : HE.holds w ab (.fn ao (ao + len) (fun x => s1V (fun _ => f ((x - ao) / 1)) 0 ((x - ao) % 1))) := by rw [Nat.mul_one] at h4; exact h4
      refine HE.fn_eq h5 fun x hx1 hx2 => ?_
      unfold s1V
      simp only [Nat.div_one]
      rw [hg _ (by omega)]
end
end Go.Proofs.YthgkiieenojcpaaDoor.K
