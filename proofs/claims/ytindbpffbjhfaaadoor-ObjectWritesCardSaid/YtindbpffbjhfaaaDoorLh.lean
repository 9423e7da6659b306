/-
  What comes in: rows of structs.
-/
import Derived.Test.YtindbpffbjhfaaaDoorSw
import Derived.Test.YtindbpffbjhfaaaDoorLg
namespace Go.Proofs.YtindbpffbjhfaaaDoor.K
open Go.ChangeShapes Go.WideShapes Go.ChangeAt Go.RowKit
set_option linter.unusedVariables false
set_option linter.unusedSimpArgs false
section
variable {H : Type} {enc : TypeId × Value → H} {w : World} {sp : Nat → Bool} {held : Bool}

def rg_obV (c : Int × Int × Int) : Prop := (-9223372036854775808 ≤ c.1 ∧ c.1 ≤ 9223372036854775807) ∧ (-9223372036854775808 ≤ c.2.1 ∧ c.2.1 ≤ 9223372036854775807) ∧ (-9223372036854775808 ≤ c.2.2 ∧ c.2.2 ≤ 9223372036854775807) ∧ True
set_option maxRecDepth 20000 in
theorem at_obV {n : Nat} {cs : List Value} {y : DataW H × List MemPlace} (h : DataW.trod enc Tryd.prog w 0 sp held n 58 cs = some y) : ∃ c : Int × Int × Int, rg_obV c ∧ cs = (List.range 3).map (fun j => obV (fun _ => c) 0 j) := by
  obtain ⟨xs, m, _, _, hl, hxl, hf⟩ := DataW.trod_struct Tryd.underlying58 h
  rw [show Tryd.prog.cellsOf 58 = 3 by kernel_rfl] at hl
  have hx : xs.length = 3 := hxl
  have c3 : Tryd.prog.cellsOf 3 = 1 := by kernel_rfl
  match cs, hl with
  | [q0, q1, q2], _ =>
    have h0 := hf 0 _ rfl
    change DataW.trod enc Tryd.prog w 0 sp held m 3 (List.take (Tryd.prog.cellsOf 3) [q0, q1, q2]) = xs[0]? at h0
    rw [c3, List.getElem?_eq_getElem (by omega)] at h0
    simp only [List.take_succ_cons, List.take_zero] at h0
    obtain ⟨z0, e0, _, r0⟩ := DataW.trod_int Tryd.underlying3 h0
    simp only [List.cons.injEq, and_true] at e0
    have h1 := hf 1 _ rfl
    change DataW.trod enc Tryd.prog w 0 sp held m 3 (List.take (Tryd.prog.cellsOf 3) [q1, q2]) = xs[1]? at h1
    rw [c3, List.getElem?_eq_getElem (by omega)] at h1
    simp only [List.take_succ_cons, List.take_zero] at h1
    obtain ⟨z1, e1, _, r1⟩ := DataW.trod_int Tryd.underlying3 h1
    simp only [List.cons.injEq, and_true] at e1
    have h2 := hf 2 _ rfl
    change DataW.trod enc Tryd.prog w 0 sp held m 3 (List.take (Tryd.prog.cellsOf 3) [q2]) = xs[2]? at h2
    rw [c3, List.getElem?_eq_getElem (by omega)] at h2
    simp only [List.take_succ_cons, List.take_zero] at h2
    obtain ⟨z2, e2, _, r2⟩ := DataW.trod_int Tryd.underlying3 h2
    simp only [List.cons.injEq, and_true] at e2
    exact ⟨(z0, z1, z2), ⟨rng_i64 r0, rng_i64 r1, rng_i64 r2, trivial⟩, by rw [e0, e1, e2]; rfl⟩
theorem st_obV {v : Value} {d : DataW H} {ps : List MemPlace} (hd : DataW.Trod enc Tryd.prog w 0 sp held 58 v d ps) (hs : ∃ cs, v = .agg cs ∧ cs.size = Tryd.prog.cellsOf 58) : ∃ c : Int × Int × Int, v = .agg #[vi c.1, vi c.2.1, vi c.2.2] ∧ rg_obV c := by
  obtain ⟨cs, rfl, _⟩ := hs
  obtain ⟨n, h⟩ := hd
  obtain ⟨cs⟩ := cs
  change DataW.trod enc Tryd.prog w 0 sp held n 58 cs = some (d, ps) at h
  obtain ⟨c, hc, rfl⟩ := at_obV h
  exact ⟨c, rfl, hc⟩

end
end Go.Proofs.YtindbpffbjhfaaaDoor.K
