/-
  What comes in: chunks; the bounds of small numbers.
-/
import Derived.Test.YtghohcgbmceiaaaDoorLd
import Derived.Test.YtghohcgbmceiaaaDoorM4
namespace Go.Proofs.YtghohcgbmceiaaaDoor.K
open Go.ChangeShapes Go.WideShapes Go.ChangeAt Go.RowKit
set_option linter.unusedVariables false
set_option linter.unusedSimpArgs false
section
variable {H : Type} {enc : TypeId × Value → H} {w : World} {sp : Nat → Bool} {held : Bool}

set_option maxRecDepth 20000 in
theorem open_chunk {v : Value} {d : DataW H} {ps : List MemPlace} (hd : DataW.Trod enc Tryd.prog w 0 sp held 70 v d ps) (hs : ∃ cs, v = .agg cs ∧ cs.size = Tryd.prog.cellsOf 70) : ∃ a b c e : Int, v = .agg #[.int .i64 a, .int .i64 b, .int .u64 c, .int .i64 e] ∧ (Lit.int .u64 c).wf = true ∧ (Lit.int .i64 e).wf = true := by
  obtain ⟨cs, rfl, _⟩ := hs
  obtain ⟨n, h⟩ := hd
  obtain ⟨cs⟩ := cs
  change DataW.trod enc Tryd.prog w 0 sp held n 70 cs = some (d, ps) at h
  obtain ⟨xs, m, _, _, hl, hxl, hf⟩ := DataW.trod_struct Tryd.underlying70 h
  rw [show Tryd.prog.cellsOf 70 = 4 by kernel_rfl] at hl
  have c3 : Tryd.prog.cellsOf 3 = 1 := by kernel_rfl
  have c6 : Tryd.prog.cellsOf 54 = 1 := by kernel_rfl
  match cs, hl with
  | [a, b, c, e], _ =>
    have h0 := hf 0 _ rfl
    have h1 := hf 1 _ rfl
    have h2 := hf 2 _ rfl
    have h3 := hf 3 _ rfl
    change DataW.trod enc Tryd.prog w 0 sp held m 3 (List.take (Tryd.prog.cellsOf 3) [a, b, c, e]) = xs[0]? at h0
    change DataW.trod enc Tryd.prog w 0 sp held m 3 (List.take (Tryd.prog.cellsOf 3) [b, c, e]) = xs[1]? at h1
    change DataW.trod enc Tryd.prog w 0 sp held m 54 (List.take (Tryd.prog.cellsOf 54) [c, e]) = xs[2]? at h2
    change DataW.trod enc Tryd.prog w 0 sp held m 3 (List.take (Tryd.prog.cellsOf 3) [e]) = xs[3]? at h3
    rw [c3] at h0 h1 h3
    rw [c6] at h2
    simp only [List.take_succ_cons, List.take_zero] at h0 h1 h2 h3
    have hx : xs.length = 4 := hxl
    rw [List.getElem?_eq_getElem (by omega)] at h0 h1 h2 h3
    obtain ⟨z0, e0, _⟩ := DataW.trod_int Tryd.underlying3 h0
    obtain ⟨z1, e1, _⟩ := DataW.trod_int Tryd.underlying3 h1
    obtain ⟨z2, e2, _, w2⟩ := DataW.trod_int Tryd.underlying54 h2
    obtain ⟨z3, e3, _, w3⟩ := DataW.trod_int Tryd.underlying3 h3
    simp only [List.cons.injEq, and_true] at e0 e1 e2 e3
    exact ⟨z0, z1, z2, z3, by rw [e0, e1, e2, e3], w2, w3⟩
end
theorem rng_u64 {n : Int} (h : (Lit.int .u64 n).wf = true) : 0 ≤ n ∧ n ≤ 18446744073709551615 := by
  have h1 : IntKind.u64.min = 0 := rfl
  have h2 : IntKind.u64.max = 18446744073709551615 := rfl
  simp [Lit.wf, h1, h2] at h
  omega
theorem rng_i64 {n : Int} (h : (Lit.int .i64 n).wf = true) : -9223372036854775808 ≤ n ∧ n ≤ 9223372036854775807 := by
  have h1 : IntKind.i64.min = -9223372036854775808 := rfl
  have h2 : IntKind.i64.max = 9223372036854775807 := rfl
  simp [Lit.wf, h1, h2] at h
  omega
theorem rng_u16 {n : Int} (h : (Lit.int .u16 n).wf = true) : 0 ≤ n ∧ n ≤ 65535 := by
  have h1 : IntKind.u16.min = 0 := rfl
  have h2 : IntKind.u16.max = 65535 := rfl
  simp [Lit.wf, h1, h2] at h
  omega
end Go.Proofs.YtghohcgbmceiaaaDoor.K
