/-
  What comes in: lists of acts of layer 3.
-/
import Derived.Test.YtlnecfdbmoilbaaDoorLd
import Derived.Test.YtlnecfdbmoilbaaDoorKy
namespace Go.Proofs.YtlnecfdbmoilbaaDoor.K
open Go.ChangeShapes Go.WideShapes Go.ChangeAt Go.RowKit
set_option linter.unusedVariables false
set_option linter.unusedSimpArgs false
section
variable {H : Type} {enc : TypeId × Value → H} {w : World} {sp : Nat → Bool} {held : Bool}

set_option maxRecDepth 20000 in
theorem ac_at {n : Nat} {cs : List Value} {y : DataW H × List MemPlace} (h : DataW.trod enc Tryd.prog w 0 sp held n 41 cs = some y) : ∃ c : Ac, cs = [c.cell 0, c.cell 1, c.cell 2, c.cell 3, c.cell 4, c.cell 5] := by
  obtain ⟨xs, m, _, _, hl, hxl, hf⟩ := DataW.trod_struct Tryd.underlying41 h
  rw [show Tryd.prog.cellsOf 41 = 6 by kernel_rfl] at hl
  have c3 : Tryd.prog.cellsOf 3 = 1 := by kernel_rfl
  have c5 : Tryd.prog.cellsOf 5 = 1 := by kernel_rfl
  have c6 : Tryd.prog.cellsOf 33 = 1 := by kernel_rfl
  have c9 : Tryd.prog.cellsOf 9 = 1 := by kernel_rfl
  match cs, hl with
  | [a, b, c, d, e, f], _ =>
    have h0 := hf 0 _ rfl
    have h1 := hf 1 _ rfl
    have h2 := hf 2 _ rfl
    have h3 := hf 3 _ rfl
    have h4 := hf 4 _ rfl
    have h5 := hf 5 _ rfl
    change DataW.trod enc Tryd.prog w 0 sp held m 5 (List.take (Tryd.prog.cellsOf 5) [a, b, c, d, e, f]) = xs[0]? at h0
    change DataW.trod enc Tryd.prog w 0 sp held m 3 (List.take (Tryd.prog.cellsOf 3) [b, c, d, e, f]) = xs[1]? at h1
    change DataW.trod enc Tryd.prog w 0 sp held m 3 (List.take (Tryd.prog.cellsOf 3) [c, d, e, f]) = xs[2]? at h2
    change DataW.trod enc Tryd.prog w 0 sp held m 3 (List.take (Tryd.prog.cellsOf 3) [d, e, f]) = xs[3]? at h3
    change DataW.trod enc Tryd.prog w 0 sp held m 33 (List.take (Tryd.prog.cellsOf 33) [e, f]) = xs[4]? at h4
    change DataW.trod enc Tryd.prog w 0 sp held m 9 (List.take (Tryd.prog.cellsOf 9) [f]) = xs[5]? at h5
    rw [c5] at h0
    rw [c3] at h1 h2 h3
    rw [c6] at h4
    rw [c9] at h5
    simp only [List.take_succ_cons, List.take_zero] at h0 h1 h2 h3 h4 h5
    have hx : xs.length = 6 := hxl
    rw [List.getElem?_eq_getElem (by omega)] at h0 h1 h2 h3 h4 h5
    obtain ⟨z0, e0, _⟩ := DataW.trod_int Tryd.underlying5 h0
    obtain ⟨z1, e1, _⟩ := DataW.trod_int Tryd.underlying3 h1
    obtain ⟨z2, e2, _⟩ := DataW.trod_int Tryd.underlying3 h2
    obtain ⟨z3, e3, _⟩ := DataW.trod_int Tryd.underlying3 h3
    obtain ⟨z4, e4, _⟩ := DataW.trod_int Tryd.underlying33 h4
    obtain ⟨z5, e5, _⟩ := DataW.trod_string Tryd.underlying9 h5
    simp only [List.cons.injEq, and_true] at e0 e1 e2 e3 e4 e5
    exact ⟨⟨z0, z1, z3, z2, z4, z5⟩, by rw [e0, e1, e2, e3, e4, e5]; rfl⟩

theorem open_acs {fuel : Nat} {cs : List Value} {x : DataW H × List MemPlace} (h : DataW.trod enc Tryd.prog w 0 sp held fuel 37 cs = some x) :
    cs = [.slice none 0 0] ∨ ∃ (a : Addr) (len cap : Nat) (l : List Ac), cs = [.slice (some a) len cap] ∧ l.length = len ∧ (0 < len → len ≤ 9223372036854775807 ∧ a.spot = none ∧ HE.holds w a.block (.fn a.off (a.off + l.length * 6) (actsA l a.off))) := by
  rcases DataW.trod_slice Tryd.underlying37 h with ⟨e, _⟩ | ⟨a, len, cap, elems, rest, n, _, rfl, _, hb, hl, hm, hlen, hel, _⟩
  · exact .inl e
  right
  have c29 : Tryd.prog.cellsOf 41 = 6 := by kernel_rfl
  rcases Nat.eq_zero_or_pos len with hz | hz
  · exact ⟨a, len, cap, [], rfl, hz.symm, fun h0 => absurd h0 (by omega)⟩
  have got : ∀ i, i < len → ∃ c : Ac, ∀ j, j < 6 → w.cell? ((a.add (i * 6)).add j) = [c.cell 0, c.cell 1, c.cell 2, c.cell 3, c.cell 4, c.cell 5][j]? := by
    intro i hi
    have hk := hel i hi
    rw [c29, List.getElem?_eq_getElem (by omega), Option.bind_eq_some_iff] at hk
    obtain ⟨c3, hc3, hy⟩ := hk
    obtain ⟨c, rfl⟩ := ac_at hy
    exact ⟨c, fun j hj => (World.cells?_some hc3).2.2 j (by simpa using hj)⟩
  have hs : a.spot = none := by
    obtain ⟨c, h3⟩ := got 0 hz
    have h0 := h3 0 (by omega)
    rw [Nat.zero_mul] at h0
    have e : (a.add 0).add 0 = a := by simp [Addr.add]
    rw [e] at h0
    exact (cell_block (v := c.cell 0) h0).1
  obtain ⟨ab, ao, sp_⟩ := a
  obtain rfl : sp_ = none := hs
  have each : ∀ i, ∃ c : Ac, i < len → ∀ j, j < 6 → w.cell? ⟨ab, ao + i * 6 + j, none⟩ = some (c.cell j) := by
    intro i
    by_cases hi : i < len
    · obtain ⟨c, h3⟩ := got i hi
      have e : ∀ j, ((⟨ab, ao, none⟩ : Addr).add (i * 6)).add j = ⟨ab, ao + i * 6 + j, none⟩ := fun j => by rw [addr_add _ (rfl : (⟨ab, ao, none⟩ : Addr).spot = none), addr_add _ rfl]
      refine ⟨c, fun _ j hj => ?_⟩
      have := h3 j hj
      rw [e] at this
      rw [this]
      rcases (by omega : j = 0 ∨ j = 1 ∨ j = 2 ∨ j = 3 ∨ j = 4 ∨ j = 5) with rfl | rfl | rfl | rfl | rfl | rfl <;> rfl
    · exact ⟨Ac.zero, fun h => absurd h hi⟩
  obtain ⟨t, ht⟩ := Classical.skolem.1 each
  have hll : ((List.range len).map t).length = len := by simp
  refine ⟨⟨ab, ao, none⟩, len, cap, (List.range len).map t, rfl, hll, fun h0 => ?_⟩
  obtain ⟨_, c, T, fz, hbk, _⟩ := cell_block (ht 0 h0 0 (by omega))
  have hbk : w.heap[ab]? = some (.cells c T fz) := hbk
  have cellc : ∀ j v, w.cell? ⟨ab, j, none⟩ = some v → c[j]? = some v := by
    intro j v hv
    unfold World.cell? at hv
    rw [hbk] at hv
    simpa using hv
  refine ⟨by have := hl; have := hm; unfold maxLen at *; omega, rfl, c, T, fz, hbk, fun o h1 h2 => ?_⟩
  rw [hll] at h2
  have h1 : ao ≤ o := h1
  have h2 : o < ao + len * 6 := h2
  have hi : (o - ao) / 6 < len := by omega
  have hg : acAt ((List.range len).map t) ((o - ao) / 6) = t ((o - ao) / 6) := by
    unfold acAt
    rw [List.getD_eq_getElem?_getD, List.getElem?_map, List.getElem?_range hi]
    rfl
  show c[o]? = some (actsA ((List.range len).map t) ao o)
  unfold actsA
  rw [hg]
  have := cellc _ _ (ht _ hi ((o - ao) % 6) (by omega))
  rwa [show ao + (o - ao) / 6 * 6 + (o - ao) % 6 = o by omega] at this
end

theorem u64_rng {n : Int} (h : (Lit.int .u64 n).wf = true) : 0 ≤ n ∧ n ≤ 18446744073709551615 := by
  have h1 : IntKind.u64.min = 0 := rfl
  have h2 : IntKind.u64.max = 18446744073709551615 := rfl
  simp [Lit.wf, h1, h2] at h
  omega

end Go.Proofs.YtlnecfdbmoilbaaDoor.K
