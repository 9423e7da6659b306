/-
  What comes in: the laid table; lists of acts.
-/
import Derived.Test.YtdjdgdkkhadkoaaDoorRows
import Derived.Test.YtdjdgdkkhadkoaaDoorRx
import Derived.WalkKit
import Derived.ProofKit
import Derived.OpenShut
import Derived.ChangeOld
import Derived.Below
import Derived.SizedLaws
import Derived.Carry
import Derived.LaidMore
import Derived.Lay
import Derived.LaidOnce
namespace Go.Proofs.YtdjdgdkkhadkoaaDoor.K
open Go.ChangeShapes Go.WideShapes Go.ChangeAt Go.RowKit
set_option linter.unusedVariables false
set_option linter.unusedSimpArgs false

theorem own : ownKnob Tryd.prog.godebug = none := by kernel_rfl
theorem laidOut : laidOutB Tryd.prog = true := by kernel_rfl
theorem bel {w w' : World} (h : Fr w w' [] []) : Below w.heap.size w w' := ⟨h.os, h.tape, h.output, h.size, fun k hk => h.block k hk (fun h => h)⟩

def laidT : List (String × DataW Unit) := [("math/bits.deBruijn64tab", Rows.laid_math_bits_deBruijn64tab)]

/-- The listed table's cells. -/
theorem db_holds {W : World} (h : laidMetH Tryd.prog laidT W) : HE.holds W 0 (.fn 0 64 dbT) := by
  rw [MakeChecks.laidMetH_plain _ _ _ (by kernel_rfl)] at h
  obtain ⟨ps, ⟨g, t, cs, fuel, p, q, hg, ht, hv, hd, _, _⟩, _, _⟩ := h
  obtain rfl := Option.some.inj ((show Tryd.prog.globalNamed "math/bits.deBruijn64tab" = some 0 by kernel_rfl).symm.trans hg)
  obtain rfl := Option.some.inj ((show (Tryd.prog.globals[0]?).map (·.type) = some 73 by kernel_rfl).symm.trans ht)
  have c5 : Tryd.prog.cellsOf 5 = 1 := by kernel_rfl
  obtain ⟨xs, m, _, ex, hlen, hl, hel⟩ := DataW.trod_array Tryd.underlying73 hd
  have hcell : ∀ o, o < 64 → W.cell? ⟨0, o, none⟩ = some (dbT o) := by
    intro o ho
    have hk := hel o ho
    rw [c5, Nat.mul_one] at hk
    have hx : o < xs.length := by omega
    rw [List.getElem?_eq_getElem hx] at hk
    obtain ⟨z, ez, ey, _⟩ := DataW.trod_int Tryd.underlying5 hk
    rw [World.var?_cell hg hv o]
    have e1 : (xs.map (·.1))[o]? = ((dbL.map fun z => (DataW.lit (.int .u8 z) : DataW Unit)))[o]? := by
      have := DataW.agg.inj (Prod.mk.inj ex).1
      rw [← this]; rfl
    rw [List.getElem?_map, List.getElem?_eq_getElem hx, List.getElem?_map, ey] at e1
    have ho2 : o < dbL.length := ho
    rw [List.getElem?_eq_getElem ho2] at e1
    simp only [Option.map_some, Option.some.injEq, DataW.lit.injEq, Lit.int.injEq, true_and] at e1
    have e2 : cs.toList[o]? = some (.int .u8 z) := by
      have h1 := congrArg List.head? ez
      rw [List.head?_take, List.head?_drop] at h1
      simpa using h1
    rw [← Array.getElem?_toList, e2]
    unfold dbT
    rw [List.getD_eq_getElem?_getD, List.getElem?_eq_getElem ho2]
    simp [e1]
  obtain ⟨_, c, T, fz, hb, _⟩ := cell_block (hcell 0 (by omega))
  refine ⟨c, T, fz, hb, fun o _ ho => ?_⟩
  have := hcell o ho
  unfold World.cell? at this
  rw [hb] at this
  simpa using this

section
variable {H : Type} {enc : TypeId × Value → H} {w : World} {sp : Nat → Bool} {held : Bool}

theorem act_at {n : Nat} {cs : List Value} {y : DataW H × List MemPlace} (h : DataW.trod enc Tryd.prog w 0 sp held n 29 cs = some y) : ∃ b f k, cs = [.bool b, .int .i64 f, .int .i64 k] := by
  obtain ⟨xs, m, _, _, hl, hxl, hf⟩ := DataW.trod_struct Tryd.underlying29 h
  rw [show Tryd.prog.cellsOf 29 = 3 by kernel_rfl] at hl
  have c3 : Tryd.prog.cellsOf 3 = 1 := by kernel_rfl
  have c4 : Tryd.prog.cellsOf 4 = 1 := by kernel_rfl
  match cs, hl with
  | [a, b, c], _ =>
    have h0 := hf 0 _ rfl
    have h1 := hf 1 _ rfl
    have h2 := hf 2 _ rfl
    change DataW.trod enc Tryd.prog w 0 sp held m 4 (List.take (Tryd.prog.cellsOf 4) [a, b, c]) = xs[0]? at h0
    change DataW.trod enc Tryd.prog w 0 sp held m 3 (List.take (Tryd.prog.cellsOf 3) [b, c]) = xs[1]? at h1
    change DataW.trod enc Tryd.prog w 0 sp held m 3 (List.take (Tryd.prog.cellsOf 3) [c]) = xs[2]? at h2
    rw [c4] at h0
    rw [c3] at h1 h2
    simp only [List.take_succ_cons, List.take_zero] at h0 h1 h2
    have hx : xs.length = 3 := hxl
    rw [List.getElem?_eq_getElem (by omega)] at h0 h1 h2
    obtain ⟨z0, e0, _⟩ := DataW.trod_bool Tryd.underlying4 h0
    obtain ⟨z1, e1, _⟩ := DataW.trod_int Tryd.underlying3 h1
    obtain ⟨z2, e2, _⟩ := DataW.trod_int Tryd.underlying3 h2
    simp only [List.cons.injEq, and_true] at e0 e1 e2
    exact ⟨z0, z1, z2, by rw [e0, e1, e2]⟩

theorem open_acts {fuel : Nat} {cs : List Value} {x : DataW H × List MemPlace} (h : DataW.trod enc Tryd.prog w 0 sp held fuel 22 cs = some x) :
    cs = [.slice none 0 0] ∨ ∃ (a : Addr) (len cap : Nat) (l : List (Bool × Int × Int)), cs = [.slice (some a) len cap] ∧ l.length = len ∧ (0 < len → a.spot = none ∧ HE.holds w a.block (.fn a.off (a.off + l.length * 3) (actsV l a.off))) := by
  rcases DataW.trod_slice Tryd.underlying22 h with ⟨e, _⟩ | ⟨a, len, cap, elems, rest, n, _, rfl, _, hb, hl, hm, hlen, hel, _⟩
  · exact .inl e
  right
  have c29 : Tryd.prog.cellsOf 29 = 3 := by kernel_rfl
  rcases Nat.eq_zero_or_pos len with hz | hz
  · exact ⟨a, len, cap, [], rfl, hz.symm, fun h0 => absurd h0 (by omega)⟩
  have got : ∀ i, i < len → ∃ b f k, ∀ j, j < 3 → w.cell? ((a.add (i * 3)).add j) = [Value.bool b, .int .i64 f, .int .i64 k][j]? := by
    intro i hi
    have hk := hel i hi
    rw [c29, List.getElem?_eq_getElem (by omega), Option.bind_eq_some_iff] at hk
    obtain ⟨c3, hc3, hy⟩ := hk
    obtain ⟨b, f, k, rfl⟩ := act_at hy
    exact ⟨b, f, k, (World.cells?_some hc3).2.2⟩
  have hs : a.spot = none := by
    obtain ⟨b, f, k, h3⟩ := got 0 hz
    have h0 := h3 0 (by omega)
    rw [Nat.zero_mul] at h0
    have e : (a.add 0).add 0 = a := by simp [Addr.add]
    rw [e] at h0
    exact (cell_block (v := .bool b) h0).1
  obtain ⟨ab, ao, sp_⟩ := a
  obtain rfl : sp_ = none := hs
  have each : ∀ i, ∃ t : Bool × Int × Int, i < len → w.cell? ⟨ab, ao + i * 3, none⟩ = some (.bool t.1) ∧ w.cell? ⟨ab, ao + i * 3 + 1, none⟩ = some (.int .i64 t.2.1) ∧ w.cell? ⟨ab, ao + i * 3 + 2, none⟩ = some (.int .i64 t.2.2) := by
    intro i
    by_cases hi : i < len
    · obtain ⟨b, f, k, h3⟩ := got i hi
      have e : ∀ j, ((⟨ab, ao, none⟩ : Addr).add (i * 3)).add j = ⟨ab, ao + i * 3 + j, none⟩ := fun j => by rw [addr_add _ (rfl : (⟨ab, ao, none⟩ : Addr).spot = none), addr_add _ rfl]
      refine ⟨(b, f, k), fun _ => ⟨?_, ?_, ?_⟩⟩
      · have := h3 0 (by omega); rw [e] at this; exact this
      · have := h3 1 (by omega); rw [e] at this; exact this
      · have := h3 2 (by omega); rw [e] at this; exact this
    · exact ⟨(false, 0, 0), fun h => absurd h hi⟩
  obtain ⟨t, ht⟩ := Classical.skolem.1 each
  have hll : ((List.range len).map t).length = len := by simp
  refine ⟨⟨ab, ao, none⟩, len, cap, (List.range len).map t, rfl, hll, fun h0 => ?_⟩
  obtain ⟨_, c, T, fz, hbk, _⟩ := cell_block (ht 0 h0).1
  refine ⟨rfl, c, T, fz, hbk, fun o h1 h2 => ?_⟩
  rw [hll] at h2
  have h1 : ao ≤ o := h1
  have h2 : o < ao + len * 3 := h2
  have hbk : w.heap[ab]? = some (.cells c T fz) := hbk
  have cellc : ∀ j v, w.cell? ⟨ab, j, none⟩ = some v → c[j]? = some v := by
    intro j v hv
    unfold World.cell? at hv
    rw [hbk] at hv
    simpa using hv
  have hi : (o - ao) / 3 < len := by omega
  have hg : actAt ((List.range len).map t) ((o - ao) / 3) = t ((o - ao) / 3) := by
    unfold actAt
    rw [List.getD_eq_getElem?_getD, List.getElem?_map, List.getElem?_range hi]
    rfl
  obtain ⟨k0, k1, k2⟩ := ht _ hi
  show c[o]? = some (actsV ((List.range len).map t) ao o)
  unfold actsV
  rw [hg]
  by_cases e0 : (o - ao) % 3 = 0
  · rw [if_pos e0]
    have := cellc _ _ k0
    rwa [show ao + (o - ao) / 3 * 3 = o by omega] at this
  · rw [if_neg e0]
    by_cases e1 : (o - ao) % 3 = 1
    · rw [if_pos e1]
      have := cellc _ _ k1
      rwa [show ao + (o - ao) / 3 * 3 + 1 = o by omega] at this
    · rw [if_neg e1]
      have := cellc _ _ k2
      rwa [show ao + (o - ao) / 3 * 3 + 2 = o by omega] at this
end

end Go.Proofs.YtdjdgdkkhadkoaaDoor.K
