/-
  What comes in: rows of structs.
-/
import Derived.Test.YtnbkafnikpbmbaaGreatDoorSx
import Derived.Test.YtnbkafnikpbmbaaGreatDoorDv
import Derived.Test.YtnbkafnikpbmbaaGreatDoorLg
namespace Go.Proofs.YtnbkafnikpbmbaaGreatDoor.K
open Go.ChangeShapes Go.WideShapes Go.ChangeAt Go.RowKit
set_option linter.unusedVariables false
set_option linter.unusedSimpArgs false
section
variable {H : Type} {enc : TypeId × Value → H} {w : World} {sp : Nat → Bool} {held : Bool}

def rg_itV (c : ByteArray × Int) : Prop := (0 ≤ c.2 ∧ c.2 ≤ 18446744073709551615) ∧ True
set_option maxRecDepth 20000 in
theorem at_itV {n : Nat} {cs : List Value} {y : DataW H × List MemPlace} (h : DataW.trod enc Tryz.prog w 0 sp held n 39 cs = some y) : ∃ c : ByteArray × Int, rg_itV c ∧ cs = (List.range 2).map (fun j => itV (fun _ => c) 0 j) := by
  obtain ⟨xs, m, _, _, hl, hxl, hf⟩ := DataW.trod_struct Tryz.underlying39 h
  rw [show Tryz.prog.cellsOf 39 = 2 by kernel_rfl] at hl
  have hx : xs.length = 2 := hxl
  have c9 : Tryz.prog.cellsOf 9 = 1 := by kernel_rfl
  have c37 : Tryz.prog.cellsOf 37 = 1 := by kernel_rfl
  match cs, hl with
  | [q0, q1], _ =>
    have h0 := hf 0 _ rfl
    change DataW.trod enc Tryz.prog w 0 sp held m 9 (List.take (Tryz.prog.cellsOf 9) [q0, q1]) = xs[0]? at h0
    rw [c9, List.getElem?_eq_getElem (by omega)] at h0
    simp only [List.take_succ_cons, List.take_zero] at h0
    obtain ⟨z0, e0, _⟩ := DataW.trod_string Tryz.underlying9 h0
    simp only [List.cons.injEq, and_true] at e0
    have h1 := hf 1 _ rfl
    change DataW.trod enc Tryz.prog w 0 sp held m 37 (List.take (Tryz.prog.cellsOf 37) [q1]) = xs[1]? at h1
    rw [c37, List.getElem?_eq_getElem (by omega)] at h1
    simp only [List.take_succ_cons, List.take_zero] at h1
    obtain ⟨z1, e1, _, r1⟩ := DataW.trod_int Tryz.underlying37 h1
    simp only [List.cons.injEq, and_true] at e1
    exact ⟨(z0, z1), ⟨rng_u64 r1, trivial⟩, by rw [e0, e1]; rfl⟩
theorem pt_itV (f : Nat → ByteArray × Int) (o x : Nat) : itV (fun _ => f ((x - o) / 2)) 0 ((x - o) % 2) = itV f o x := by
  unfold itV; simp only [Nat.sub_zero, Nat.mod_mod]
theorem op_itV {fuel : Nat} {cs : List Value} {x : DataW H × List MemPlace} (hdb : HE.holds w 0 (.fn 0 64 dbT)) (h : DataW.trod enc Tryz.prog w 0 sp held fuel 34 cs = some x) :
    ∃ (ao : Option Addr) (c g o : Nat) (L : List (ByteArray × Int)), cs = [.slice ao L.length c] ∧ (L.length = 0 ∨ ao = some ⟨g, o, none⟩) ∧ (∀ i, i < L.length → rg_itV (gtD L i)) ∧ HE.holds w g (.fn o (o + L.length * 2) (itV (gtD L) o)) := by
  rcases open_rows (α := ByteArray × Int) default (fun c j => itV (fun _ => c) 0 j) rg_itV Tryz.underlying34 (show Tryz.prog.cellsOf 39 = 2 by kernel_rfl) (by decide) (fun n cs y h => at_itV h) h with e | ⟨a, len, cap, f, e, hf⟩
  · exact ⟨none, 0, 0, 0, [], e, .inl rfl, fun i hi => absurd hi (by simp), HE.fn_none hdb rfl⟩
  · have hll : ((List.range len).map f).length = len := by simp
    rcases Nat.eq_zero_or_pos len with h0 | h0
    · subst h0
      exact ⟨some a, cap, 0, 0, [], e, .inl rfl, fun i hi => absurd hi (by simp), HE.fn_none hdb rfl⟩
    · obtain ⟨h1, h2, h3, h4⟩ := hf h0
      have hg : ∀ i, i < len → gtD ((List.range len).map f) i = f i := fun i hi => by
        rw [gtD_lt (by omega)]; simp
      obtain ⟨ab, ao, sp_⟩ := a
      obtain rfl : sp_ = none := h2
      refine ⟨some ⟨ab, ao, none⟩, cap, ab, ao, (List.range len).map f, by rw [hll]; exact e, .inr rfl, fun i hi => by rw [hll] at hi; rw [hg i hi]; exact h3 i hi, ?_⟩
      rw [hll]
      refine HE.fn_eq h4 fun x hx1 hx2 => ?_
      rw [pt_itV]
      exact ((itV_cg ao (fun i hi => hg i hi) x hx2).resolve_right (Nat.not_lt_of_le hx1)).symm
set_option maxRecDepth 20000 in
theorem at_aDV {n : Nat} {cs : List Value} {y : DataW H × List MemPlace} (hdb : HE.holds w 0 (.fn 0 64 dbT)) (h : DataW.trod enc Tryz.prog w 0 sp held n 36 cs = some y) : ∃ c : AcD, rg_aDV w c ∧ cs = (List.range 2).map (fun j => aDV (fun _ => c) 0 j) := by
  obtain ⟨xs, m, _, _, hl, hxl, hf⟩ := DataW.trod_struct Tryz.underlying36 h
  rw [show Tryz.prog.cellsOf 36 = 2 by kernel_rfl] at hl
  have hx : xs.length = 2 := hxl
  have c0 : Tryz.prog.cellsOf 5 = 1 := by kernel_rfl
  have c1 : Tryz.prog.cellsOf 34 = 1 := by kernel_rfl
  match cs, hl with
  | [q0, q1], _ =>
    have h0 := hf 0 _ rfl
    change DataW.trod enc Tryz.prog w 0 sp held m 5 (List.take (Tryz.prog.cellsOf 5) [q0, q1]) = xs[0]? at h0
    rw [c0, List.getElem?_eq_getElem (by omega)] at h0
    simp only [List.take_succ_cons, List.take_zero] at h0
    obtain ⟨z0, e0, _, r0⟩ := DataW.trod_int Tryz.underlying5 h0
    have h1 := hf 1 _ rfl
    change DataW.trod enc Tryz.prog w 0 sp held m 34 (List.take (Tryz.prog.cellsOf 34) [q1]) = xs[1]? at h1
    rw [c1, List.getElem?_eq_getElem (by omega)] at h1
    simp only [List.take_succ_cons, List.take_zero] at h1
    obtain ⟨ao, c, g, o, L, e1, hv, hr, hh⟩ := op_itV hdb h1
    simp only [List.cons.injEq, and_true] at e0 e1
    exact ⟨(z0, ao, c, g, o, L), ⟨rng_u8 r0, hv, hh, fun i hi => (hr i hi).1⟩, by rw [e0, e1]; rfl⟩
theorem pt_aDV (f : Nat → AcD) (o x : Nat) : aDV (fun _ => f ((x - o) / 2)) 0 ((x - o) % 2) = aDV f o x := by
  unfold aDV; simp only [Nat.sub_zero, Nat.mod_mod]
theorem op_aDV {fuel : Nat} {cs : List Value} {x : DataW H × List MemPlace} (hdb : HE.holds w 0 (.fn 0 64 dbT)) (h : DataW.trod enc Tryz.prog w 0 sp held fuel 23 cs = some x) :
    ∃ (ao : Option Addr) (c g o : Nat) (L : List AcD), cs = [.slice ao L.length c] ∧ (L.length = 0 ∨ ao = some ⟨g, o, none⟩) ∧ (∀ i, i < L.length → rg_aDV w (gtD L i)) ∧ HE.holds w g (.fn o (o + L.length * 2) (aDV (gtD L) o)) := by
  rcases open_rows (α := AcD) default (fun c j => aDV (fun _ => c) 0 j) (rg_aDV w) Tryz.underlying23 (show Tryz.prog.cellsOf 36 = 2 by kernel_rfl) (by decide) (fun n cs y h => at_aDV hdb h) h with e | ⟨a, len, cap, f, e, hf⟩
  · exact ⟨none, 0, 0, 0, [], e, .inl rfl, fun i hi => absurd hi (by simp), HE.fn_none hdb rfl⟩
  · have hll : ((List.range len).map f).length = len := by simp
    rcases Nat.eq_zero_or_pos len with h0 | h0
    · subst h0
      exact ⟨some a, cap, 0, 0, [], e, .inl rfl, fun i hi => absurd hi (by simp), HE.fn_none hdb rfl⟩
    · obtain ⟨h1, h2, h3, h4⟩ := hf h0
      have hg : ∀ i, i < len → gtD ((List.range len).map f) i = f i := fun i hi => by
        rw [gtD_lt (by omega)]; simp
      obtain ⟨ab, ao, sp_⟩ := a
      obtain rfl : sp_ = none := h2
      refine ⟨some ⟨ab, ao, none⟩, cap, ab, ao, (List.range len).map f, by rw [hll]; exact e, .inr rfl, fun i hi => by rw [hll] at hi; rw [hg i hi]; exact h3 i hi, ?_⟩
      rw [hll]
      refine HE.fn_eq h4 fun x hx1 hx2 => ?_
      rw [pt_aDV]
      exact ((aDV_cg ao (fun i hi => hg i hi) x hx2).resolve_right (Nat.not_lt_of_le hx1)).symm
end
end Go.Proofs.YtnbkafnikpbmbaaGreatDoor.K
