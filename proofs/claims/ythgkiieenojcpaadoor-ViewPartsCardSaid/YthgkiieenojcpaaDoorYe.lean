/-
  Parts of a view.
-/
import Derived.Test.YthgkiieenojcpaaDoorYc
namespace Go.Proofs.YthgkiieenojcpaaDoor.K
set_option linter.unusedSimpArgs false
set_option linter.unusedVariables false

theorem p4_thr {a n : Int} (h : 0 ≤ a ∧ 0 ≤ n ∧ a + n ≤ 16384) : thr (comM (AM.new 4) 0 4) a n = true := by
  refine thr_sub (a := 0) (n := 16384) (by decide +kernel) ?_ ?_ ?_ <;> omega
def vfiM (m : AM) (o z a n : Int) (c : UInt8) : AM := if vchE z a n = 0 then filM m (o + a) n c else m
theorem vfi_1 {m : AM} {o z a n : Int} {c : UInt8} (h : vchE z a n ≠ 0) : vchE z a n = vbyE m o z a n ∧ m = vfiM m o z a n c := by unfold vfiM; rw [if_neg h]; exact ⟨vby_1 h, rfl⟩
theorem vfi_2 {m : AM} {o z a n : Int} {c : UInt8} (h : vchE z a n = 0) : chkE m (o + a) n = vbyE m o z a n ∧ filM m (o + a) n c = vfiM m o z a n c := by unfold vfiM; rw [if_pos h]; exact ⟨vby_2 h, rfl⟩
section
variable {m : AM} {o z a1 z1 a2 z2 : Int}
theorem part_in (h : thr m o z = true) (h1 : vchE z a1 z1 = 0) : thr m (o + a1) z1 = true := by
  have := vch_in h1; exact thr_sub h (by omega) (by omega) (by omega)
theorem part_two (h1 : vchE z a1 z1 = 0) (h2 : vchE z1 a2 z2 = 0) : vchE z (a1 + a2) z2 = 0 := by
  have := vch_in h1; have := vch_in h2; exact (vch_yes (by omega)).symm
theorem part_all (h : thr m o z = true) (z0 : 0 ≤ z) : vbyE m o z 0 z = 0 ∧ vbyS m o z 0 z = bs (fun j => m.mem (o.toNat + j)) z.toNat := by
  have := vby_yes (m := m) (o := o) (z := z) (a := 0) (n := z) (by omega) (by rw [Int.add_zero]; exact h)
  rw [Int.add_zero] at this; exact this
theorem part_fil (h : thr m o z = true) (c : UInt8) : vfiM m o z 0 z c = filM m o z c := by
  have hi := inB_facts (thr_in h)
  unfold vfiM; rw [if_pos (vch_yes (by omega)).symm, Int.add_zero]
theorem part_told (h : thr m o z = true) : vbyE (vfiM m o z 0 z (u8 7)) o z 0 z = 0 ∧ vbyS (vfiM m o z 0 z (u8 7)) o z 0 z = repS ⟨#[7]⟩ (Int.toNat z) := by
  have hi := inB_facts (thr_in h)
  rw [part_fil h]
  have ht : thr (filM m o z (u8 7)) o z = true := (thr_same (filM_com _ _ _ _).1 (filM_com _ _ _ _).2 _ _).trans h
  obtain ⟨e1, e2⟩ := part_all ht (by omega)
  refine ⟨e1, ?_⟩
  rw [e2]
  show _ = repS (bs (fun _ => 7) 1) z.toNat
  rw [repS_bs]
  refine bs_congr fun j hj => ?_
  unfold filM
  rw [if_pos h]
  show filF m.mem o.toNat z.toNat (u8 7) (o.toNat + j) = 7
  unfold filF
  rw [if_pos (by omega)]; rfl
end
end Go.Proofs.YthgkiieenojcpaaDoor.K
