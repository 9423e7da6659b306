/-
  Entries that come, and go, and come out again: plainly.
-/
import Derived.Test.YtefffenljiaioaaDoorJd
namespace Go.Proofs.YtefffenljiaioaaDoor.K
set_option linter.unusedSimpArgs false
set_option linter.unusedVariables false

/-- Bytes in an array that is read. -/
def entK (kf : Nat → UInt8) (i : Nat) : Ent := ((i : Int) + 1, (((kf i).toNat : Nat) : Int), (((kf i).toNat / 2 : Nat) : Int), IntKind.wrap .u64 ((((kf i).toNat : Nat) : Int) * 2 ^ 50))
theorem entK_ok (kf : Nat → UInt8) {i : Nat} (h : i < 16) : (entK kf i).ok ∧ (entK kf i).1 ≠ 0 := by
  have := (kf i).toNat_lt
  have hw := wrap_u64_rng ((((kf i).toNat : Nat) : Int) * 2 ^ 50)
  unfold Ent.ok entK
  dsimp only
  refine ⟨⟨⟨by omega, by omega⟩, ⟨by omega, by omega⟩, ⟨by omega, by omega⟩, hw.1, hw.2⟩, by omega⟩
def addsK (kf : Nat → UInt8) (k : Nat) : List Ent := (List.range k).map (entK kf)
theorem addsK_id {kf : Nat → UInt8} {k : Nat} {e : Ent} (h : e ∈ addsK kf k) : e.1 < (k : Int) + 1 := by
  unfold addsK at h
  obtain ⟨j, hj, rfl⟩ := List.mem_map.1 h
  have := List.mem_range.1 hj
  unfold entK; dsimp only; omega
theorem addsK_succ (kf : Nat → UInt8) (k : Nat) : addsK kf (k + 1) = addsK kf k ++ [entK kf k] := by
  unfold addsK; rw [List.range_succ, List.map_append]; rfl
theorem addsK_len (kf : Nat → UInt8) (k : Nat) : (addsK kf k).length = k := by unfold addsK; simp
theorem addsK_step {kf : Nat → UInt8} {m : AM} {x : Int} (h : HL m 40 384 (addsK kf x.toNat)) (h0 : 0 ≤ x) (h1 : x < 16) :
    addE m 40 384 (x + 1) = 0 ∧ HL (addM m 40 384 (x + 1) (((kf x.toNat).toNat : Nat) : Int) (((kf x.toNat).toNat / 2 : Nat) : Int) (IntKind.wrap .u64 ((((kf x.toNat).toNat : Nat) : Int) * 2 ^ 50))) 40 384 (addsK kf (x + 1).toNat) := by
  obtain ⟨k, rfl⟩ := Int.eq_ofNat_of_zero_le h0
  rw [show ((k : Int) + 1).toNat = k + 1 by omega, addsK_succ]
  have he := entK_ok kf (i := k) (by omega)
  have := h.add (id := (k : Int) + 1) (kd := (((kf k).toNat : Nat) : Int)) (lv := (((kf k).toNat / 2 : Nat) : Int)) (ar := IntKind.wrap .u64 ((((kf k).toNat : Nat) : Int) * 2 ^ 50)) he.1 he.2 (fun e hm => by have := addsK_id hm; rw [Int.toNat_natCast] at this; omega) (by rw [addsK_len, Int.toNat_natCast, show cSl 384 = 16 by decide]; omega)
  exact this
theorem addsK_none (kf : Nat → UInt8) {m : AM} (ht : thr m 40 384 = true) (hz : ∀ x, m.mem x = 0) : HL m 40 384 (addsK kf (0 : Int).toNat) := by
  refine ⟨⟨ht, fun j hj => ?_⟩, by show (0 : Int) ≤ _; decide, fun e he => nomatch he⟩
  have hR := oRec_at ht (by omega) hj
  have n0 : cN0 m 40 j = 0 := hR.zero hz (i := 0) (by decide)
  have n1 : cN1 m 40 j = 0 := hR.zero hz (i := 1) (by decide)
  unfold cEnt cId cKd cLv
  rw [n0, n1]; rfl
def kqF (nk : Nat) (kb : Nat → Bool) (i : Nat) : Bool := decide ((i : Int) < (nk : Int)) && kb i
/-- Of the first ones those that stay. -/
def keptK (q : Nat → Bool) (kf : Nat → UInt8) (k : Nat) : List Ent := ((List.range k).filter fun j => !q j).map (entK kf)
def restK (kf : Nat → UInt8) (i n : Nat) : List Ent := (List.range' i (n - i)).map (entK kf)
section
variable {q : Nat → Bool} {kf : Nat → UInt8} {k n : Nat}
theorem keptK_yes (h : q k = true) : keptK q kf (k + 1) = keptK q kf k := by
  unfold keptK; rw [List.range_succ, List.filter_append]; simp [h]
theorem keptK_no (h : q k = false) : keptK q kf (k + 1) = keptK q kf k ++ [entK kf k] := by
  unfold keptK; rw [List.range_succ, List.filter_append]; simp [h]
theorem restK_cons (h : k < n) : restK kf k n = entK kf k :: restK kf (k + 1) n := by
  unfold restK
  rw [show n - k = (n - (k + 1)) + 1 by omega, List.range'_succ]; rfl
theorem restK_end : restK kf n n = [] := by unfold restK; simp
theorem keptK_le (q : Nat → Bool) (kf : Nat → UInt8) (k : Nat) : (keptK q kf k).length ≤ k := by
  unfold keptK
  rw [List.length_map]
  exact Nat.le_trans (List.length_filter_le _ _) (by rw [List.length_range]; exact Nat.le_refl _)
theorem keptK_id {e : Ent} (h : e ∈ keptK q kf k) : e.1 < (k : Int) + 1 := by
  unfold keptK at h
  obtain ⟨j, hj, rfl⟩ := List.mem_map.1 h
  have := List.mem_range.1 (List.mem_filter.1 hj).1
  unfold entK; dsimp only; omega
theorem kept_start : addsK kf n = keptK q kf 0 ++ restK kf 0 n := by
  unfold addsK keptK restK
  rw [List.range_eq_range']; rfl
end
/-- What the list holds when so many have been looked at. -/
def ksK (q : Nat → Bool) (kf : Nat → UInt8) (n : Nat) (x : Int) : List Ent := keptK q kf x.toNat ++ restK kf x.toNat n
section
variable {q : Nat → Bool} {kf : Nat → UInt8} {n : Nat} {m : AM} {x y : Int}
theorem ks_start (h : HL m 40 384 (addsK kf y.toNat)) (hy : y.toNat = n) : HL m 40 384 (ksK q kf n 0) := by
  rw [hy] at h; unfold ksK; rw [kept_start (q := q)] at h; exact h
theorem ks_stay (h : HL m 40 384 (ksK q kf n x)) (h0 : 0 ≤ x) (h1 : x < (n : Int)) (hk : q x.toNat = false) : HL m 40 384 (ksK q kf n (x + 1)) := by
  unfold ksK at *
  rw [show (x + 1).toNat = x.toNat + 1 by omega, keptK_no hk, List.append_assoc, List.singleton_append, ← restK_cons (by omega)]; exact h
theorem ks_kill (h : HL m 40 384 (ksK q kf n x)) (h0 : 0 ≤ x) (h1 : x < (n : Int)) (hk : q x.toNat = true) :
    ((killE m 40 384 (x + 1) = 0 ∧ kIf m 40 384 (x + 1) (cId m 40 (cFind m 40 384 (x + 1))) = x + 1) ∧ kIf m 40 384 (x + 1) (cKd m 40 (cFind m 40 384 (x + 1))) = (((kf x.toNat).toNat : Nat) : Int) ∧ kIf m 40 384 (x + 1) (cLv m 40 (cFind m 40 384 (x + 1))) = (((kf x.toNat).toNat / 2 : Nat) : Int) ∧ kIf m 40 384 (x + 1) (cN1 m 40 (cFind m 40 384 (x + 1))) = IntKind.wrap .u64 ((((kf x.toNat).toNat : Nat) : Int) * 2 ^ 50)) ∧ HL (killM m 40 384 (x + 1)) 40 384 (ksK q kf n (x + 1)) := by
  obtain ⟨k, rfl⟩ := Int.eq_ofNat_of_zero_le h0
  rw [Int.toNat_natCast] at hk
  unfold ksK at *
  rw [show ((k : Int) + 1).toNat = k + 1 by omega, keptK_yes hk]
  rw [Int.toNat_natCast, restK_cons (by omega)] at h
  obtain ⟨a1, a2, a3, a4, a5⟩ := h.kill (L1 := keptK q kf k) (L2 := restK kf (k + 1) n) (e := entK kf k) rfl (fun e he => by have := keptK_id he; show e.1 ≠ (k : Int) + 1; omega)
  have a4 : cFind m 40 384 ((k : Int) + 1) = (((keptK q kf k).length : Nat) : Int) := a4
  refine ⟨⟨⟨a1, ?_⟩, ?_, ?_, ?_⟩, a5⟩
  · rw [a4]; exact (a2 _).trans (congrArg (fun e : Ent => e.1) a3)
  · rw [a4]; exact (a2 _).trans (congrArg (fun e : Ent => e.2.1) a3)
  · rw [a4]; exact (a2 _).trans (congrArg (fun e : Ent => e.2.2.1) a3)
  · rw [a4]; exact (a2 _).trans (congrArg (fun e : Ent => e.2.2.2) a3)
theorem ks_end (h : HL m 40 384 (ksK q kf n x)) (hx : x = (n : Int)) : HL m 40 384 (keptK q kf n) ∧ cCnt m 40 384 = (keptK q kf n).length := by
  have e : ksK q kf n x = keptK q kf n := by unfold ksK; rw [show x.toNat = n by omega, restK_end, List.append_nil]
  rw [e] at h
  exact ⟨h, h.cnt⟩
theorem kd_yes {d : Int} (hk : q x.toNat = true) (h0 : 0 ≤ x) (h : d = x - ((keptK q kf x.toNat).length : Int)) : d + 1 = x + 1 - ((keptK q kf (x + 1).toNat).length : Int) := by
  rw [show (x + 1).toNat = x.toNat + 1 by omega, keptK_yes hk]; omega
theorem kd_no {d : Int} (hk : q x.toNat = false) (h0 : 0 ≤ x) (h : d = x - ((keptK q kf x.toNat).length : Int)) : d = x + 1 - ((keptK q kf (x + 1).toNat).length : Int) := by
  rw [show (x + 1).toNat = x.toNat + 1 by omega, keptK_no hk, List.length_append, List.length_singleton]; omega
theorem pk_stay (h : HL m 40 384 (keptK q kf (x + 1).toNat)) (h0 : 0 ≤ x) (hk : q x.toNat = true) : HL m 40 384 (keptK q kf (x - 1 + 1).toNat) := by
  rw [show (x + 1).toNat = x.toNat + 1 by omega, keptK_yes hk] at h
  rw [show (x - 1 + 1).toNat = x.toNat by omega]; exact h
theorem pk_pop (h : HL m 40 384 (keptK q kf (x + 1).toNat)) (h0 : 0 ≤ x) (hk : q x.toNat = false) :
    ((popB m 40 384 = true ∧ pIf m 40 384 (cId m 40 (((cCnt m 40 384 : Nat) : Int) - 1)) = x + 1) ∧ pIf m 40 384 (cKd m 40 (((cCnt m 40 384 : Nat) : Int) - 1)) = (((kf x.toNat).toNat : Nat) : Int) ∧ pIf m 40 384 (cLv m 40 (((cCnt m 40 384 : Nat) : Int) - 1)) = (((kf x.toNat).toNat / 2 : Nat) : Int) ∧ pIf m 40 384 (cN1 m 40 (((cCnt m 40 384 : Nat) : Int) - 1)) = IntKind.wrap .u64 ((((kf x.toNat).toNat : Nat) : Int) * 2 ^ 50)) ∧ HL (popM m 40 384) 40 384 (keptK q kf (x - 1 + 1).toNat) := by
  obtain ⟨k, rfl⟩ := Int.eq_ofNat_of_zero_le h0
  rw [Int.toNat_natCast] at hk
  rw [show ((k : Int) + 1).toNat = k + 1 by omega, keptK_no hk] at h
  rw [show ((k : Int) - 1 + 1).toNat = k by omega]
  obtain ⟨a1, a2, a3, a4, a5⟩ := h.pop
  have a6 : (((cCnt m 40 384 : Nat) : Int) - 1) = (((keptK q kf k).length : Nat) : Int) := by rw [a4]; omega
  refine ⟨⟨⟨a1, ?_⟩, ?_, ?_, ?_⟩, a5⟩
  · rw [a6]; exact (a2 _).trans (congrArg (fun e : Ent => e.1) a3)
  · rw [a6]; exact (a2 _).trans (congrArg (fun e : Ent => e.2.1) a3)
  · rw [a6]; exact (a2 _).trans (congrArg (fun e : Ent => e.2.2.1) a3)
  · rw [a6]; exact (a2 _).trans (congrArg (fun e : Ent => e.2.2.2) a3)
theorem pk_end (h : HL m 40 384 (keptK q kf (x + 1).toNat)) (hx : x + 1 ≤ 0) : popB m 40 384 = false := by
  rw [show (x + 1).toNat = 0 by omega] at h
  exact h.pop0.1
end
end Go.Proofs.YtefffenljiaioaaDoor.K
