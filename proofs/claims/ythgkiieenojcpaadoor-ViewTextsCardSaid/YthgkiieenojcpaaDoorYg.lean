/-
  Parts that are laid one behind the other.
-/
import Derived.Test.YthgkiieenojcpaaDoorYe
import Derived.Test.YthgkiieenojcpaaDoorQz
import Derived.Lib.Join
namespace Go.Proofs.YthgkiieenojcpaaDoor.K
set_option linter.unusedSimpArgs false
set_option linter.unusedVariables false

def joinS (L : List ByteArray) : ByteArray := ⟨(Lib.join (L.map (·.data.toList)) []).toArray⟩
theorem lens_le {n : Nat} : ∀ L : List ByteArray, (∀ s, s ∈ L → s.size ≤ n) → Lib.lens (L.map (·.data.toList)) ≤ n * L.length
  | [], _ => by simp [Lib.lens]
  | s :: L, h => by
    have ih := lens_le L (fun x hx => h x (List.mem_cons_of_mem _ hx))
    have h1 : s.data.toList.length ≤ n := by rw [Array.length_toList]; exact h s List.mem_cons_self
    have e : Lib.lens ((s :: L).map (·.data.toList)) = s.data.toList.length + Lib.lens (L.map (·.data.toList)) := by simp [Lib.lens]
    rw [e, List.length_cons, Nat.mul_succ]; omega
theorem joinS_len (L : List ByteArray) : (Lib.join (L.map (·.data.toList)) []).length = Lib.lens (L.map (·.data.toList)) := by
  cases L with
  | nil => rfl
  | cons s L => rw [List.map_cons, Lib.join_length]; simp
theorem joinS_size {L : List ByteArray} {n : Nat} (h : ∀ s, s ∈ L → s.size ≤ n) : (joinS L).size ≤ n * L.length := by
  have : (joinS L).size = (Lib.join (L.map (·.data.toList)) []).length := by unfold joinS; show (List.toArray _).size = _; rw [List.size_toArray]
  rw [this, joinS_len]; exact lens_le L h
theorem joinS_bd {L : List ByteArray} {x : Int} (h : ∀ k : Nat, (k : Int) < x → k < L.length → (gtD L k).size ≤ 500) (hx : (L.length : Int) ≤ x) (hl : (L.length : Int) ≤ 20) : (joinS L).size ≤ 10000 := by
  have := joinS_size (L := L) (n := 500) (fun s hs => by
    obtain ⟨j, hj, rfl⟩ := mem_gtD hs
    exact h j (by omega) hj)
  have : 500 * L.length ≤ 500 * 20 := Nat.mul_le_mul_left _ (by omega)
  omega
theorem up_step {L : List ByteArray} {x : Int} (h : ∀ k : Nat, (k : Int) < x → k < L.length → (gtD L k).size ≤ 500) (h0 : 0 ≤ x) (hs : (gtD L x.toNat).size ≤ 500) : ∀ k : Nat, (k : Int) < x + 1 → k < L.length → (gtD L k).size ≤ 500 := fun k hk hl => by
  rcases Int.lt_or_le (k : Int) x with h1 | h1
  · exact h k h1 hl
  · rw [show k = x.toNat by omega]; exact hs
theorem s1V_cell {w : World} {g o : Nat} {L : List ByteArray} (h : HE.holds w g (.fn o (o + L.length) (s1V (gtD L) o))) : (0 < L.length → g < w.heap.size) ∧ ∀ (j : Nat) x, L[j]? = some x → w.cell? ⟨g, o + j, none⟩ = some (.string x) := by
  obtain ⟨c, T, fz, hc, hf⟩ := h
  refine ⟨fun _ => ?_, fun j x hj => ?_⟩
  · rcases Nat.lt_or_ge g w.heap.size with h | h
    · exact h
    · rw [Array.getElem?_eq_none h] at hc; cases hc
  · have hl : j < L.length := (List.getElem?_eq_some_iff.1 hj).1
    unfold World.cell?
    simp only [hc]
    rw [hf (o + j) (by omega) (by omega)]
    unfold s1V
    rw [Nat.add_sub_cancel_left, gtD_lt hl, (List.getElem?_eq_some_iff.1 hj).2]; rfl
theorem p3_thr {a n : Int} (h : 0 ≤ a ∧ 0 ≤ n ∧ a + n ≤ 12288) : thr (comM (AM.new 3) 0 3) a n = true := by
  refine thr_sub (a := 0) (n := 12288) (by decide +kernel) ?_ ?_ ?_ <;> omega
theorem p3_no {a n : Int} (h : thr (comM (AM.new 3) 0 3) a n = true) : 0 ≤ a ∧ 0 ≤ n ∧ a + n ≤ 12288 := by
  have := inB_facts (thr_in h)
  have e : (comM (AM.new 3) 0 3).cap = 3 := by decide +kernel
  rw [e] at this; omega
section
variable {z : Int} {J : ByteArray}
theorem vt_yes (hz : 0 ≤ z ∧ 50 + z ≤ 12288) (h : ((J.size : Nat) : Int) ≤ z) : vptE (comM (AM.new 3) 0 3) 50 z 0 J = 0 ∧ bytS (vptM (comM (AM.new 3) 0 3) 50 z 0 J) 50 ((J.size : Nat) : Int) = J ∧ chkE (vptM (comM (AM.new 3) 0 3) 50 z 0 J) 50 ((J.size : Nat) : Int) = 0 := by
  have hc : vchE z 0 ((J.size : Nat) : Int) = 0 := (vch_yes (by omega)).symm
  have ht : thr (comM (AM.new 3) 0 3) (50 + 0) ((J.size : Nat) : Int) = true := p3_thr (by omega)
  obtain ⟨e1, e2⟩ := vpt_2 (m := comM (AM.new 3) 0 3) (o := 50) hc
  rw [← e1, ← e2, chk_thr ht, ← putM_yes ht]
  have ht2 : thr (laidM (comM (AM.new 3) 0 3) (Int.toNat (50 + 0)) J) 50 ((J.size : Nat) : Int) = true := ht
  exact ⟨rfl, byt_laid (a := 50) ht2 (by omega), chk_thr ht2⟩
theorem vt_no (hz : 0 ≤ z ∧ 50 + z ≤ 12288) (hJ : J.size ≤ 10000) (h : ¬ ((J.size : Nat) : Int) ≤ z) : vptE (comM (AM.new 3) 0 3) 50 z 0 J = 3 ∧ bytS (vptM (comM (AM.new 3) 0 3) 50 z 0 J) 50 ((J.size : Nat) : Int) = bs (fun _ => 0) (Int.toNat ((J.size : Nat) : Int)) ∧ chkE (vptM (comM (AM.new 3) 0 3) 50 z 0 J) 50 ((J.size : Nat) : Int) = 0 := by
  have hc : vchE z 0 ((J.size : Nat) : Int) ≠ 0 := by rw [← vch_no (by omega)]; decide
  have ht : thr (comM (AM.new 3) 0 3) 50 ((J.size : Nat) : Int) = true := p3_thr (by omega)
  obtain ⟨e1, e2⟩ := vpt_1 (m := comM (AM.new 3) 0 3) (o := 50) hc
  rw [← e1, ← e2, vch_3 hc, chk_thr ht]
  refine ⟨rfl, ?_, rfl⟩
  unfold bytS
  rw [if_pos ht]
  exact bs_congr fun j hj => comM_zero (fun _ => rfl) 0 3 _
end
end Go.Proofs.YthgkiieenojcpaaDoor.K
