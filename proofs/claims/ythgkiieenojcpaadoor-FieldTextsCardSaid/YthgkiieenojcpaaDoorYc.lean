/-
  A page of the same bytes, and a text in it.
-/
import Derived.Test.YthgkiieenojcpaaDoorYa
import Derived.Test.YthgkiieenojcpaaDoorUa
namespace Go.Proofs.YthgkiieenojcpaaDoor.K
set_option linter.unusedSimpArgs false
set_option linter.unusedVariables false

theorem ff_thr : thr (filM (comM (AM.new 1) 0 1) 0 4096 (u8 255)) 0 4096 = true := (thr_same (filM_com _ _ _ _).1 (filM_com _ _ _ _).2 _ _).trans (page_thr1 (by decide))
theorem ff_mem {x : Nat} (h : x < 4096) : (filM (comM (AM.new 1) 0 1) 0 4096 (u8 255)).mem x = 255 := by
  unfold filM
  rw [if_pos (page_thr1 (by decide))]
  show filF (comM (AM.new 1) 0 1).mem (Int.toNat 0) (Int.toNat 4096) (u8 255) x = 255
  have e : Int.toNat 4096 = 4096 := rfl
  unfold filF
  rw [if_pos (by rw [e]; exact ⟨Nat.zero_le _, by show x < 0 + 4096; omega⟩)]; rfl
theorem byt_4096 {m : AM} (h : thr m 0 4096 = true) : bytS m 0 4096 = bs (fun j => m.mem (0 + j)) 4096 := by unfold bytS; rw [if_pos h]; rfl
theorem byt_4096s {m : AM} (h : thr m 0 4096 = true) : ByteArray.size (bytS m 0 4096) = 4096 := by rw [byt_4096 h, bs_size]
theorem ff_cut {m : AM} (h : thr m 0 4096 = true) {q q2 : Nat} (h1 : q ≤ q2) (h2 : q2 ≤ 4096) (h3 : ∀ x, q ≤ x → x < q2 → m.mem x = 255) {c : Nat} (hc : c = q2 - q) : ByteArray.extract (bytS m 0 4096) q q2 = repS ⟨#[255]⟩ c := by
  subst hc
  rw [ext_bs _ (k := q2 - q) (by omega) (by rw [byt_4096s h]; exact h2)]
  show _ = repS (bs (fun _ => 255) 1) (q2 - q)
  rw [repS_bs]
  refine bs_congr fun j hj => ?_
  rw [byt_4096 h, sb_bs (by omega), Nat.zero_add]
  exact h3 _ (by omega) (by omega)
section
variable {m : AM} {z a k : Int} {s : ByteArray}
theorem fpM_thr (m : AM) (o z a k : Int) (s : ByteArray) (x y : Int) : thr (fpM m o z a k s) x y = thr m x y := by
  by_cases h : fpE m o z a k s = 0
  · rw [(fp_in h).2.2.2]; rfl
  · rw [fp_no h]
theorem fx_all (hM : ∀ x, x < 4096 → m.mem x = 255) (hT : thr m 0 4096 = true) (h : fpE m 10 z a k s ≠ 0) : bytS (fpM m 10 z a k s) 0 4096 = repS ⟨#[255]⟩ (Int.toNat 4096) := by
  rw [fp_no h, byt_4096 hT]
  show _ = repS (bs (fun _ => 255) 1) 4096
  rw [repS_bs]
  exact bs_congr fun j hj => by rw [Nat.zero_add]; exact hM j hj
theorem fx_mem (hM : ∀ x, x < 4096 → m.mem x = 255) (h : fpE m 10 z a k s = 0) {x : Nat} (h1 : x < 4096) (h2 : (x : Int) < 10 + a ∨ 10 + a + k + 1 ≤ (x : Int)) : (fpM m 10 z a k s).mem x = 255 := by
  obtain ⟨b1, b2, _, e⟩ := fp_in h
  rw [e]
  show laidF m.mem (10 + a).toNat (txtS s).size (txtS s) x = 255
  unfold laidF
  rw [if_neg (by rw [txtS_size]; omega)]
  exact hM x h1
theorem fx_front (hM : ∀ x, x < 4096 → m.mem x = 255) (hT : thr m 0 4096 = true) (h : fpE m 10 z a k s = 0) (hz : z ≤ 400) : ByteArray.extract (bytS (fpM m 10 z a k s) 0 4096) (Int.toNat 0) (Int.toNat (10 + a)) = repS ⟨#[255]⟩ (Int.toNat (10 + a)) := by
  obtain ⟨b1, b2, _, e⟩ := fp_in h
  exact ff_cut ((fpM_thr _ _ _ _ _ _ _ _).trans hT) (Nat.zero_le _) (by omega) (fun x _ h2 => fx_mem hM h (by omega) (by omega)) rfl
theorem fx_back (hM : ∀ x, x < 4096 → m.mem x = 255) (hT : thr m 0 4096 = true) (h : fpE m 10 z a k s = 0) (hz : z ≤ 400) : ByteArray.extract (bytS (fpM m 10 z a k s) 0 4096) (Int.toNat (10 + a + k + 1)) (Int.toNat ((ByteArray.size (bytS (fpM m 10 z a k s) 0 4096) : Nat) : Int)) = repS ⟨#[255]⟩ (Int.toNat (4085 - a - k)) := by
  obtain ⟨b1, b2, _, e⟩ := fp_in h
  have ht := (fpM_thr m 10 z a k s 0 4096).trans hT
  rw [byt_4096s ht]
  exact ff_cut ht (by omega) (by omega) (fun x h1 h2 => fx_mem hM h (by omega) (by omega)) (by omega)
end
end Go.Proofs.YthgkiieenojcpaaDoor.K
