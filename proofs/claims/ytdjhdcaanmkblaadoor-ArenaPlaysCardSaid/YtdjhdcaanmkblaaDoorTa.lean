/-
  An arena as the document's; objects' headers, plainly.
-/
import Derived.Test.YtdjhdcaanmkblaaDoorRa
import Derived.Test.YtdjhdcaanmkblaaDoorM3
namespace Go.Proofs.YtdjhdcaanmkblaaDoor.K
set_option linter.unusedSimpArgs false
set_option linter.unusedVariables false

theorem thr_mk {m : AM} {a k : Int} (hi : inB m a k = true) (hu : ∀ i : Nat, a / 4096 ≤ (i : Int) → (i : Int) ≤ (a + k - 1) / 4096 → m.com i = true) : thr m a k = true := by
  unfold thr
  rw [hi]
  obtain ⟨h1, h2, h3, h4⟩ := inB_facts hi
  by_cases hk : k = 0
  · simp [hk]
  · have hc := cntR_all (b := true) (p := m.com) (pgN a k) (pg0 a) (fun i q1 q2 => hu i (by unfold pg0 at q1; omega) (by unfold pg0 at q2; unfold pgN at q2; omega))
    simp only [if_true] at hc
    simp [hc]
theorem page_one {m : AM} {i : Nat} (h : i < m.cap) (hc : m.com i = true) : thr m (4096 * (i : Int)) 4096 = true := by
  refine thr_mk (inB_yes (by omega) (by omega) (by omega) (by omega)) fun j h1 h2 => ?_
  rw [show j = i by omega]; exact hc
/-- An arena's pages, as strings. -/
def pgS (m : AM) (i : Nat) : ByteArray := if m.com i then bs (fun j => m.mem (4096 * i + j)) 4096 else ⟨#[]⟩
def pgU (m : AM) (x i : Nat) : ByteArray := if i < x then pgS m i else ⟨#[]⟩
theorem byt_page {m : AM} {x : Int} (h0 : 0 ≤ x) (h1 : x < (m.cap : Int)) (hc : m.com x.toNat = true) : bytS m (x * 4096) 4096 = pgS m x.toNat ∧ chkE m (x * 4096) 4096 = 0 := by
  have ht : thr m (x * 4096) 4096 = true := by
    have := page_one (m := m) (i := x.toNat) (by omega) hc
    rwa [show 4096 * ((x.toNat : Nat) : Int) = x * 4096 by omega] at this
  refine ⟨?_, chk_thr ht⟩
  unfold bytS pgS
  rw [if_pos ht, if_pos hc, show (x * 4096).toNat = 4096 * x.toNat by omega]
  rfl
theorem pgU_zero (m : AM) : (fun _ => (⟨#[]⟩ : ByteArray)) = pgU m 0 := by funext i; unfold pgU; rw [if_neg (by omega)]
theorem pgU_yes {m : AM} {x : Int} (h0 : 0 ≤ x) (h1 : x < (m.cap : Int)) (hc : m.com x.toNat = true) (o : Nat) : strs (pgU m (x + 1).toNat) 0 o = strs (putS (pgU m x.toNat) x.toNat (bytS m (x * 4096) 4096)) 0 o := by
  unfold strs putS pgU
  rw [Nat.sub_zero, (byt_page h0 h1 hc).1, show (x + 1).toNat = x.toNat + 1 by omega]
  by_cases e : o = x.toNat
  · rw [if_pos e, if_pos (by omega), e]
  · rw [if_neg e]
    by_cases e2 : o < x.toNat
    · rw [if_pos e2, if_pos (by omega)]
    · rw [if_neg e2, if_neg (by omega)]
theorem pgU_no {m : AM} {x : Int} (h0 : 0 ≤ x) (hc : m.com x.toNat = false) (o : Nat) : strs (pgU m (x + 1).toNat) 0 o = strs (pgU m x.toNat) 0 o := by
  unfold strs pgU
  rw [Nat.sub_zero, show (x + 1).toNat = x.toNat + 1 by omega]
  by_cases e : o = x.toNat
  · rw [if_pos (by omega), if_neg (by omega), e]; unfold pgS; rw [hc]; rfl
  · by_cases e2 : o < x.toNat
    · rw [if_pos e2, if_pos (by omega)]
    · rw [if_neg e2, if_neg (by omega)]
theorem pgU_all (m : AM) {n x : Nat} (h : n ≤ x) : ∀ o, o < n → strs (pgU m x) 0 o = strs (pgS m) 0 o := fun o ho => by
  unfold strs pgU; rw [if_pos (by omega)]
theorem size_list {s t : ByteArray} (h : s.toList = t.toList) : s.size = t.size := by rw [toList_inj h]
theorem pgS_size {m : AM} {i : Nat} (h : m.com i = true) : (pgS m i).size = 4096 := by unfold pgS; rw [if_pos h, bs_size]
theorem there_pgS (m : AM) : thereF (pgS m) = m.com := by
  funext i
  unfold thereF
  cases h : m.com i with
  | false => unfold pgS; rw [h]; simp
  | true =>
    have hs := pgS_size h
    cases hb : (ByteArray.toList (pgS m i) == ByteArray.toList (⟨#[]⟩ : ByteArray)) with
    | false => rfl
    | true =>
      have := size_list (beq_iff_eq.1 hb)
      rw [hs] at this
      exact absurd this (by decide)
theorem thr_pgS (m : AM) (a k : Int) : thr (amS (pgS m) m.cap) a k = thr m a k := by
  unfold thr inB amS; rw [there_pgS]
theorem hasV_in {p : Nat → Bool} {n : Nat} {x : Int} (h0 : 0 ≤ x) (h1 : x < (n : Int)) : hasV p n x = p x.toNat := by
  unfold hasV; rw [decide_eq_true h0, decide_eq_true h1]; rfl
theorem capN_of {n : Nat} (h : n ≤ 1048576) : capN (n : Int) = n := by
  unfold capN imax imin; split <;> split <;> omega
section
variable {c : Cx} {H : Heap} {A : List Res} {w : World}
end
/-! ## Objects' headers -/
section
variable {m : AM} {a s p : Int}
end
end Go.Proofs.YtdjhdcaanmkblaaDoor.K
