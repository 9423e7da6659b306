/-
  Plain laws of arenas: all pages there; what was copied is there.
-/
import Derived.Test.YtlnecfdbmoilbaaDoorKu
namespace Go.Proofs.YtlnecfdbmoilbaaDoor.K
set_option linter.unusedSimpArgs false
set_option linter.unusedVariables false

/-- All pages are there. -/
def Full (m : AM) (k : Nat) : Prop := m.cap = k ∧ ∀ i, i < k → m.com i = true
theorem thr_full {m : AM} {k : Nat} (h : Full m k) (a n : Int) : thr m a n = inB m a n := by
  unfold thr
  cases hi : inB m a n with
  | false => rfl
  | true =>
    obtain ⟨g1, g2, g3, g4⟩ := inB_facts hi
    by_cases hn : n = 0
    · simp [hn]
    · have hc := cntR_all (b := true) (p := m.com) (pgN a n) (pg0 a) (fun x h1 h2 => h.2 x (by have := h.1; unfold pg0 pgN at h2; omega))
      simp only [if_true] at hc
      simp [hc]
theorem inB_cap {m m' : AM} (h : m'.cap = m.cap) (a n : Int) : inB m' a n = inB m a n := by unfold inB; rw [h]
theorem Full.laid {m : AM} {k : Nat} (h : Full m k) (a : Nat) (s : ByteArray) : Full (laidM m a s) k := h
theorem Full.put {m : AM} {k : Nat} (h : Full m k) (a : Int) (s : ByteArray) : Full (putM m a s) k := by
  unfold putM; split
  · exact h
  · exact h
theorem Full.cpy {m : AM} {k : Nat} (h : Full m k) (t a n : Int) : Full (cpyM m t a n) k := by
  unfold cpyM; split
  · exact h.put _ _
  · exact h
theorem Full.chk {m m' : AM} {k : Nat} (h : Full m k) (h' : Full m' k) (a n : Int) : chkE m' a n = chkE m a n := by
  unfold chkE; rw [thr_full h, thr_full h', inB_cap (h'.1.trans h.1.symm)]
theorem chk_three {m : AM} {a n : Int} (h : thr m a n = false) : chkE m a n = 3 := by unfold chkE; rw [h]; rfl
/-- What was laid is there. -/
theorem byt_laid {m : AM} {a n : Int} {s : ByteArray} (ht : thr (laidM m a.toNat s) a n = true) (hn : s.size = n.toNat) : bytS (laidM m a.toNat s) a n = s := by
  unfold bytS
  rw [if_pos ht, ← hn]
  conv => rhs; rw [← bs_sb s]
  refine bs_congr fun j hj => ?_
  show laidF m.mem a.toNat s.size s (a.toNat + j) = sb s j
  unfold laidF
  rw [if_pos (by omega), Nat.add_sub_cancel_left]
theorem copies1 {m : AM} {k : Nat} (h : Full m k) {t a n : Int} (he : chkE m a n ≠ 0 ∨ chkE (cpyM m t a n) t n ≠ 0) : cpyE m t a n = 3 := by
  unfold cpyE
  cases hi : thr m a n with
  | false => rw [if_neg (by simp)]; exact chk_three hi
  | true =>
    rw [if_pos rfl]
    rcases he with he | he
    · rw [chk_thr hi] at he; exact absurd rfl he
    · rw [(h.chk (h.cpy t a n) t n)] at he
      rw [bytS_size hi, show ((n.toNat : Nat) : Int) = n by have := (inB_facts (thr_in hi)).2.1; omega]
      exact chk_three (thr_no he)
theorem copies2 {m : AM} {k : Nat} (h : Full m k) {t a n : Int} (h1 : chkE m a n = 0) (h2 : chkE (cpyM m t a n) t n = 0) : cpyE m t a n = 0 ∧ bytS (cpyM m t a n) t n = bytS m a n := by
  have hi := thr_of h1
  have hz : ((n.toNat : Nat) : Int) = n := by have := (inB_facts (thr_in hi)).2.1; omega
  have h3 : chkE m t n = 0 := by rw [← h.chk (h.cpy t a n) t n]; exact h2
  have ht := thr_of h3
  have ht2 := thr_of h2
  constructor
  · unfold cpyE; rw [if_pos hi, bytS_size hi, hz]; exact h3
  · have e : cpyM m t a n = laidM m t.toNat (bytS m a n) := by
      unfold cpyM; rw [if_pos hi]; unfold putM; rw [bytS_size hi, hz, if_pos ht]
    rw [e] at ht2 ⊢
    exact byt_laid ht2 (bytS_size hi)
theorem copies1b {m : AM} {k : Nat} (h : Full m k) {t a n : Int} (he : chkE m a n ≠ 0 ∨ chkE (cpyM m t a n) t n ≠ 0) : (cpyE m t a n == 3) = true := beq_iff_eq.2 (copies1 h he)
theorem copies2b {m : AM} {k : Nat} (h : Full m k) {t a n : Int} (he : chkE m a n = 0 ∧ chkE (cpyM m t a n) t n = 0) : ((cpyE m t a n == 0) && (ByteArray.toList (bytS (cpyM m t a n) t n) == ByteArray.toList (bytS m a n))) = true := by
  obtain ⟨h1, h2⟩ := copies2 h he.1 he.2
  rw [h1, h2]; simp
theorem full4 : Full (comM (AM.new 4) 0 4) 4 := ⟨by decide +kernel, by decide +kernel⟩
theorem put4 {s : ByteArray} (h : s.size ≤ 9000) : chkE (comM (AM.new 4) 0 4) 0 ((s.size : Nat) : Int) = 0 := by
  refine chk_thr ?_
  rw [thr_full full4]
  have : (comM (AM.new 4) 0 4).cap = 4 := full4.1
  exact inB_yes (by omega) (by omega) (by omega) (by omega)

end Go.Proofs.YtlnecfdbmoilbaaDoor.K
