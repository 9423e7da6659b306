/-
  What the document's arena refuses.
-/
import Derived.Test.YtdjhdcaanmkblaaDoorPw
namespace Go.Proofs.YtdjhdcaanmkblaaDoor.K
set_option linter.unusedSimpArgs false
set_option linter.unusedVariables false

theorem rfA_dec (m : AM) (f n : Int) : rfA (decM m f n) = rfA m := by unfold decM; split <;> rfl
theorem rfA_put (m : AM) (a : Int) (s : ByteArray) : rfA (putM m a s) = rfA m := by unfold putM; split <;> rfl
theorem rfA_fil (m : AM) (a n : Int) (c : UInt8) : rfA (filM m a n c) = rfA m := by unfold filM; split <;> rfl
theorem rfA_cpy (m : AM) (t f n : Int) : rfA (cpyM m t f n) = rfA m := by
  unfold cpyM; split
  · exact rfA_put _ _ _
  · rfl
theorem rfA_st (m : AM) (a k v : Int) : rfA (stM m a k v) = rfA m := by
  unfold stM; split
  · exact rfA_put _ _ _
  · rfl
theorem rfA_ref (m : AM) (n : Int) : rfA (refM m n) = imax 0 n := (refuse_set n).symm
theorem rfA_refI (m : AM) (n : Int) : imax n 0 = rfA (refM m n) := by rw [rfA_ref]; unfold imax; split <;> split <;> omega
theorem count_all (m : AM) : cntV m.com m.cap 0 ((m.cap : Nat) : Int) = ((countTo m.com m.cap : Nat) : Int) := by
  have hw : wth m.cap 0 ((m.cap : Nat) : Int) = true := by unfold wth; simp
  rw [cntV_yes hw]
  have : ∀ n, cntR m.com 0 n = countTo m.com n := fun n => by
    induction n with
    | zero => rfl
    | succ n ih => rw [cntR_add, ih]; simp [cntR, countTo]
  simp [this]
theorem trn_all {m : AM} {N : Nat} {k : Int} (h : m.cap = N) (hk : k = (N : Int)) : trnE m.cap 0 k = 0 ∧ cntV m.com m.cap 0 k = ((countTo m.com N : Nat) : Int) := by
  subst h
  subst hk
  exact ⟨(trnE_yes (show wth m.cap 0 ((m.cap : Nat) : Int) = true by unfold wth; simp)).symm, count_all m⟩
theorem trn_ne {m : AM} {N : Nat} {k : Int} (h : m.cap = N) (hk : k = (N : Int)) : ((trnE m.cap 0 k : Int) != 0) = false := by rw [(trn_all h hk).1]; rfl
theorem count_ne {m : AM} {N : Nat} {k : Int} (h : m.cap = N) (hk : k = (N : Int)) : ((cntV m.com m.cap 0 k : Int) != ((countTo m.com N : Nat) : Int)) = false := by rw [(trn_all h hk).2]; exact bne_self_eq_false _
theorem has_out (p : Nat → Bool) (n : Nat) {i : Int} (h : i < 0 ∨ (n : Int) ≤ i) : hasV p n i = false := by
  unfold hasV
  rcases h with h | h <;> simp <;> omega
end Go.Proofs.YtdjhdcaanmkblaaDoor.K
