/-
  What is done to a view stays in it.
-/
import Derived.Test.YtnbkafnikpbmbaaDoorYe
namespace Go.Proofs.YtnbkafnikpbmbaaDoor.K
set_option linter.unusedSimpArgs false
set_option linter.unusedVariables false

def vcpE (m : AM) (o z t f n : Int) : Int := if vchE z f n = 0 then (if vchE z t n = 0 then cpyE m (o + t) (o + f) n else 3) else 3
def vcpM (m : AM) (o z t f n : Int) : AM := if vchE z f n = 0 then (if vchE z t n = 0 then cpyM m (o + t) (o + f) n else m) else m
theorem vcp_1 {m : AM} {o z t f n : Int} (h : vchE z f n ≠ 0) : vchE z f n = vcpE m o z t f n ∧ m = vcpM m o z t f n := by unfold vcpE vcpM; rw [if_neg h, if_neg h]; exact ⟨vch_3 h, rfl⟩
theorem vcp_2 {m : AM} {o z t f n : Int} (h : vchE z f n = 0) (h2 : vchE z t n ≠ 0) : vchE z t n = vcpE m o z t f n ∧ m = vcpM m o z t f n := by unfold vcpE vcpM; rw [if_pos h, if_pos h, if_neg h2, if_neg h2]; exact ⟨vch_3 h2, rfl⟩
theorem vcp_3 {m : AM} {o z t f n : Int} (h : vchE z f n = 0) (h2 : vchE z t n = 0) : cpyE m (o + t) (o + f) n = vcpE m o z t f n ∧ cpyM m (o + t) (o + f) n = vcpM m o z t f n := by unfold vcpE vcpM; rw [if_pos h, if_pos h, if_pos h2, if_pos h2]; exact ⟨rfl, rfl⟩
/-- Nothing but what is in the view is another one. -/
structure VA (m0 : AM) (o z : Int) (m : AM) : Prop where
  cap : m.cap = m0.cap
  com : m.com = m0.com
  mem : ∀ y : Nat, (y : Int) < o ∨ o + z ≤ (y : Int) → m.mem y = m0.mem y
section
variable {m0 m : AM} {o z : Int}
theorem VA.refl : VA m0 o z m0 := ⟨rfl, rfl, fun _ _ => rfl⟩
theorem VA.thr (h : VA m0 o z m) (a n : Int) : Go.Proofs.YtnbkafnikpbmbaaDoor.K.thr m a n = Go.Proofs.YtnbkafnikpbmbaaDoor.K.thr m0 a n := thr_same h.cap h.com a n
theorem VA.put (h : VA m0 o z m) (ho : 0 ≤ o) {a : Int} {s : ByteArray} (ha : 0 ≤ a ∧ a + (s.size : Int) ≤ z) : VA m0 o z (putM m (o + a) s) := by
  refine ⟨(putM_com m _ s).1.trans h.cap, (putM_com m _ s).2.trans h.com, fun y hy => ?_⟩
  unfold putM
  split
  · unfold laidM
    refine Eq.trans ?_ (h.mem y hy)
    first
      | exact if_neg (by omega)
      | (dsimp only; rw [if_neg (by omega)])
      | (show (if _ then _ else _) = _; rw [if_neg (by omega)])
  · exact h.mem y hy
theorem VA.vpt (h : VA m0 o z m) (ho : 0 ≤ o) (a : Int) (s : ByteArray) : VA m0 o z (vptM m o z a s) := by
  unfold vptM
  split
  · rename_i q; have := vch_in q; exact h.put ho (by omega)
  · exact h
theorem VA.vst (h : VA m0 o z m) (ho : 0 ≤ o) (a k x : Int) : VA m0 o z (vstM m o z a k x) := by
  unfold vstM
  split
  · rename_i hwb
    split
    · rename_i q; have := vch_in q
      unfold stM
      rw [if_pos hwb]
      exact h.put ho (by rw [bs_size]; omega)
    · exact h
  · exact h
theorem VA.vfi (h : VA m0 o z m) (ho : 0 ≤ o) (a n : Int) (c : UInt8) : VA m0 o z (vfiM m o z a n c) := by
  unfold vfiM
  split
  · rename_i q; have := vch_in q
    refine ⟨(filM_com m _ _ _).1.trans h.cap, (filM_com m _ _ _).2.trans h.com, fun y hy => ?_⟩
    by_cases ht : Go.Proofs.YtnbkafnikpbmbaaDoor.K.thr m (o + a) n = true
    · exact (filM_far ht (by omega)).trans (h.mem y hy)
    · unfold filM; rw [if_neg ht]; exact h.mem y hy
  · exact h
theorem VA.vcp (h : VA m0 o z m) (ho : 0 ≤ o) (t f n : Int) : VA m0 o z (vcpM m o z t f n) := by
  unfold vcpM
  split
  · split
    · rename_i q1 q2; have := vch_in q1; have := vch_in q2
      unfold cpyM
      split
      · rename_i ht
        have hs := bytS_size ht
        exact h.put ho (by rw [hs]; omega)
      · exact h
    · exact h
  · exact h
/-- Ahead of the view, and behind it, all is what it was. -/
theorem VA.cut (h : VA m0 o z m) (h0 : Go.Proofs.YtnbkafnikpbmbaaDoor.K.thr m0 0 16384 = true) (ho : 0 ≤ o ∧ 0 ≤ z ∧ o + z ≤ 16384) :
    (bytS m 0 16384).extract (Int.toNat 0) (Int.toNat o) = (bytS m0 0 16384).extract (Int.toNat 0) (Int.toNat o) ∧ ∀ k : Nat, (bytS m 0 16384).extract (Int.toNat (o + z)) (min k 16384) = (bytS m0 0 16384).extract (Int.toNat (o + z)) (min k 16384) := by
  have h1 := (h.thr 0 16384).trans h0
  unfold bytS
  rw [if_pos h1, if_pos h0]
  exact ⟨bs_cut (by omega) fun j _ hj => h.mem _ (by omega), fun k => bs_cut (by omega) fun j hj _ => h.mem _ (by omega)⟩
end
end Go.Proofs.YtnbkafnikpbmbaaDoor.K
