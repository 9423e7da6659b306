/-
  What is done to a view stays in it.
-/
import Derived.Test.YtdjhdcaanmkblaaDoorYe
namespace Go.Proofs.YtdjhdcaanmkblaaDoor.K
set_option linter.unusedSimpArgs false
set_option linter.unusedVariables false

def vcpE (m : AM) (o z t f n : Int) : Int := if vchE z f n = 0 then (if vchE z t n = 0 then cpyE m (o + t) (o + f) n else 3) else 3
def vcpM (m : AM) (o z t f n : Int) : AM := if vchE z f n = 0 then (if vchE z t n = 0 then cpyM m (o + t) (o + f) n else m) else m
theorem vcp_1 {m : AM} {o z t f n : Int} (h : vchE z f n ≠ 0) : vchE z f n = vcpE m o z t f n ∧ m = vcpM m o z t f n := by unfold vcpE vcpM; rw [if_neg h, if_neg h]; exact ⟨vch_3 h, rfl⟩
theorem vcp_2 {m : AM} {o z t f n : Int} (h : vchE z f n = 0) (h2 : vchE z t n ≠ 0) : vchE z t n = vcpE m o z t f n ∧ m = vcpM m o z t f n := by unfold vcpE vcpM; rw [if_pos h, if_pos h, if_neg h2, if_neg h2]; exact ⟨vch_3 h2, rfl⟩
theorem vcp_3 {m : AM} {o z t f n : Int} (h : vchE z f n = 0) (h2 : vchE z t n = 0) : cpyE m (o + t) (o + f) n = vcpE m o z t f n ∧ cpyM m (o + t) (o + f) n = vcpM m o z t f n := by unfold vcpE vcpM; rw [if_pos h, if_pos h, if_pos h2, if_pos h2]; exact ⟨rfl, rfl⟩
/-- Nothing but what is in the view is another one. -/
structure VA (m0 : AM) (o z : Int) (m : AM) : Prop where
  cap : m.cap = m0.cap
  com : m.com = m0.com
  mem : ∀ y : Nat, (y : Int) < o ∨ o + z ≤ (y : Int) → m.mem y = m0.mem y
section
variable {m0 m : AM} {o z : Int}
theorem VA.refl : VA m0 o z m0 := ⟨rfl, rfl, fun _ _ => rfl⟩
theorem VA.thr (h : VA m0 o z m) (a n : Int) : Go.Proofs.YtdjhdcaanmkblaaDoor.K.thr m a n = Go.Proofs.YtdjhdcaanmkblaaDoor.K.thr m0 a n := thr_same h.cap h.com a n
theorem VA.put (h : VA m0 o z m) (ho : 0 ≤ o) {a : Int} {s : ByteArray} (ha : 0 ≤ a ∧ a + (s.size : Int) ≤ z) : VA m0 o z (putM m (o + a) s) := by
  refine ⟨(putM_com m _ s).1.trans h.cap, (putM_com m _ s).2.trans h.com, fun y hy => ?_⟩
  unfold putM
  split
  · unfold laidM
    refine Eq.trans ?_ (h.mem y hy)
    first
      | exact if_neg (by omega)
      | (dsimp only; rw [if_neg (by omega)])
      | (show (if _ then _ else _) = _; rw [if_neg (by omega)])
  · exact h.mem y hy
end
end Go.Proofs.YtdjhdcaanmkblaaDoor.K
