/-
  What is done to a view stays in it.
-/
import Derived.Test.YtdjhdcaanmkblaaDoorYe
namespace Go.Proofs.YtdjhdcaanmkblaaDoor.K
set_option linter.unusedSimpArgs false
set_option linter.unusedVariables false

/-- Nothing but what is in the view is another one. -/
structure VA (m0 : AM) (o z : Int) (m : AM) : Prop where
  cap : m.cap = m0.cap
  com : m.com = m0.com
  mem : ∀ y : Nat, (y : Int) < o ∨ o + z ≤ (y : Int) → m.mem y = m0.mem y
section
variable {m0 m : AM} {o z : Int}
theorem VA.refl : VA m0 o z m0 := ⟨rfl, rfl, fun _ _ => rfl⟩
theorem VA.thr (h : VA m0 o z m) (a n : Int) : Go.Proofs.YtdjhdcaanmkblaaDoor.K.thr m a n = Go.Proofs.YtdjhdcaanmkblaaDoor.K.thr m0 a n := thr_same h.cap h.com a n
theorem VA.put (h : VA m0 o z m) (ho : 0 ≤ o) {a : Int} {s : ByteArray} (ha : 0 ≤ a ∧ a + (s.size : Int) ≤ z) : VA m0 o z (putM m (o + a) s) := by
  refine ⟨(putM_com m _ s).1.trans h.cap, (putM_com m _ s).2.trans h.com, fun y hy => ?_⟩
  unfold putM
  split
  · unfold laidM
    refine Eq.trans ?_ (h.mem y hy)
    first
      | exact if_neg (by omega)
      | (dsimp only; rw [if_neg (by omega)])
      | (show (if _ then _ else _) = _; rw [if_neg (by omega)])
  · exact h.mem y hy
end
end Go.Proofs.YtdjhdcaanmkblaaDoor.K
