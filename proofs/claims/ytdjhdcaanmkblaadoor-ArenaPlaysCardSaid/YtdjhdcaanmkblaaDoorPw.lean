/-
  Views of the document's arena: what an act upon a view keeps.
-/
import Derived.Test.YtdjhdcaanmkblaaDoorPz
import Derived.Test.YtdjhdcaanmkblaaDoorVz
namespace Go.Proofs.YtdjhdcaanmkblaaDoor.K
set_option linter.unusedSimpArgs false
set_option linter.unusedVariables false

section
variable {c : Cx} {H : Heap} {A : List Res} {w : World}
/-- A call that turns an arena and a block of our own, and gives a block that is read alone. -/
theorem WS.outAM (h : WS c H A w) (i j : Nat) {r r' : Res} {s : Nat} {x y : HE} {w' : World} (hi : A[i]? = some r) (hr : r'.R w') (hj : H[j]? = some (s, x)) (hx : x.own = true) (hy : y.own = true) (hs : y.holds w' s) (hw : Wins w r.F r'.F) (hf : Fr w w' (orF r.F (one s)) no)
    {g : Nat} {z : HE} (hz : z.own = false) (hh : z.holds w' g) (hog : (∃ (i : Nat) (y : HE), H[i]? = some (g, y) ∧ y.own = false) ∨ w.heap.size ≤ g) (hnf : ¬ r'.F g) : WS c (H.set j (s, y) ++ [(g, z)]) (A.set i r') w' := by
  refine (h.stepAM i j hi hr hj hx hy hs hw hf).add hh (fun q => by rw [hz] at q; cases q) (fun hin => ?_) (fun e he hoe e1 => ?_)
  · rcases inF_set hin with h1 | h1
    · exact hnf h1
    · rcases hog with ⟨k, q, hk, _⟩ | hg
      · exact h.free _ (List.mem_of_getElem? hk) h1
      · have := h.ars.lt h1; omega
  · have hoe : e.2.own = true := hoe.resolve_left (fun q => by rw [hz] at q; cases q)
    obtain ⟨k, hk⟩ := List.getElem?_of_mem he
    have hold : ∃ (k : Nat) (q : HE), H[k]? = some (e.1, q) ∧ q.own = true := by
      rcases heap_set_cases hk with ⟨rfl, rfl⟩ | ⟨_, hk⟩
      · exact ⟨_, x, hj, hx⟩
      · exact ⟨k, e.2, hk, hoe⟩
    obtain ⟨k, q, hk, hq⟩ := hold
    rcases hog with ⟨n, y', hn, hy'⟩ | hg
    · have hne : k ≠ n := fun q' => by
        subst q'
        rw [hn] at hk
        obtain ⟨_, rfl⟩ := Prod.mk.inj (Option.some.inj hk)
        rw [hy'] at hq; cases hq
      exact pairwise_get h.apart hne hk hn (.inl hq) e1
    · have := (h.heap _ (List.mem_of_getElem? hk)).lt
      have e1 : e.1 = g := e1
      have this : e.1 < w.heap.size := this
      omega
end
section
variable {m : AM} {o z a n k v : Int} {s : ByteArray} {c : UInt8}
theorem cpyM_com (m : AM) (t f n : Int) : (cpyM m t f n).cap = m.cap ∧ (cpyM m t f n).com = m.com := by
  unfold cpyM; split
  · exact putM_com _ _ _
  · exact ⟨rfl, rfl⟩
theorem decM_cap (m : AM) (f n : Int) : (decM m f n).cap = m.cap := by unfold decM; split <;> rfl
theorem comM_cap (m : AM) (f n : Int) : (comM m f n).cap = m.cap := by
  unfold comM; split
  · rfl
  · split <;> rfl
end
theorem sameA_self (S : Nat → ByteArray) {n n2 : Nat} (h : n = n2) : sameA S S n n2 = true := by
  unfold sameA; exact decide_eq_true ⟨h, fun _ _ => rfl⟩
end Go.Proofs.YtdjhdcaanmkblaaDoor.K
