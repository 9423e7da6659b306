import Derived.Test.YtojjkjedcafpeaaGreatDoorZd
namespace Go.Proofs.YtojjkjedcafpeaaGreatDoor.K
set_option linter.unusedSimpArgs false
set_option linter.unusedVariables false
section
variable {m mo : AM} {N g y : Nat} {r : Int} {q q0 q2 : List Tg} {Q : Nat → List Int} {x : Int}
theorem spanV_in {o : Int} (h0 : 0 ≤ o) (h1 : o ≤ 10) : spanV o = 4096 * 2 ^ o.toNat := by
  unfold spanV z_spanOk
  rw [if_pos (by simp; omega)]
theorem rn_bd (h : Bdy m N g r q Q) {i : Nat} (hi : i < (rnTo q g).length) : 4096 ≤ (gtD (rnTo q g) i).1 ∧ (gtD (rnTo q g) i).1 ≤ 1000000 ∧ 0 ≤ (gtD (rnTo q g) i).2.1 ∧ (gtD (rnTo q g) i).2.1 ≤ 10 ∧ spanV (gtD (rnTo q g) i).2.1 = 4096 * 2 ^ (gtD (rnTo q g) i).2.1.toNat ∧ 4096 ≤ spanV (gtD (rnTo q g) i).2.1 ∧ spanV (gtD (rnTo q g) i).2.1 ≤ 4194304 := by
  obtain ⟨p, p1, p2, p3⟩ := rn_at i hi;rw [p3];obtain ⟨a1, a2, a3, a4, a5⟩ := h.tl.st p p2;have hn := h.bm.nb;have hc := h.bm.cn;have hs := spanV_in a1 a2;have hb := spanV_bd (gtD q p).2
  have hw : (1 : Int) ≤ 2 ^ (gtD q p).2.toNat := by
    have : (0 : Int) < 2 ^ (gtD q p).2.toNat := Int.pow_pos (by decide);omega
  refine ⟨by show 4096 ≤ bpA p; unfold bpA; omega, by show bpA p ≤ 1000000; unfold bpA; omega, a1, a2, hs, ?_, hb.2⟩
  show 4096 ≤ spanV (gtD q p).2
  rw [hs]; omega
theorem rn_nx (e : gtD (rnTo q g) x.toNat = rnE q y) {nx : Int} (hk : nx = (1 + (y : Int)) * 4096) : ((gtD (rnTo q g) x.toNat).1 != nx) = false := by
  rw [e, hk]
  show (bpA y != _) = false
  have : bpA y = (1 + (y : Int)) * 4096 := by unfold bpA; omega
  rw [this]; exact bne_self_eq_false _
theorem wd_int (h : Bdy m N g r q Q) (hy : 2 ≤ (gtD q y).1) : spanV (gtD q y).2 = 4096 * ((wdQ q y : Nat) : Int) := by
  obtain ⟨a1, a2, a3, a4, a5⟩ := h.tl.st y hy;rw [spanV_in a1 a2]; unfold wdQ; rw [Int.natCast_pow]; rfl
theorem rn_al (h : Bdy m N g r q Q) (e : gtD (rnTo q g) x.toNat = rnE q y) (hy : 2 ≤ (gtD q y).1) (ha : y % wdQ q y = 0) : ((gtD (rnTo q g) x.toNat).1 - 4096) % spanV (gtD (rnTo q g) x.toNat).2.1 = 0 := by
  rw [e]
  show (bpA y - 4096) % spanV (gtD q y).2 = 0
  rw [wd_int h hy];have : bpA y - 4096 = 4096 * ((y : Nat) : Int) := by unfold bpA; omega
  rw [this, Int.mul_emod_mul_of_pos _ _ (by decide), ← Int.natCast_emod, ha]; rfl
theorem rn_k2 (h : Bdy m N g r q Q) (e : gtD (rnTo q g) x.toNat = rnE q y) (hy : 2 ≤ (gtD q y).1) {nx : Int} (hk : nx = (1 + (y : Int)) * 4096) : nx + spanV (gtD (rnTo q g) x.toNat).2.1 = (1 + ((y + wdQ q y : Nat) : Int)) * 4096 := by
  rw [e]
  show nx + spanV (gtD q y).2 = _
  rw [wd_int h hy, hk]; omega
theorem rn_ge (h : Bdy m N g r q Q) (hi : RnI q g x y) (h0 : 0 < x) (e : gtD (rnTo q g) x.toNat = rnE q y) (hy : 2 ≤ (gtD q y).1) (ho : (gtD (rnTo q g) (x - 1).toNat).2.1 = (gtD (rnTo q g) x.toNat).2.1) : 4096 ≤ (gtD (rnTo q g) x.toNat).1 - spanV (gtD (rnTo q g) x.toNat).2.1 := by
  obtain ⟨s, s1, s2, s3⟩ := hi.bk h0;rw [s3, e] at ho;have ho : (gtD q s).2 = (gtD q y).2 := ho;have hw : wdQ q s = wdQ q y := by unfold wdQ; rw [ho]
  rw [e]
  show 4096 ≤ bpA y - spanV (gtD q y).2
  rw [wd_int h hy]; unfold bpA; omega
theorem rn_ld (h : Bdy m N g r q Q) (hs : TkS m q) (e : gtD (rnTo q g) x.toNat = rnE q y) (hy : 2 ≤ (gtD q y).1) : ldE m (gtD (rnTo q g) x.toNat).1 8 = 0 ∧ ((gtD (rnTo q g) x.toNat).2.2 = true → ldV m (gtD (rnTo q g) x.toNat).1 8 = (gtD (rnTo q g) x.toNat).1) := by
  have hyg : y < g := by
    have := (h.tl.st y hy).2.2.2.1;have hw : 0 < wdQ q y := Nat.pow_pos (by decide);omega
  rw [e];refine ⟨?_, fun ht => ?_⟩
  · show ldE m (bpA y) 8 = 0
    unfold ldE chkE
    rw [if_pos (by decide), if_pos (h.thrT hyg)]
  · exact hs y (gtD q y).2 (Prod.ext (eq_of_beq ht) rfl)
theorem rn_ldB (h : ldE m (gtD (rnTo q g) x.toNat).1 8 = 0 ∧ ((gtD (rnTo q g) x.toNat).2.2 = true → ldV m (gtD (rnTo q g) x.toNat).1 8 = (gtD (rnTo q g) x.toNat).1)) : ((gtD (rnTo q g) x.toNat).2.2 && ((ldE m (gtD (rnTo q g) x.toNat).1 8 != 0) || (ldV m (gtD (rnTo q g) x.toNat).1 8 != (gtD (rnTo q g) x.toNat).1))) = false := by
  cases hb : (gtD (rnTo q g) x.toNat).2.2 with
  | false => rfl
  | true => rw [h.1, h.2 hb]; simp
end
theorem c8_all (x : Int) (b1 b2 : Bool) (k1 k2 : Int) : ¬ 0 < x ∨ (0 < x ∧ (b1 = true ∨ (b1 = false ∧ (b2 = true ∨ (b2 = false ∧ (¬ k1 = k2 ∨ (k1 = k2 ∧ (¬ k2 < 10 ∨ k2 < 10)))))))) := by
  cases b1 <;> cases b2 <;> simp <;> omega
end Go.Proofs.YtojjkjedcafpeaaGreatDoor.K
