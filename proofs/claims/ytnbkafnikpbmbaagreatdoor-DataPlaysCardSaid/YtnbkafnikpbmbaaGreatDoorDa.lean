/-
  Keys and their numbers, as a list of items; what stands in memory of them.
-/
import Derived.Test.YtnbkafnikpbmbaaGreatDoorVx
import Derived.Test.YtnbkafnikpbmbaaGreatDoorQa
import Derived.Test.YtnbkafnikpbmbaaGreatDoorYa
namespace Go.Proofs.YtnbkafnikpbmbaaGreatDoor.K
set_option linter.unusedSimpArgs false
set_option linter.unusedVariables false

section
variable {m m' : AM} {o z a k : Int} {s : ByteArray}
theorem ft_form (h0 : 0 ≤ o) (hk : 0 ≤ k ∧ k ≤ 255) (ha : 0 ≤ a ∧ a + k + 1 ≤ z) (ht : thr m (o + a) (k + 1) = true) :
    ftV m o z a k = if k < (((m.mem (o + a).toNat).toNat : Nat) : Int) then ByteArray.empty else bs (fun j => m.mem ((o + a).toNat + 1 + j)) (m.mem (o + a).toNat).toNat := by
  have hv := (vby_yes (m := m) (o := o) (z := z) (a := a) (n := k + 1) (by omega) ht).1
  have h1 := (vld1_at (m := m) (o := o) (z := z) (i := a) (thr_sub ht (by omega) (by omega) (by omega)) ha.1 (by omega)).1
  by_cases h : k < (((m.mem (o + a).toNat).toNat : Nat) : Int)
  · rw [if_pos h]
    exact (ft_3 (by omega) hv (by rw [h1]; exact h)).1.symm
  · rw [if_neg h, ← (ft_4 (m := m) (o := o) (z := z) (a := a) (k := k) (by omega) hv (by rw [h1]; exact h)).1, h1]
    have := vby_yes (m := m) (o := o) (z := z) (a := a + 1) (n := (((m.mem (o + a).toNat).toNat : Nat) : Int)) (by omega) (thr_sub ht (by omega) (by omega) (by omega))
    rw [this.2, Int.toNat_natCast, show (o + (a + 1)).toNat = (o + a).toNat + 1 by omega]
theorem ft_cong (h0 : 0 ≤ o) (hk : 0 ≤ k ∧ k ≤ 255) (ha : 0 ≤ a ∧ a + k + 1 ≤ z) (ht : thr m (o + a) (k + 1) = true) (hc : m'.cap = m.cap) (hm : m'.com = m.com) (hy : ∀ y : Nat, o + a ≤ (y : Int) → (y : Int) < o + a + k + 1 → m'.mem y = m.mem y) : ftV m' o z a k = ftV m o z a k := by
  rw [ft_form h0 hk ha ht, ft_form (m := m') h0 hk ha (by rw [thr_same hc hm]; exact ht), hy (o + a).toNat (by omega) (by omega)]
  split
  · rfl
  · exact bs_congr fun j hj => hy _ (by omega) (by omega)
theorem vld_cong (h0 : 0 ≤ o) (ha : 0 ≤ a) (hc : m'.cap = m.cap) (hm : m'.com = m.com) (hy : ∀ y : Nat, o + a ≤ (y : Int) → (y : Int) < o + a + k → m'.mem y = m.mem y) : vldV m' o z a k = vldV m o z a k := by
  have e : ldV m' (o + a) k = ldV m (o + a) k := by
    unfold ldV
    rw [thr_same hc hm]
    by_cases hw : (wholeB k && thr m (o + a) k) = true
    · rw [if_pos hw, if_pos hw]
      have eb : bytS m' (o + a) k = bytS m (o + a) k := by
        unfold bytS
        rw [thr_same hc hm]
        split
        · exact bs_congr fun j hj => hy _ (by omega) (by omega)
        · rfl
      rw [eb]
    · rw [if_neg hw, if_neg hw]
  unfold vldV
  rw [e]
theorem fp_com : (fpM m o z a k s).cap = m.cap ∧ (fpM m o z a k s).com = m.com := by
  unfold fpM
  split
  · exact ⟨rfl, rfl⟩
  · unfold vptM
    split
    · exact putM_com _ _ _
    · exact ⟨rfl, rfl⟩
theorem put_far {b : Int} {t : ByteArray} {y : Nat} (hb : 0 ≤ b) (hy : (y : Int) < b ∨ b + (t.size : Int) ≤ (y : Int)) : (putM m b t).mem y = m.mem y := by
  unfold putM
  split
  · show laidF m.mem b.toNat t.size t y = m.mem y
    unfold laidF
    rw [if_neg (by omega)]
  · rfl
theorem fp_far {y : Nat} (h0 : 0 ≤ o + a) (hy : (y : Int) < o + a ∨ o + a + (s.size : Int) + 1 ≤ (y : Int)) : (fpM m o z a k s).mem y = m.mem y := by
  unfold fpM
  split
  · rfl
  · unfold vptM
    split
    · exact put_far h0 (by rw [txtS_size]; omega)
    · rfl
theorem vst_com {v : Int} : (vstM m o z a 8 v).cap = m.cap ∧ (vstM m o z a 8 v).com = m.com := by
  unfold vstM
  split
  · rename_i hwb
    split
    · unfold stM
      rw [if_pos hwb]
      exact putM_com _ _ _
    · exact ⟨rfl, rfl⟩
  · exact ⟨rfl, rfl⟩
theorem vst_far {v : Int} {y : Nat} (h0 : 0 ≤ o + a) (hy : (y : Int) < o + a ∨ o + a + 8 ≤ (y : Int)) : (vstM m o z a 8 v).mem y = m.mem y := by
  unfold vstM
  split
  · rename_i hwb
    split
    · unfold stM
      rw [if_pos hwb]
      exact put_far h0 (by rw [bs_size]; omega)
    · rfl
  · rfl
end

/-! ## Items -/
abbrev It := ByteArray × Int
def dKey (m : AM) (o z x : Int) : ByteArray := ftV m o z (x * 32) 16
def dNum (m : AM) (o z x : Int) : Int := vldV m o z ((x * 32) + 24) 8
def dIs (L : List It) (key : ByteArray) (i : Nat) : Bool := (gtD L i).1.toList == key.toList
def dOf (L : List It) (key : ByteArray) : Int := fIx (dIs L key) L.length
def dWith (s : Int) (L : List It) (x : It) : List It × Int :=
  if x.1.size = 0 then ([], 17) else if 16 < x.1.size then ([], 16) else if 0 ≤ dOf L x.1 then (L.set (dOf L x.1).toNat x, 0) else if s ≤ (L.length : Int) then ([], 10) else (L ++ [x], 0)
def dPutT (s : Int) (L items : List It) : List It × Int := items.foldl (fun p x => if p.2 = 0 then dWith s p.1 x else p) (L, 0)
def dLayN (m : AM) (o z : Int) (l : List It) : Nat → AM
  | 0 => vfiM m o z 0 ((z / 32) * 32) (u8 0)
  | k + 1 => vstM (fpM (dLayN m o z l k) o z ((k : Int) * 32) 16 (gtD l k).1) o z (((k : Int) * 32) + 24) 8 (gtD l k).2
def dLayM (m : AM) (o z : Int) (l : List It) : AM := dLayN m o z l l.length
def dPutM (m : AM) (o z : Int) (L items : List It) : AM := if (dPutT (z / 32) L items).2 = 0 then dLayM m o z (dPutT (z / 32) L items).1 else m
def dDroE (L : List It) (key : ByteArray) : Int := if dOf L key < 0 then 8 else 0
def dDroL (L : List It) (key : ByteArray) : List It := if dOf L key < 0 then L else L.eraseIdx (dOf L key).toNat
def dDroM (m : AM) (o z : Int) (L : List It) (key : ByteArray) : AM := if dOf L key < 0 then m else dLayM m o z (L.eraseIdx (dOf L key).toNat)
def dGetV (L : List It) (key : ByteArray) : Int := if dOf L key < 0 then 0 else (gtD L (dOf L key).toNat).2
def dGetB (L : List It) (key : ByteArray) : Bool := decide (0 ≤ dOf L key)
/-- Items that may stand there. -/
structure OkD (s : Int) (L : List It) : Prop where
  len : (L.length : Int) ≤ s
  ok : ∀ i, i < L.length → 0 < (gtD L i).1.size ∧ (gtD L i).1.size ≤ 16 ∧ 0 ≤ (gtD L i).2 ∧ (gtD L i).2 ≤ 18446744073709551615
  one : ∀ i j, i < L.length → j < L.length → (gtD L i).1 = (gtD L j).1 → i = j
structure DtR (m : AM) (o z : Int) (L : List It) : Prop where
  o0 : 0 ≤ o
  z0 : 0 ≤ z
  there : thr m o z = true
  okd : OkD (z / 32) L
  at_ : ∀ i : Nat, i < L.length → dKey m o z (i : Int) = (gtD L i).1 ∧ dNum m o z (i : Int) = (gtD L i).2
  end_ : (L.length : Int) < z / 32 → dKey m o z (L.length : Int) = ByteArray.empty
structure LayR (m0 : AM) (o z : Int) (l : List It) (k : Nat) (m : AM) : Prop where
  cap : m.cap = m0.cap
  com : m.com = m0.com
  row : ∀ i : Nat, i < k → dKey m o z (i : Int) = (gtD l i).1 ∧ dNum m o z (i : Int) = (gtD l i).2
  nul : ∀ i : Nat, k ≤ i → (i : Int) < z / 32 → dKey m o z (i : Int) = ByteArray.empty

section
variable {m : AM} {o z : Int} {L l items : List It}
theorem slot_thr (ht : thr m o z = true) {x : Int} (h0 : 0 ≤ x) (h1 : x < z / 32) : thr m (o + x * 32) (16 + 1) = true ∧ thr m (o + ((x * 32) + 24)) 8 = true :=
  ⟨thr_sub ht (by omega) (by omega) (by omega), thr_sub ht (by omega) (by omega) (by omega)⟩
theorem dKey_zero (h0 : 0 ≤ o) (ht : thr m o z = true) {x : Int} (hx0 : 0 ≤ x) (hx1 : x < z / 32) (hm : m.mem (o + x * 32).toNat = 0) : dKey m o z x = ByteArray.empty := by
  unfold dKey
  rw [ft_form h0 (by decide) (by omega) (slot_thr ht hx0 hx1).1, hm]
  rfl
theorem dKey_cong {m' : AM} (h0 : 0 ≤ o) (ht : thr m o z = true) {x : Int} (hx0 : 0 ≤ x) (hx1 : x < z / 32) (hc : m'.cap = m.cap) (hm : m'.com = m.com) (hy : ∀ y : Nat, o + x * 32 ≤ (y : Int) → (y : Int) < o + x * 32 + 17 → m'.mem y = m.mem y) : dKey m' o z x = dKey m o z x :=
  ft_cong h0 (by decide) (by omega) (slot_thr ht hx0 hx1).1 hc hm (fun y h1 h2 => hy y h1 (by omega))
theorem dNum_cong {m' : AM} (h0 : 0 ≤ o) {x : Int} (hx0 : 0 ≤ x) (hc : m'.cap = m.cap) (hm : m'.com = m.com) (hy : ∀ y : Nat, o + x * 32 + 24 ≤ (y : Int) → (y : Int) < o + x * 32 + 32 → m'.mem y = m.mem y) : dNum m' o z x = dNum m o z x :=
  vld_cong h0 (by omega) hc hm (fun y h1 h2 => hy y (by omega) (by omega))
theorem LayR.zero (h0 : 0 ≤ o) (z0 : 0 ≤ z) (ht : thr m o z = true) : LayR m o z l 0 (dLayN m o z l 0) := by
  have hc : vchE z 0 ((z / 32) * 32) = 0 := (vch_yes (by omega)).symm
  have ht2 : thr m (o + 0) ((z / 32) * 32) = true := thr_sub ht (by omega) (by omega) (by omega)
  have e : dLayN m o z l 0 = filA m (o + 0).toNat ((z / 32) * 32).toNat (u8 0) := by
    show vfiM m o z 0 ((z / 32) * 32) (u8 0) = _
    unfold vfiM filM
    rw [if_pos hc, if_pos ht2]
  rw [e]
  refine ⟨rfl, rfl, fun i hi => absurd hi (by omega), fun i _ hi => ?_⟩
  refine dKey_zero h0 ?_ (by omega) hi ?_
  · exact (thr_same (m' := filA m (o + 0).toNat ((z / 32) * 32).toNat (u8 0)) (m := m) rfl rfl o z).trans ht
  · show filF m.mem (o + 0).toNat ((z / 32) * 32).toNat (u8 0) (o + (i : Int) * 32).toNat = 0
    unfold filF
    rw [if_pos (by omega)]; rfl
theorem LayR.step {m1 : AM} {k : Nat} (h : LayR m o z l k m1) (h0 : 0 ≤ o) (ht : thr m o z = true) (hk : (k : Int) < z / 32) (hs : (gtD l k).1.size ≤ 16) (hv : 0 ≤ (gtD l k).2 ∧ (gtD l k).2 ≤ 18446744073709551615) :
    LayR m o z l (k + 1) (vstM (fpM m1 o z ((k : Int) * 32) 16 (gtD l k).1) o z (((k : Int) * 32) + 24) 8 (gtD l k).2) := by
  have ht1 : thr m1 o z = true := (thr_same h.cap h.com o z).trans ht
  obtain ⟨m2, e2⟩ : ∃ m2, fpM m1 o z ((k : Int) * 32) 16 (gtD l k).1 = m2 := ⟨_, rfl⟩
  have c2 := fp_com (m := m1) (o := o) (z := z) (a := (k : Int) * 32) (k := 16) (s := (gtD l k).1)
  have f2 : ∀ y : Nat, ((y : Int) < o + (k : Int) * 32 ∨ o + (k : Int) * 32 + 17 ≤ (y : Int)) → m2.mem y = m1.mem y := fun y hy => by
    rw [← e2]; exact fp_far (by omega) (by omega)
  have hE : fpE m1 o z ((k : Int) * 32) 16 (gtD l k).1 = 0 := by
    have hv := (vby_yes (m := m1) (o := o) (z := z) (a := (k : Int) * 32) (n := 16 + 1) (by omega) (slot_thr ht1 (by omega) hk).1).1
    have hc : vchE z ((k : Int) * 32) (((txtS (gtD l k).1).size : Nat) : Int) = 0 := by rw [txtS_size]; exact (vch_yes (by omega)).symm
    rw [← (fp_4 (m := m1) (o := o) (z := z) (a := (k : Int) * 32) (k := 16) (s := (gtD l k).1) (by omega) (by omega) hv).2, ← (vpt_2 (m := m1) (o := o) hc).1]
    exact chk_thr (thr_sub ht1 (by omega) (by rw [txtS_size]; omega) (by omega))
  have hb := (txt_back hE h0).1
  rw [e2] at hb c2 ⊢
  have ht2 : thr m2 o z = true := (thr_same c2.1 c2.2 o z).trans ht1
  have c3 := vst_com (m := m2) (o := o) (z := z) (a := ((k : Int) * 32) + 24) (v := (gtD l k).2)
  have f3 : ∀ y : Nat, ((y : Int) < o + (k : Int) * 32 + 24 ∨ o + (k : Int) * 32 + 32 ≤ (y : Int)) → (vstM m2 o z (((k : Int) * 32) + 24) 8 (gtD l k).2).mem y = m2.mem y := fun y hy => vst_far (by omega) (by omega)
  generalize hm3 : vstM m2 o z (((k : Int) * 32) + 24) 8 (gtD l k).2 = m3 at c3 f3
  have far : ∀ i : Nat, i ≠ k → (i : Int) < z / 32 → dKey m3 o z (i : Int) = dKey m1 o z (i : Int) ∧ dNum m3 o z (i : Int) = dNum m1 o z (i : Int) := fun i hi hil => by
    have hy : ∀ y : Nat, o + (i : Int) * 32 ≤ (y : Int) → (y : Int) < o + (i : Int) * 32 + 32 → m3.mem y = m1.mem y := fun y h1 h2 => by
      rw [f3 y (by omega), f2 y (by omega)]
    exact ⟨dKey_cong h0 ht1 (by omega) hil (c3.1.trans c2.1) (c3.2.trans c2.2) (fun y h1 h2 => hy y h1 (by omega)), dNum_cong h0 (by omega) (c3.1.trans c2.1) (c3.2.trans c2.2) (fun y h1 h2 => hy y (by omega) h2)⟩
  refine ⟨(c3.1.trans c2.1).trans h.cap, (c3.2.trans c2.2).trans h.com, fun i hi => ?_, fun i hi hil => ?_⟩
  · by_cases e : i = k
    · subst e
      constructor
      · rw [dKey_cong h0 ht2 (by omega) hk c3.1 c3.2 (fun y h1 h2 => f3 y (by omega))]
        exact hb.symm
      · unfold dNum
        rw [← hm3, vld_vst (slot_thr ht2 (by omega) hk).2 (by omega) (by omega) hv (by omega) (by omega) (.inl rfl), if_pos rfl]
    · rw [(far i e (by omega)).1, (far i e (by omega)).2]; exact h.row i (by omega)
  · rw [(far i (by omega) hil).1]; exact h.nul i (by omega) hil
theorem LayR.all (h0 : 0 ≤ o) (z0 : 0 ≤ z) (ht : thr m o z = true) (hl : OkD (z / 32) l) : ∀ k, k ≤ l.length → LayR m o z l k (dLayN m o z l k)
  | 0, _ => LayR.zero h0 z0 ht
  | k + 1, hk => by
    have hok := hl.ok k (by omega)
    have := hl.len
    exact (LayR.all h0 z0 ht hl k (by omega)).step h0 ht (by omega) hok.2.1 hok.2.2
theorem DtR.lay (h : DtR m o z L) (hl : OkD (z / 32) l) : DtR (dLayM m o z l) o z l := by
  have hA := LayR.all h.o0 h.z0 h.there hl l.length (Nat.le_refl _)
  exact ⟨h.o0, h.z0, (thr_same hA.cap hA.com o z).trans h.there, hl, hA.row, fun q => hA.nul _ (Nat.le_refl _) q⟩
theorem DtR.zero (h0 : 0 ≤ o) (z0 : 0 ≤ z) (ht : thr m o z = true) (hm : ∀ y, m.mem y = 0) : DtR m o z [] :=
  ⟨h0, z0, ht, ⟨by show ((0 : Nat) : Int) ≤ _; omega, fun i hi => absurd hi (by simp), fun i j hi => absurd hi (by simp)⟩, fun i hi => absurd hi (by simp), fun q => dKey_zero h0 ht (Int.le_refl 0) q (hm _)⟩

/-! ## What is told -/
theorem dOf_rng (L : List It) (key : ByteArray) : -1 ≤ dOf L key ∧ dOf L key < (L.length : Int) := fIx_rng _ _
end
end Go.Proofs.YtnbkafnikpbmbaaGreatDoor.K
