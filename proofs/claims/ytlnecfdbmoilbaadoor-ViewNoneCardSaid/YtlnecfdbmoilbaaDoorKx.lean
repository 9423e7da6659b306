/-
  A walk by computing: calls under a guard within regions that draw their order; views.
-/
import Derived.Test.YtlnecfdbmoilbaaDoorKz
namespace Go.Proofs.YtlnecfdbmoilbaaDoor.K
set_option linter.unusedSimpArgs false
set_option linter.unusedVariables false
section
variable {P : Program} {c : Cx} {n : Nat} {E : Env} {H Hf : Heap} {A : List Res} {a : Act} {w : World} {ops : Array Oper} {R : Act → World → Prop}

theorem St.ordCG (i : Nat) (x : Bool) {o : Oper} {rest : List (Nat × Nat)} (hS : St c n E H A a w) (f : FuncId) (args : Array Value) {R' : Ending → World → Prop} (hC : Calls P f args w R') (hk : ∀ e w', R' e w' → ∃ v, e = .returned v ∧ Stay Hf w' ∧ wpOrd P ops (Stay Hf) R rest (a.put o.dst v) w')
    (hi : ops[i]? = some o := by rfl) (he : evCall P ops 1 0 E H o = some (f, args, [Ob.sem (.t x)]) := by as_aux_lemma => kernel_rfl) (hg : guardsOk n ops [o] = true := by as_aux_lemma => kernel_rfl) : wpOrd P ops (Stay Hf) R ((i, 0) :: rest) a w := by
  have hb : ∀ d want, guardSlot ops o = some (d, want) → d < a.tmps.size := by
    intro d want hd
    simp only [guardsOk, hd, Bool.and_true] at hg
    have : d < n := by simpa using hg
    exact Nat.lt_of_lt_of_le this hS.size
  obtain ⟨hw, hr⟩ := evCall_run (c := c) (A := A) he ⟨rfl, trivial⟩ hS.env hb
  refine nAt_of_wpList1 hi (.inl ⟨hw, ?_⟩)
  unfold nOp
  rw [hr w hS.mem]
  exact hC.mono fun e w' hR => by
    obtain ⟨v, h1, h2, h3⟩ := hk e w' hR
    exact ⟨v, h1, h2, h3⟩
end

/-- What a view's check answers. -/
def vchE (z a n : Int) : Int := if a < 0 ∨ n < 0 ∨ z < n ∨ z - n < a then 3 else 0
def vldE (m : AM) (o z a k : Int) : Int := if wholeB k then (if vchE z a k = 0 then ldE m (o + a) k else 3) else 2
def vldV (m : AM) (o z a k : Int) : Int := if wholeB k then (if vchE z a k = 0 then ldV m (o + a) k else 0) else 0
def vstE (m : AM) (o z a k : Int) : Int := if wholeB k then (if vchE z a k = 0 then stE m (o + a) k else 3) else 2
def vstM (m : AM) (o z a k v : Int) : AM := if wholeB k then (if vchE z a k = 0 then stM m (o + a) k v else m) else m
theorem vch_no {z a n : Int} (h : a < 0 ∨ n < 0 ∨ z < n ∨ z - n < a) : (3 : Int) = vchE z a n := by unfold vchE; rw [if_pos h]
theorem vch_yes {z a n : Int} (h : ¬ (a < 0 ∨ n < 0 ∨ z < n ∨ z - n < a)) : (0 : Int) = vchE z a n := by unfold vchE; rw [if_neg h]
theorem vch_3 {z a n : Int} (h : vchE z a n ≠ 0) : vchE z a n = 3 := by unfold vchE at *; split at h <;> simp_all
theorem vch_in {z a n : Int} (h : vchE z a n = 0) : 0 ≤ a ∧ 0 ≤ n ∧ n ≤ z ∧ a ≤ z - n := by
  unfold vchE at h
  split at h <;> omega
def vwhE (k : Int) : Int := if wholeB k then 0 else 2
theorem vwh_1 {k : Int} (h : vwhE k ≠ 0) : wholeB k = false := by unfold vwhE at h; cases hw : wholeB k <;> simp_all
theorem vwh_0 {k : Int} (h : vwhE k = 0) : wholeB k = true := by unfold vwhE at h; cases hw : wholeB k <;> simp_all
theorem vwh_2 {k : Int} (h : wholeB k = false) : vwhE k = 2 := by unfold vwhE; rw [h]; rfl
theorem vst_a {m : AM} {o z a k : Int} (h : vwhE k ≠ 0) : vwhE k = vstE m o z a k := by unfold vstE; rw [vwh_1 h, vwh_2 (vwh_1 h)]; rfl
theorem vst_b {m : AM} {o z a k : Int} (h : vwhE k = 0) (h2 : vchE z a k ≠ 0) : vchE z a k = vstE m o z a k := by unfold vstE; rw [vwh_0 h, if_pos rfl, if_neg h2]; exact vch_3 h2
theorem vst_c {m : AM} {o z a k : Int} (h : vwhE k = 0) (h2 : vchE z a k = 0) : stE m (o + a) k = vstE m o z a k := by unfold vstE; rw [vwh_0 h, if_pos rfl, if_pos h2]
theorem vst_d {m : AM} {o z a k v : Int} (h : vwhE k ≠ 0) : m = vstM m o z a k v := by unfold vstM; rw [vwh_1 h]; rfl
theorem vst_e {m : AM} {o z a k v : Int} (h2 : vchE z a k ≠ 0) : m = vstM m o z a k v := by unfold vstM; rw [if_neg h2]; split <;> rfl
theorem vst_f {m : AM} {o z a k v : Int} (h : vwhE k = 0) (h2 : vchE z a k = 0) : stM m (o + a) k v = vstM m o z a k v := by unfold vstM; rw [vwh_0 h, if_pos rfl, if_pos h2]
theorem vld_a {m : AM} {o z a k : Int} (h : vwhE k ≠ 0) : vwhE k = vldE m o z a k := by unfold vldE; rw [vwh_1 h, vwh_2 (vwh_1 h)]; rfl
theorem vld_b {m : AM} {o z a k : Int} (h : vwhE k = 0) (h2 : vchE z a k ≠ 0) : vchE z a k = vldE m o z a k := by unfold vldE; rw [vwh_0 h, if_pos rfl, if_neg h2]; exact vch_3 h2
theorem vld_c {m : AM} {o z a k : Int} (h : vwhE k = 0) (h2 : vchE z a k = 0) : ldE m (o + a) k = vldE m o z a k := by unfold vldE; rw [vwh_0 h, if_pos rfl, if_pos h2]
theorem vld_d {m : AM} {o z a k : Int} (h : vwhE k ≠ 0) : 0 = vldV m o z a k := by unfold vldV; rw [vwh_1 h]; rfl
theorem vld_e {m : AM} {o z a k : Int} (h2 : vchE z a k ≠ 0) : 0 = vldV m o z a k := by unfold vldV; rw [if_neg h2]; split <;> rfl
theorem vld_f {m : AM} {o z a k : Int} (h : vwhE k = 0) (h2 : vchE z a k = 0) : ldV m (o + a) k = vldV m o z a k := by unfold vldV; rw [vwh_0 h, if_pos rfl, if_pos h2]

end Go.Proofs.YtlnecfdbmoilbaaDoor.K
