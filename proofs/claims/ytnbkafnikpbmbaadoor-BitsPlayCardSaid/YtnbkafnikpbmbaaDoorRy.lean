/-
  Rows of bits told: numbers that are put behind a list two by two, and the last of them that grows; sets of bools.
-/
import Derived.Test.YtnbkafnikpbmbaaDoorRz
import Derived.Test.YtnbkafnikpbmbaaDoorGf
import Derived.Test.YtnbkafnikpbmbaaDoorM2
namespace Go.Proofs.YtnbkafnikpbmbaaDoor.K
set_option linter.unusedSimpArgs false
set_option linter.unusedVariables false

section
variable {P : Program} {c : Cx} {n : Nat} {E : Env} {H : Heap} {A : List Res} {a : Act} {w : World} {o : Oper}
theorem WS.grBack1 {e m tot g : Nat} {f : Nat → Value} (h : WS c H [] w) (j : Nat) (l : List Nat) {H' : Heap} (hm : 0 < m) (hmc : m ≤ tot) (hj : H[j]? = some (g, .row e m tot f) := by as_aux_lemma => kernel_rfl)
    (hp : pickH H l = some H' := by as_aux_lemma => kernel_rfl) (hd : distinct l = true := by decide) (hnl : l.all (fun k => !Nat.beq k j) = true := by decide) : WS c H' [grR e 1 (sc g 0 m tot) (one g) (m, f)] w :=
  WS.grBack (e := e) (sz := 1) (m := m) (tot := tot) (cap := tot) (g := g) (f := f) h j l (by rw [Nat.mul_one]) hm hmc (by rw [Nat.mul_one]; exact hj) hp hd hnl
/-- append of some elements that lie in cells of their own. -/
theorem St.appVK {K : Act → World → Prop} {v : Value} {Fv : Nat → Prop} {m sz : Nat} {f : Nat → Value} {e : TypeId} (j : Nat) (hS : St c n E H A a w) (x y : Operand) (t : TypeId) (ho : o.op = .call { callee := .builtin .append, args := #[x, y], argTypes := #[t, t] }) {d : Nat} (hd : o.dst = some d) (hdn : d < n) {z : Value} {i : TypeInfo} (ht : P.underlying t = some (.slice e)) (hi : P.info? e = some i) (hz : i.zero = some z) (h1 : i.size = sz) (hby : i.bytes ≤ 64) (hzc : z.cells.size = sz) (hsz : 0 < sz)
    {bx cx k : Nat} {news : List Value} {Tx : TypeId} (ix : Nat) (hone : news.all (fun u => u.oneCell') = true) (hl : news.length = k * sz) (hn : m + k ≤ 2 ^ 32)
    (h : ∀ a' w' v' F', GrV e sz w' v' F' (m + k) (appF f (m * sz) news) → St c n (putE E d [] v') H (A.set j (grR e sz v' F' (m + k, appF f (m * sz) news))) a' w' → K a' w')
    (hj : A[j]? = some (grR e sz v Fv (m, f)) := by rfl) (hbx : H[ix]? = some (bx, .cells news Tx) := by as_aux_lemma => kernel_rfl)
    (hok : okO E [] x = true := by as_aux_lemma => kernel_rfl) (hok2 : okO E [] y = true := by as_aux_lemma => kernel_rfl) (hx : rho E x = v := by as_aux_lemma => kernel_rfl) (hy : rho E y = sc bx 0 k cx := by as_aux_lemma => kernel_rfl) : Runs1 P o a w K := by
  have hxh : HE.holds w bx (.cells news Tx) := hS.mem.heap _ (List.mem_of_getElem? hbx)
  have hC : CellsV w bx 0 (k * sz) (fun j => news.getD (0 + j) undef) := CellsV.cells hxh (by omega)
  refine St.appL (m := m) (f := f) j hS x y t ho hd hdn ht hi hz h1 hby hzc hsz (.inr rfl) hC (fun q hq => ?_) hn (fun a' w' v' F' hV hS2 => ?_) hj hok hok2 hx hy
  · rw [Nat.zero_add, List.getD_eq_getElem?_getD, List.getElem?_eq_getElem (by omega)]
    exact List.all_eq_true.1 hone _ (List.getElem_mem _)
  · have e9 : catF f (m * sz) (fun j => news.getD (0 + j) undef) = appF f (m * sz) news := by
      funext x; unfold catF appF; simp only [Nat.zero_add]
    rw [e9] at hV hS2
    exact h _ _ _ _ hV hS2
end

theorem ints_app2 (L : List Int) (a b : Int) : ∀ x, x < (L.length + 2) * 1 → appF (ints L 0) (L.length * 1) [vi a, vi b] x = ints (L ++ [a, b]) 0 x := by
  intro x hx
  unfold appF ints
  simp only [Nat.mul_one, Nat.sub_zero]
  by_cases h : x < L.length
  · rw [if_pos h, List.getD_eq_getElem?_getD, List.getD_eq_getElem?_getD, List.getElem?_append_left h]
  · rw [if_neg h]
    rw [List.getD_eq_getElem?_getD, List.getD_eq_getElem?_getD, List.getElem?_append_right (by omega)]
    rcases (by omega : x - L.length = 0 ∨ x - L.length = 1) with q | q <;> rw [q] <;> rfl

section
variable {p : Nat → Bool} {x : Int}
theorem up_skip (h0 : 0 ≤ x) (hp : p x.toNat = false) : rowsUp p (x + 1).toNat = rowsUp p x.toNat := by
  rw [rowsUp_step h0, hp]; rfl
theorem up_new (h0 : 0 ≤ x) (hp : p x.toNat = true) (hs : x = 0 ∨ p (x - 1).toNat = false) : rowsUp p (x + 1).toNat = incLast (rowsUp p x.toNat ++ [x, 0]) := by
  rw [rowsUp_step h0, if_pos hp, if_pos]
  rcases hs with hs | hs
  · left; omega
  · right; rw [← hs]; congr 1; omega
theorem up_more (h0 : 0 ≤ x) (hp : p x.toNat = true) (hx : ¬ x = 0) (hq : p (x - 1).toNat = true) : rowsUp p (x + 1).toNat = incLast (rowsUp p x.toNat) := by
  rw [rowsUp_step h0, if_pos hp, if_neg]
  rintro (h | h)
  · omega
  · rw [show x.toNat - 1 = (x - 1).toNat by omega, hq] at h; cases h
theorem up_pos (h0 : 0 ≤ x) (hx : ¬ x = 0) (hq : p (x - 1).toNat = true) : 0 < (rowsUp p x.toNat).length := by
  rcases Nat.eq_zero_or_pos (rowsUp p x.toNat).length with h | h
  · have := nil_prev h0 hx (List.eq_nil_of_length_eq_zero h)
    rw [hq] at this; cases this
  · exact h
theorem up_bd (h0 : 0 ≤ x) (hx : x ≤ 1048576) (i : Nat) : 0 ≤ List.getD (rowsUp p x.toNat) i 0 ∧ List.getD (rowsUp p x.toNat) i 0 ≤ 1048576 := by
  rcases Nat.lt_or_ge i (rowsUp p x.toNat).length with h | h
  · have := rowsUp_bd p x.toNat _ (List.getElem_mem h)
    rw [List.getD_eq_getElem?_getD, List.getElem?_eq_getElem h]
    simp only [Option.getD_some]
    omega
  · rw [List.getD_eq_getElem?_getD, List.getElem?_eq_none h]
    simp
theorem up_bd2 (h0 : 0 ≤ x) (hx : x ≤ 1048576) (i : Nat) : 0 ≤ List.getD (rowsUp p x.toNat ++ [x, 0]) i 0 ∧ List.getD (rowsUp p x.toNat ++ [x, 0]) i 0 ≤ 1048576 := by
  rcases Nat.lt_or_ge i (rowsUp p x.toNat).length with h | h
  · have := up_bd (p := p) h0 hx i
    rw [List.getD_eq_getElem?_getD] at this ⊢
    rw [List.getElem?_append_left h]
    exact this
  · rw [List.getD_eq_getElem?_getD, List.getElem?_append_right h]
    rcases (by omega : i - (rowsUp p x.toNat).length = 0 ∨ i - (rowsUp p x.toNat).length = 1 ∨ 2 ≤ i - (rowsUp p x.toNat).length) with q | q | q
    · rw [q]; simp; omega
    · rw [q]; simp
    · rw [List.getElem?_eq_none (by simpa using q)]; simp
theorem up_len (h0 : 0 ≤ x) (hx : x ≤ 1048576) : (rowsUp p x.toNat).length ≤ 2097152 := by
  have := rowsUp_length p x.toNat; omega
end
theorem ints_setv (L : List Int) (i : Nat) (v : Int) (hi : i < L.length) (o : Nat) (ho : o < L.length) : ints (L.set i v) 0 o = if o = i then Value.int .i64 v else ints L 0 o := ints_set L i v hi o ho
theorem rows_same (p : Nat → Bool) (n : Nat) : (flat (runs p n) == rowsUp p n) = true := by rw [rowsUp_runs]; simp
theorem rows_ne {p : Nat → Bool} {n : Nat} (h : runs p n ≠ []) : rowsUp p n ≠ [] := by
  rw [rowsUp_runs]; exact fun q => h ((flat_nil _).1 q)
theorem rows_no {p : Nat → Bool} {n : Nat} (h : runs p n = []) : rowsUp p n = [] := by
  rw [rowsUp_runs, h]; rfl
theorem flat_runs_le (p : Nat → Bool) (n : Nat) (hn : n ≤ 1048576) : (flat (runs p n)).length ≤ 2097152 := by
  rw [← rowsUp_runs]; have := rowsUp_length p n; omega
/-- Sets of words are the same where their bits are. -/
theorem eqW_eqB {w1 w2 : Nat → Nat} {nw n : Nat} {p q : Nat → Bool} (h1 : Words w1 nw n p) (h2 : Words w2 nw n q) : eqW nw nw w1 w2 = eqB n n p q := by
  cases hb : eqB n n p q with
  | true =>
    unfold eqB at hb
    rw [Bool.and_eq_true] at hb
    exact h1.same h2 fun x hx => by
      have := List.all_eq_true.1 hb.2 x (List.mem_range.2 hx)
      simpa using this
  | false =>
    rw [Bool.eq_false_iff]
    intro he
    unfold eqW at he
    rw [Bool.and_eq_true] at he
    have hall : ∀ j, j < nw → w1 j = w2 j := fun j hj => by
      have := List.all_eq_true.1 he.2 j (List.mem_range.2 hj)
      simpa using this
    have ht : eqB n n p q = true := by
      refine (eqB_all rfl fun x hx => ?_).symm
      have hj : x / 64 < nw := by rw [h1.many]; omega
      have a := h1.bit _ hj (x % 64) (by omega)
      have b := h2.bit _ hj (x % 64) (by omega)
      rw [hall _ hj, b] at a
      rw [show 64 * (x / 64) + x % 64 = x by omega] at a
      simpa [hx] using a.symm
    rw [hb] at ht
    cases ht
/-- Acts that come in: the set and the bools behind one act. -/
theorem has_told (p : Nat → Bool) (n : Nat) (x : Int) : (hasV p n x != (decide (0 ≤ x) && decide (x < (n : Int)) && p x.toNat)) = false := by
  unfold hasV; simp
end Go.Proofs.YtnbkafnikpbmbaaDoor.K
