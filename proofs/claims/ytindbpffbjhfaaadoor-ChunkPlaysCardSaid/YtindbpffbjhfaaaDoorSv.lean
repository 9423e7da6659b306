/-
  A walk by computing: lists of elements of any number of cells: made, copied, appended to one another; lists that may be nothing.
-/
import Derived.Test.YtindbpffbjhfaaaDoorM4
import Derived.Test.YtindbpffbjhfaaaDoorM3
namespace Go.Proofs.YtindbpffbjhfaaaDoor.K
set_option linter.unusedSimpArgs false
set_option linter.unusedVariables false

/-- Of a block that is there nothing is told. -/
theorem HE.fn_none {w : World} {b lo hi o k : Nat} {f f' : Nat → Value} (h : HE.holds w b (.fn lo hi f)) (hk : k = 0) : HE.holds w b (.fn o (o + k) f') := by
  subst hk
  obtain ⟨c, T, fz, hc, _⟩ := h
  exact ⟨c, T, fz, hc, fun x h1 h2 => by have h1 : o ≤ x := h1; have h2 : x < o + 0 := h2; omega⟩
theorem HE.fn_to {w : World} {b o hi hi' : Nat} {f f' : Nat → Value} (h : HE.holds w b (.fn o hi f)) (e1 : hi = hi') (e2 : ∀ x, o ≤ x → x < hi → f x = f' x) : HE.holds w b (.fn o hi' f') := by
  subst e1
  obtain ⟨c, T, fz, hc, hf⟩ := h
  exact ⟨c, T, fz, hc, fun x h1 h2 => (hf x h1 h2).trans (congrArg some (e2 x h1 h2))⟩
theorem HE.row_to {w : World} {b m hi tot : Nat} {e : TypeId} {f f' : Nat → Value} (h : HE.holds w b (.row e m tot f)) (e1 : m = hi) (e2 : ∀ x, x < m → f x = f' x) : HE.holds w b (.fn 0 hi f') := by
  subst e1
  obtain ⟨c, hc, h1, h2, hf⟩ := h
  exact ⟨c, e, (0, 0), hc, fun x _ h4 => (hf x h4).trans (congrArg some (e2 x h4))⟩
theorem slN {x : Option Addr} {n n' c : Nat} (h : n = n') : (Value.slice x n c) = .slice x n' c := by rw [h]
theorem CellsV.none {w : World} {b o k : Nat} {F : Nat → Value} (h : k = 0) : CellsV w b o k F := fun j hj => absurd hj (by omega)

section
variable {P : Program} {c : Cx} {n : Nat} {E : Env} {H : Heap} {A : List Res} {a : Act} {w : World} {o : Oper}

/-- A list that is nothing, told of a block that is there; a row of our own that is not turned any more. -/
theorem WS.addNone (h : WS c H A w) (j : Nat) {b lo hi o k : Nat} {f f' : Nat → Value} (hk : k = 0) (hj : H[j]? = some (b, .fn lo hi f) := by as_aux_lemma => kernel_rfl) : WS c (H ++ [(b, .fn o (o + k) f')]) A w := by
  have hm := List.mem_of_getElem? hj
  refine h.add (HE.fn_none (h.heap _ hm) hk) (fun q => by cases q) (h.free _ hm) (fun e he ho => ?_)
  obtain ⟨i, hi⟩ := List.mem_iff_getElem?.1 he
  intro e1
  have hoe : e.2.own = true := ho.resolve_left (fun q => by cases q)
  by_cases eij : i = j
  · subst eij; rw [hj] at hi; cases hi; cases hoe
  · exact pairwise_get h.apart eij hi hj (.inl hoe) e1
end

/-! ## Lists of elements of some kinds -/
/-- The element at a place. -/
def gtD {α : Type} [Inhabited α] (l : List α) (i : Nat) : α := l.getD i default
theorem gtD_lt {α : Type} [Inhabited α] {l : List α} {i : Nat} (h : i < l.length) : gtD l i = l[i] := by
  unfold gtD; rw [List.getD_eq_getElem?_getD, List.getElem?_eq_getElem h]; rfl
theorem gtD_some {α : Type} [Inhabited α] {l : List α} {i : Nat} (h : i < l.length) : l[i]? = some (gtD l i) := by
  rw [gtD_lt h]; exact List.getElem?_eq_getElem h
theorem gtD_app {α : Type} [Inhabited α] (l k : List α) (i : Nat) : gtD (l ++ k) i = if i < l.length then gtD l i else gtD k (i - l.length) := by
  unfold gtD
  simp only [List.getD_eq_getElem?_getD, List.getElem?_append]
  split <;> rfl
theorem gtD_set {α : Type} [Inhabited α] (l : List α) (i : Nat) (x : α) (j : Nat) (h : i < l.length) : gtD (l.set i x) j = if j = i then x else gtD l j := by
  unfold gtD
  simp only [List.getD_eq_getElem?_getD, List.getElem?_set]
  by_cases e : i = j
  · subst e; rw [if_pos rfl, if_pos rfl, if_pos h]; rfl
  · rw [if_neg e, if_neg (fun q => e q.symm)]
end Go.Proofs.YtindbpffbjhfaaaDoor.K
