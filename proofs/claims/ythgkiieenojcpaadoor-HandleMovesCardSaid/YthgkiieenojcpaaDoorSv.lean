/-
  A walk by computing: lists of elements of any number of cells: made, copied, appended to one another; lists that may be nothing.
-/
import Derived.Test.YthgkiieenojcpaaDoorM4
import Derived.Test.YthgkiieenojcpaaDoorM3
namespace Go.Proofs.YthgkiieenojcpaaDoor.K
set_option linter.unusedSimpArgs false
set_option linter.unusedVariables false

/-- Of a block that is there nothing is told. -/
theorem HE.fn_none {w : World} {b lo hi o k : Nat} {f f' : Nat → Value} (h : HE.holds w b (.fn lo hi f)) (hk : k = 0) : HE.holds w b (.fn o (o + k) f') := by
  subst hk
  obtain ⟨c, T, fz, hc, _⟩ := h
  exact ⟨c, T, fz, hc, fun x h1 h2 => by have h1 : o ≤ x := h1; have h2 : x < o + 0 := h2; omega⟩
theorem HE.row_to {w : World} {b m hi tot : Nat} {e : TypeId} {f f' : Nat → Value} (h : HE.holds w b (.row e m tot f)) (e1 : m = hi) (e2 : ∀ x, x < m → f x = f' x) : HE.holds w b (.fn 0 hi f') := by
  subst e1
  obtain ⟨c, hc, h1, h2, hf⟩ := h
  exact ⟨c, e, (0, 0), hc, fun x _ h4 => (hf x h4).trans (congrArg some (e2 x h4))⟩
theorem slN {x : Option Addr} {n n' c : Nat} (h : n = n') : (Value.slice x n c) = .slice x n' c := by rw [h]
theorem CellsV.none {w : World} {b o k : Nat} {F : Nat → Value} (h : k = 0) : CellsV w b o k F := fun j hj => absurd hj (by omega)

theorem Fr.alloc0 (w : World) (o : Obj) : Fr w (w.alloc o) no no := by
  refine ⟨rfl, rfl, rfl, ?_, fun k hk _ => ?_, fun k h => .inl h⟩
  · show w.heap.size ≤ (w.heap.push o).size
    rw [Array.size_push]; omega
  · show (w.heap.push o)[k]? = _
    rw [Array.getElem?_push, if_neg (by omega)]
theorem alloc0_at (w : World) (o : Obj) : (w.alloc o).heap[w.heap.size]? = some o := by
  show (w.heap.push o)[w.heap.size]? = some o
  rw [Array.getElem?_push, if_pos rfl]

section
variable {P : Program} {c : Cx} {n : Nat} {E : Env} {H : Heap} {A : List Res} {a : Act} {w : World} {o : Oper}

end

/-! ## Lists of elements of some kinds -/
/-- The element at a place. -/
def gtD {α : Type} [Inhabited α] (l : List α) (i : Nat) : α := l.getD i default
theorem gtD_lt {α : Type} [Inhabited α] {l : List α} {i : Nat} (h : i < l.length) : gtD l i = l[i] := by
  unfold gtD; rw [List.getD_eq_getElem?_getD, List.getElem?_eq_getElem h]; rfl
theorem gtD_app {α : Type} [Inhabited α] (l k : List α) (i : Nat) : gtD (l ++ k) i = if i < l.length then gtD l i else gtD k (i - l.length) := by
  unfold gtD
  simp only [List.getD_eq_getElem?_getD, List.getElem?_append]
  split <;> rfl
theorem gtD_set {α : Type} [Inhabited α] (l : List α) (i : Nat) (x : α) (j : Nat) (h : i < l.length) : gtD (l.set i x) j = if j = i then x else gtD l j := by
  unfold gtD
  simp only [List.getD_eq_getElem?_getD, List.getElem?_set]
  by_cases e : i = j
  · subst e; rw [if_pos rfl, if_pos rfl, if_pos h]; rfl
  · rw [if_neg e, if_neg (fun q => e q.symm)]
end Go.Proofs.YthgkiieenojcpaaDoor.K
