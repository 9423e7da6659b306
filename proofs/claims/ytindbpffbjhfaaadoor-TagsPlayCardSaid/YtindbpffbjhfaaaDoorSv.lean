/-
  A walk by computing: lists of elements of any number of cells: made, copied, appended to one another; lists that may be nothing.
-/
import Derived.Test.YtindbpffbjhfaaaDoorM4
import Derived.Test.YtindbpffbjhfaaaDoorM3
namespace Go.Proofs.YtindbpffbjhfaaaDoor.K
set_option linter.unusedSimpArgs false
set_option linter.unusedVariables false

/-- Of a block that is there nothing is told. -/
theorem HE.fn_none {w : World} {b lo hi o k : Nat} {f f' : Nat → Value} (h : HE.holds w b (.fn lo hi f)) (hk : k = 0) : HE.holds w b (.fn o (o + k) f') := by
  subst hk
  obtain ⟨c, T, fz, hc, _⟩ := h
  exact ⟨c, T, fz, hc, fun x h1 h2 => by have h1 : o ≤ x := h1; have h2 : x < o + 0 := h2; omega⟩
theorem HE.fn_to {w : World} {b o hi hi' : Nat} {f f' : Nat → Value} (h : HE.holds w b (.fn o hi f)) (e1 : hi = hi') (e2 : ∀ x, o ≤ x → x < hi → f x = f' x) : HE.holds w b (.fn o hi' f') := by
  subst e1
  obtain ⟨c, T, fz, hc, hf⟩ := h
  exact ⟨c, T, fz, hc, fun x h1 h2 => (hf x h1 h2).trans (congrArg some (e2 x h1 h2))⟩
theorem HE.row_to {w : World} {b m hi tot : Nat} {e : TypeId} {f f' : Nat → Value} (h : HE.holds w b (.row e m tot f)) (e1 : m = hi) (e2 : ∀ x, x < m → f x = f' x) : HE.holds w b (.fn 0 hi f') := by
  subst e1
  obtain ⟨c, hc, h1, h2, hf⟩ := h
  exact ⟨c, e, (0, 0), hc, fun x _ h4 => (hf x h4).trans (congrArg some (e2 x h4))⟩
theorem slN {x : Option Addr} {n n' c : Nat} (h : n = n') : (Value.slice x n c) = .slice x n' c := by rw [h]
theorem CellsV.none {w : World} {b o k : Nat} {F : Nat → Value} (h : k = 0) : CellsV w b o k F := fun j hj => absurd hj (by omega)

theorem Fr.alloc0 (w : World) (o : Obj) : Fr w (w.alloc o) no no := by
  refine ⟨rfl, rfl, rfl, ?_, fun k hk _ => ?_, fun k h => .inl h⟩
  · show w.heap.size ≤ (w.heap.push o).size
    rw [Array.size_push]; omega
  · show (w.heap.push o)[k]? = _
    rw [Array.getElem?_push, if_neg (by omega)]
theorem alloc0_at (w : World) (o : Obj) : (w.alloc o).heap[w.heap.size]? = some o := by
  show (w.heap.push o)[w.heap.size]? = some o
  rw [Array.getElem?_push, if_pos rfl]

/-- What is copied, of elements of any number of cells. -/
theorem run_copy_sized {P : Program} (w : World) (dT sT ty elem : TypeId) (g o dLen dCap : Nat) (a : Addr) (sLen sCap : Nat) (cur : Array Value) (t : TypeId) (cs : List Value) (sz : Nat)
    (hu : P.underlying dT = some (.slice elem)) (hs : (P.info? elem).map (·.size) = some sz)
    (hg : w.heap[g]? = some (.cells cur t (0, 0))) (hn : cs.length = Nat.min sLen dLen * sz)
    (hsrc : ∀ j v, cs[j]? = some v → w.cell? (a.add j) = some v) (hfit : o + cs.length ≤ cur.size) (h1 : ∀ v ∈ cs, v.oneCell' = true) :
    (Builtin.copy_ #[dT, sT] ty #[.slice (some ⟨g, o, none⟩) dLen dCap, .slice (some a) sLen sCap]).run P w =
      .ok (goInt (Nat.min sLen dLen)) (w.setRow g (cur.toList.take o ++ cs ++ cur.toList.drop (o + cs.length)).toArray) := by
  have hl := run_loadCells_list (P := P) w a cs hsrc
  have hst := run_storeCells_at P g o t cs 0 cur w hg (by simpa using hfit) h1
  cases hq : P.info? elem with
  | none => simp [hq] at hs
  | some i =>
    have hi : i.size = sz := by simpa [hq] using hs
    simp [Builtin.copy_, run_underlying hu, Builtin.lenOf, Builtin.firstCells, sizeOf, typeInfo, hq, hi, ← hn, hl, hst]
theorem run_copy_nothing {P : Program} (w : World) (dT sT ty elem : TypeId) (d a : Option Addr) (dLen dCap sCap : Nat) (sz : Nat) (hu : P.underlying dT = some (.slice elem)) (hs : (P.info? elem).map (·.size) = some sz) :
    (Builtin.copy_ #[dT, sT] ty #[.slice d dLen dCap, .slice a 0 sCap]).run P w = .ok (goInt 0) w := by
  cases hq : P.info? elem with
  | none => simp [hq] at hs
  | some i =>
    have hi : i.size = sz := by simpa [hq] using hs
    have hl := fun a => run_loadCells_list (P := P) w a [] (by simp)
    simp only [List.length_nil] at hl
    cases a <;> cases d <;> simp [Builtin.copy_, run_underlying hu, Builtin.lenOf, Builtin.firstCells, sizeOf, typeInfo, hq, hi, hl, storeCells]
section
variable {P : Program} {c : Cx} {n : Nat} {E : Env} {H : Heap} {A : List Res} {a : Act} {w : World} {o : Oper}

/-- A new slice of elements of some cells. -/
theorem St.makeV {K : Act → World → Prop} (hS : St c n E H A a w) (t : TypeId) (x y : Operand) (ho : o.op = .makeSlice t x y) {d : Nat} (hd : o.dst = some d) (hdn : d < n) {e : TypeId} {z : Value} {i : TypeInfo} {sz : Nat} (ht : P.underlying t = some (.slice e)) (hi : P.info? e = some i) (hz : i.zero = some z) (h1 : i.size = sz) (hzc : z.cells.size = sz) (hby : i.bytes ≤ 64) (hsz : 0 < sz)
    {q q2 : Int} (hq : q2 = q) (h0 : 0 ≤ q ∧ q ≤ 4294967296) {f : Nat → Value} (hf : ∀ j, f j = z.cells.toList.getD (j % sz) undef)
    (h : ∀ a' w' b, c.w0.heap.size ≤ b → St c n (putE E d [] (sc b 0 q.toNat q.toNat)) (H ++ [(b, .row e (q.toNat * sz) (q.toNat * sz) f)]) A a' w' → K a' w')
    (hok : okO E [] x = true := by as_aux_lemma => kernel_rfl) (hok2 : okO E [] y = true := by as_aux_lemma => kernel_rfl) (hx : rho E x = vi q := by as_aux_lemma => kernel_rfl) (hy : rho E y = vi q2 := by as_aux_lemma => kernel_rfl) : Runs1 P o a w K := by
  subst hq
  have hb : (i.bytes : Int) * q2 ≤ 281474976710656 := by
    have : (i.bytes : Int) * q2 ≤ 64 * q2 := Int.mul_le_mul_of_nonneg_right (by omega) h0.1
    omega
  have hr := run_make (P := P) w t e i z ht hi hz .i64 .i64 q2 q2 h0.1 (Int.le_refl _) hb (by omega)
  refine ⟨sc w.heap.size 0 q2.toNat q2.toNat, w.alloc (.cells (madeCells z.cells (q2.toNat * i.size)) e), ?_, ?_⟩
  · unfold execOp
    simp only [ho, eval1 hS hok, eval1 hS hok2, hx, hy]
    exact run_value_bind hr
  · rw [hd]
    have hh : HE.holds (w.alloc (.cells (madeCells z.cells (q2.toNat * i.size)) e)) w.heap.size (.row e (q2.toNat * sz) (q2.toNat * sz) f) := by
      refine ⟨_, alloc0_at _ _, ?_, Nat.le_refl _, fun x hx => ?_⟩
      · rw [size_madeCells, h1]
      · have hlt : x % z.cells.size < z.cells.size := Nat.mod_lt _ (by omega)
        rw [hf x, h1]
        unfold madeCells
        rw [Array.getElem?_map, Array.getElem?_range, if_pos hx]
        show some (z.cells[x % z.cells.size]!) = some _
        rw [getElem!_pos z.cells _ hlt, ← hzc, List.getD_eq_getElem?_getD, Array.getElem?_toList, Array.getElem?_eq_getElem hlt]
        rfl
    exact h _ _ _ hS.mem.fr.size ((hS.to (hS.mem.outR (Fr.alloc0 w _) (Nat.le_refl _) hh)).put hdn)

/-- copy of elements of some cells into a row of our own. -/
theorem St.copyW {K : Act → World → Prop} (hS : St c n E H A a w) (x y : Operand) (t t2 : TypeId) (ho : o.op = .call { callee := .builtin .copy, args := #[x, y], argTypes := #[t, t2] }) {d : Nat} (hd : o.dst = some d) (hdn : d < n) {e e2 : TypeId} {i : TypeInfo} {sz : Nat} (ht : P.underlying t = some (.slice e)) (hi : P.info? e = some i) (h1 : i.size = sz)
    {b off k cp m tot g so ks cps : Nat} {ak : Option Addr} {f F : Nat → Value} (j : Nat) (hkm : off + min ks k * sz ≤ m) (hak : ks = 0 ∨ ak = some ⟨g, so, none⟩) (hF : CellsV w g so (min ks k * sz) F) (hone : ∀ z, z < min ks k * sz → (F z).oneCell' = true)
    (h : ∀ a' w', St c n (putE E d [] (vi ((min ks k : Nat) : Int))) (H.set j (b, .row e2 m tot (segV f off (min ks k * sz) F))) A a' w' → K a' w')
    (hok : okO E [] x = true := by as_aux_lemma => kernel_rfl) (hok2 : okO E [] y = true := by as_aux_lemma => kernel_rfl) (hx : rho E x = sc b off k cp := by as_aux_lemma => kernel_rfl) (hy : rho E y = .slice ak ks cps := by as_aux_lemma => kernel_rfl) (hj : H[j]? = some (b, .row e2 m tot f) := by as_aux_lemma => kernel_rfl) : Runs1 P o a w K := by
  rcases hak with rfl | rfl
  · have hr := run_copy_nothing (P := P) w t t2 o.type e (some ⟨b, off, none⟩) ak k cp cps sz ht (by rw [hi]; simp [h1])
    refine ⟨_, _, copy_run ho (by rw [eval1 hS hok, eval1 hS hok2, hx, hy]; exact hr), ?_⟩
    rw [hd]
    have hz : min 0 k = 0 := Nat.zero_min k
    have hW := hS.mem.tellR j (segV f off (min 0 k * sz) F) (fun o ho => by unfold segV; rw [hz, Nat.zero_mul, if_neg (by omega)]) hj
    have := h _ _ ((hS.to hW).put (d := d) (v := vi ((min 0 k : Nat) : Int)) hdn)
    rw [hz] at this
    exact this
  · obtain ⟨cur, hc, hsz, hmt, hf⟩ := hS.mem.heap _ (List.mem_of_getElem? hj)
    have hl : ((List.range (min ks k * sz)).map F).length = min ks k * sz := by simp
    have hr := run_copy_sized (P := P) w t t2 o.type e b off k cp ⟨g, so, none⟩ ks cps cur e2 ((List.range (min ks k * sz)).map F) sz ht (by rw [hi]; simp [h1]) hc hl (fun z v hz => by
      have hzk : z < min ks k * sz := by have := (List.getElem?_eq_some_iff.1 hz).1; simpa using this
      rw [List.getElem?_map, List.getElem?_range hzk] at hz
      simp only [Option.map_some, Option.some.injEq] at hz
      subst hz
      rw [addr_add _ rfl]; exact hF z hzk) (by rw [hl]; omega) (fun v hv => by
      obtain ⟨z, hz, rfl⟩ := List.mem_map.1 hv
      exact hone z (List.mem_range.1 hz))
    rw [hl] at hr
    refine ⟨_, _, copy_run ho (by rw [eval1 hS hok, eval1 hS hok2, hx, hy]; exact hr), ?_⟩
    rw [hd]
    have hh := row_seg (n := min ks k * sz) (o := off) (g := F) hc hsz hmt hf hkm ((List.range (min ks k * sz)).map F) hl (fun z hz => by rw [List.getElem?_map, List.getElem?_range hz]; rfl)
    exact h _ _ ((hS.to (hS.mem.stepM j hj rfl rfl hh (Fr.setRow _))).put hdn)

theorem WS.share (h : WS c H A w) (j : Nat) {b m tot : Nat} {e : TypeId} {f : Nat → Value} (hi : Nat) (f' : Nat → Value) (e1 : m = hi) (e2 : ∀ x, x < m → f x = f' x) (hj : H[j]? = some (b, .row e m tot f) := by as_aux_lemma => kernel_rfl) : WS c (H.set j (b, .fn 0 hi f')) A w := by
  have key : ∀ (k : Nat) e', (H.set j (b, .fn 0 hi f'))[k]? = some e' → ∃ e0, H[k]? = some e0 ∧ e0.1 = e'.1 ∧ (e'.2.own = true → e0.2.own = true) ∧ (e0.2.holds w e0.1 → e'.2.holds w e'.1) := fun k e' he => by
    rcases heap_set_cases he with ⟨rfl, rfl⟩ | ⟨hk, he⟩
    · exact ⟨_, hj, rfl, (fun q => by cases q), fun hh => HE.row_to hh e1 e2⟩
    · exact ⟨e', he, rfl, id, id⟩
  refine ⟨fun e' he => ?_, ?_, fun e' he ho => ?_, fun e' he => ?_, h.ars, h.fr⟩
  · obtain ⟨k, hk⟩ := List.mem_iff_getElem?.1 he
    obtain ⟨e0, h1, h2, h3, h4⟩ := key k e' hk
    exact h4 (h.heap _ (List.mem_of_getElem? h1))
  · refine pairwise_of_get fun i k x y hij hx hy => ?_
    obtain ⟨x', a1, a2, a3, _⟩ := key i x hx
    obtain ⟨y', b1, b2, b3, _⟩ := key k y hy
    intro ho
    rw [← a2, ← b2]
    exact pairwise_get h.apart (by omega) a1 b1 (ho.imp a3 b3)
  · obtain ⟨k, hk⟩ := List.mem_iff_getElem?.1 he
    obtain ⟨e0, h1, h2, h3, h4⟩ := key k e' hk
    rw [← h2]; exact h.mine _ (List.mem_of_getElem? h1) (h3 ho)
  · obtain ⟨k, hk⟩ := List.mem_iff_getElem?.1 he
    obtain ⟨e0, h1, h2, h3, h4⟩ := key k e' hk
    rw [← h2]; exact h.free _ (List.mem_of_getElem? h1)
end

/-! ## Lists of elements of some kinds -/
/-- The element at a place. -/
def gtD {α : Type} [Inhabited α] (l : List α) (i : Nat) : α := l.getD i default
theorem gtD_lt {α : Type} [Inhabited α] {l : List α} {i : Nat} (h : i < l.length) : gtD l i = l[i] := by
  unfold gtD; rw [List.getD_eq_getElem?_getD, List.getElem?_eq_getElem h]; rfl
theorem gtD_app {α : Type} [Inhabited α] (l k : List α) (i : Nat) : gtD (l ++ k) i = if i < l.length then gtD l i else gtD k (i - l.length) := by
  unfold gtD
  simp only [List.getD_eq_getElem?_getD, List.getElem?_append]
  split <;> rfl
theorem gtD_set {α : Type} [Inhabited α] (l : List α) (i : Nat) (x : α) (j : Nat) (h : i < l.length) : gtD (l.set i x) j = if j = i then x else gtD l j := by
  unfold gtD
  simp only [List.getD_eq_getElem?_getD, List.getElem?_set]
  by_cases e : i = j
  · subst e; rw [if_pos rfl, if_pos rfl, if_pos h]; rfl
  · rw [if_neg e, if_neg (fun q => e q.symm)]
end Go.Proofs.YtindbpffbjhfaaaDoor.K
