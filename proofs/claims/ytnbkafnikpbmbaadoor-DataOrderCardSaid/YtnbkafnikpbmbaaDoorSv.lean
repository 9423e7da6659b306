/-
  A walk by computing: lists of elements of any number of cells: made, copied, appended to one another; lists that may be nothing.
-/
import Derived.Test.YtnbkafnikpbmbaaDoorM4
import Derived.Test.YtnbkafnikpbmbaaDoorM3
namespace Go.Proofs.YtnbkafnikpbmbaaDoor.K
set_option linter.unusedSimpArgs false
set_option linter.unusedVariables false

/-- Of a block that is there nothing is told. -/
theorem HE.fn_none {w : World} {b lo hi o k : Nat} {f f' : Nat → Value} (h : HE.holds w b (.fn lo hi f)) (hk : k = 0) : HE.holds w b (.fn o (o + k) f') := by
  subst hk
  obtain ⟨c, T, fz, hc, _⟩ := h
  exact ⟨c, T, fz, hc, fun x h1 h2 => by have h1 : o ≤ x := h1; have h2 : x < o + 0 := h2; omega⟩
theorem HE.row_to {w : World} {b m hi tot : Nat} {e : TypeId} {f f' : Nat → Value} (h : HE.holds w b (.row e m tot f)) (e1 : m = hi) (e2 : ∀ x, x < m → f x = f' x) : HE.holds w b (.fn 0 hi f') := by
  subst e1
  obtain ⟨c, hc, h1, h2, hf⟩ := h
  exact ⟨c, e, (0, 0), hc, fun x _ h4 => (hf x h4).trans (congrArg some (e2 x h4))⟩
theorem slN {x : Option Addr} {n n' c : Nat} (h : n = n') : (Value.slice x n c) = .slice x n' c := by rw [h]
theorem CellsV.none {w : World} {b o k : Nat} {F : Nat → Value} (h : k = 0) : CellsV w b o k F := fun j hj => absurd hj (by omega)

theorem run_app0 {P : Program} (w : World) (t ty e : TypeId) (i : TypeInfo) (ht : P.underlying t = some (.slice e)) (hi : P.info? e = some i) (base ak : Option Addr) (sLen sCap ck : Nat) (hle : sLen ≤ sCap) :
    (Builtin.append_ #[t, t] ty #[.slice base sLen sCap, .slice ak 0 ck]).run P w = .ok (.slice base sLen sCap) w := by
  have hl := fun a => run_loadCells_list (P := P) w a [] (by simp)
  simp only [List.length_nil] at hl
  cases ak <;> cases base <;> simp [Builtin.append_, run_underlying ht, sizeOf, typeInfo, hi, Builtin.lenOf, hle, Builtin.firstCells, hl, storeCells]

def catF (f : Nat → Value) (n : Nat) (F : Nat → Value) (x : Nat) : Value := if x < n then f x else F (x - n)
theorem appF_cat {f : Nat → Value} {n k : Nat} {F : Nat → Value} {x : Nat} (h : x < n + k) : appF f n ((List.range k).map F) x = catF f n F x := by
  unfold appF catF
  split
  · rfl
  · rw [List.getD_eq_getElem?_getD, List.getElem?_map, List.getElem?_range (by omega)]; rfl
theorem grow_fitsK {n k cap bytes : Nat} (h : cap < n + k) (hb : bytes ≤ 64) (hn : n + k ≤ 2 ^ 32) : Builtin.nextslicecap (n + k) cap * bytes ≤ 281474976710656 := growslice_fits (by omega) (by
  have : (n + k) * bytes ≤ 2 ^ 32 * 64 := Nat.mul_le_mul hn hb
  omega)
theorem gr_roomK {e : TypeId} {sz : Nat} {w : World} {g cap n k : Nat} {f : Nat → Value} (hrow : HE.holds w g (.row e (n * sz) (cap * sz) f)) (hr : n + k ≤ cap) {news : List Value} (hl : news.length = k * sz) :
    ∃ cur, w.heap[g]? = some (.cells cur e (0, 0)) ∧ cur.size = cap * sz ∧ n * sz + news.length ≤ cur.size ∧
      HE.holds (w.setRow g (cur.toList.take (n * sz) ++ news ++ cur.toList.drop (n * sz + news.length)).toArray) g (.row e ((n + k) * sz) (cap * sz) (appF f (n * sz) news)) := by
  obtain ⟨cur, hc, hsz, hnt, hf⟩ := hrow
  have hcl : cur.toList.length = cap * sz := by simpa using hsz
  have hm : (n + k) * sz ≤ cap * sz := Nat.mul_le_mul_right _ hr
  have hm2 : (n + k) * sz = n * sz + k * sz := Nat.add_mul n k sz
  refine ⟨cur, hc, hsz, by omega, ⟨_, setRow_heap w g cur _ e _ hc, ?_, hm, fun x hx => ?_⟩⟩
  · simp only [List.size_toArray, List.length_append, List.length_take, List.length_drop, hcl]
    omega
  · rw [List.getElem?_toArray]
    unfold appF
    by_cases hx2 : x < n * sz
    · rw [if_pos hx2, List.append_assoc, List.getElem?_append_left (by rw [List.length_take, hcl]; omega), List.getElem?_take_of_lt hx2, Array.getElem?_toList]
      exact hf x hx2
    · rw [if_neg hx2, List.append_assoc, List.getElem?_append_right (by rw [List.length_take, hcl]; omega), List.length_take, hcl, show min (n * sz) (cap * sz) = n * sz by omega, List.getElem?_append_left (by omega), List.getD_eq_getElem?_getD, List.getElem?_eq_getElem (by omega)]
      rfl

section
variable {P : Program} {c : Cx} {n : Nat} {E : Env} {H : Heap} {A : List Res} {a : Act} {w : World} {o : Oper}

/-- append of what lies in cells: k elements. -/
theorem St.appL {K : Act → World → Prop} {v : Value} {Fv : Nat → Prop} {m sz : Nat} {f : Nat → Value} {e : TypeId} (j : Nat) (hS : St c n E H A a w) (x y : Operand) (t : TypeId) (ho : o.op = .call { callee := .builtin .append, args := #[x, y], argTypes := #[t, t] }) {d : Nat} (hd : o.dst = some d) (hdn : d < n) {z : Value} {i : TypeInfo} (ht : P.underlying t = some (.slice e)) (hi : P.info? e = some i) (hz : i.zero = some z) (h1 : i.size = sz) (hby : i.bytes ≤ 64) (hzc : z.cells.size = sz) (hsz : 0 < sz)
    {ak : Option Addr} {k ck g so : Nat} {F : Nat → Value} (hak : k = 0 ∨ ak = some ⟨g, so, none⟩) (hC : CellsV w g so (k * sz) F) (hone : ∀ q, q < k * sz → (F q).oneCell' = true) (hn : m + k ≤ 2 ^ 32)
    (h : ∀ a' w' v' F', GrV e sz w' v' F' (m + k) (catF f (m * sz) F) → St c n (putE E d [] v') H (A.set j (grR e sz v' F' (m + k, catF f (m * sz) F))) a' w' → K a' w')
    (hj : A[j]? = some (grR e sz v Fv (m, f)) := by rfl)
    (hok : okO E [] x = true := by as_aux_lemma => kernel_rfl) (hok2 : okO E [] y = true := by as_aux_lemma => kernel_rfl) (hx : rho E x = v := by as_aux_lemma => kernel_rfl) (hy : rho E y = .slice ak k ck := by as_aux_lemma => kernel_rfl) : Runs1 P o a w K := by
  have hB : GrV e sz w v Fv m f := hS.mem.ars.each _ (List.mem_of_getElem? hj)
  have heq : ∀ x, x < (m + k) * sz → catF f (m * sz) F x = appF f (m * sz) ((List.range (k * sz)).map F) x := fun x hx => (appF_cat (by rw [Nat.add_mul] at hx; exact hx)).symm
  rcases Nat.eq_zero_or_pos k with hk0 | hk0
  · subst hk0
    have hG : GrV e sz w v Fv (m + 0) (catF f (m * sz) F) := by
      rcases hB with hB | ⟨gb, cap, rfl, h0, hrow, hcap, hF⟩
      · exact .inl hB
      · exact .inr ⟨gb, cap, rfl, h0, HE.row_eq hrow (fun x hx => by unfold catF; rw [if_pos (show x < m * sz from hx)]), hcap, hF⟩
    have hr : (Builtin.append_ #[t, t] o.type #[v, .slice ak 0 ck]).run P w = .ok v w := by
      rcases hB with ⟨rfl, _, _⟩ | ⟨gb, cap, rfl, h0, hrow, hcap, hF⟩
      · exact run_app0 w t o.type e i ht hi none ak 0 0 ck (Nat.le_refl _)
      · exact run_app0 w t o.type e i ht hi _ ak m cap ck hcap
    refine ⟨_, _, append_run ho (by rw [eval1 hS hok, eval1 hS hok2, hx, hy]; exact hr), ?_⟩
    rw [hd]
    have hA := hS.mem.stepA j (r' := grR e sz v Fv (m + 0, catF f (m * sz) F)) hj hG ((Fr.refl w no).to (fun k hk => hk.elim) (fun k hk => .inl hk))
    exact h _ _ _ _ hG ((hS.to hA).put hdn)
  obtain rfl : ak = some ⟨g, so, none⟩ := hak.resolve_left (by omega)
  have hl : ((List.range (k * sz)).map F).length = k * sz := by simp
  have hone' : ∀ u ∈ (List.range (k * sz)).map F, u.oneCell' = true := fun u hu => by
    obtain ⟨q, hq, rfl⟩ := List.mem_map.1 hu
    exact hone q (List.mem_range.1 hq)
  have hcell : ∀ j u, ((List.range (k * sz)).map F)[j]? = some u → w.cell? ((⟨g, so, none⟩ : Addr).add j) = some u := by
    intro j u hj
    have hjk : j < k * sz := by have := (List.getElem?_eq_some_iff.1 hj).1; simpa using this
    rw [List.getElem?_map, List.getElem?_range hjk] at hj
    simp only [Option.map_some, Option.some.injEq] at hj
    subst hj
    rw [addr_add _ rfl]; exact hC j hjk
  generalize hnews : (List.range (k * sz)).map F = news at hl hone' hcell heq
  have hksz : 0 < k * sz := Nat.mul_pos hk0 hsz
  rcases hB with ⟨rfl, rfl, hF⟩ | ⟨gb, cap, rfl, h0, hrow, hcap, hF⟩
  · have hkb : k * i.bytes ≤ 281474976710656 := by
      have : k * i.bytes ≤ 2 ^ 32 * 64 := Nat.mul_le_mul (by omega) hby
      omega
    have hr := run_append_nil (P := P) (w := w) t o.type e i z ht hi hz ⟨g, so, none⟩ k ck news (by rw [h1]; exact hl) hcell hk0 (by omega) hkb
    have hge := grownCap_ge w k 0 e
    have hh : GrV e sz (w.drew.alloc (.cells (news.toArray ++ Builtin.zeroCells z.cells (grownCap w k 0 e - k)) e (0, 0))) (sc w.heap.size 0 k (grownCap w k 0 e)) (one w.heap.size) (0 + k) (catF f (0 * sz) F) := by
      refine .inr ⟨w.heap.size, grownCap w k 0 e, by rw [Nat.zero_add], by omega, HE.row_eq (f := appF f (0 * sz) news) ⟨_, alloc_at _ _, ?_, Nat.mul_le_mul_right _ (by omega), fun x hx => ?_⟩ (fun x hx => by rw [heq x hx]), by omega, fun q => Iff.rfl⟩
      · simp only [Array.size_append, List.size_toArray, size_zeroCells, hzc, hl]
        have h1 : k * sz ≤ grownCap w k 0 e * sz := Nat.mul_le_mul_right _ hge
        have h2 : (grownCap w k 0 e - k) * sz = grownCap w k 0 e * sz - k * sz := Nat.mul_sub_right_distrib _ _ _
        have h3 : sz * (grownCap w k 0 e - k) = (grownCap w k 0 e - k) * sz := Nat.mul_comm _ _
        omega
      · rw [Nat.zero_add] at hx
        rw [Array.getElem?_append_left (by simp; omega)]
        unfold appF
        rw [Nat.zero_mul, if_neg (by omega), Nat.sub_zero, List.getElem?_toArray, List.getD_eq_getElem?_getD, List.getElem?_eq_getElem (by omega)]
        rfl
    refine ⟨_, _, append_run ho (by rw [eval1 hS hok, eval1 hS hok2, hx, hy]; exact hr), ?_⟩
    rw [hd]
    have hA := hS.mem.stepA j (r' := grR e sz (sc w.heap.size 0 k (grownCap w k 0 e)) (one w.heap.size) (0 + k, catF f (0 * sz) F)) hj hh ((Fr.alloc w _).to (fun k hk => hk.elim) (fun q hq => .inr (by rw [show q = w.heap.size from hq]; exact Nat.le_refl _)))
    exact h _ _ _ _ hh ((hS.to hA).put hdn)
  · by_cases hroom : m + k ≤ cap
    · obtain ⟨cur, hc, hcs, hfit, hh⟩ := gr_roomK hrow hroom hl
      have hr := run_append_room (P := P) w t o.type e i ht hi gb m cap cur hc ⟨g, so, none⟩ k ck news (by rw [h1]; exact hl) hcell hone' hroom (by rw [h1]; exact hfit)
      rw [h1] at hr
      have hh2 : GrV e sz (w.setRow gb (cur.toList.take (m * sz) ++ news ++ cur.toList.drop (m * sz + news.length)).toArray) (sc gb 0 (m + k) cap) (one gb) (m + k) (catF f (m * sz) F) := .inr ⟨gb, cap, rfl, by omega, HE.row_eq hh (fun x hx => by rw [heq x hx]), hroom, fun q => Iff.rfl⟩
      refine ⟨_, _, append_run ho (by rw [eval1 hS hok, eval1 hS hok2, hx, hy]; exact hr), ?_⟩
      rw [hd]
      have hA := hS.mem.stepA j (r' := grR e sz (sc gb 0 (m + k) cap) (one gb) (m + k, catF f (m * sz) F)) hj hh2 ⟨rfl, rfl, rfl, by simp, fun q hq hn => setRow_other w gb q _ (fun e => hn ((hF q).2 e)), fun q hq => .inl ((hF q).2 hq)⟩
      exact h _ _ _ _ hh2 ((hS.to hA).put hdn)
    · obtain ⟨cur, hc, hcs, hnt, hf⟩ := id hrow
      have hol : ((List.range (m * sz)).map f).length = m * i.size := by simp [h1]
      have hold : ∀ j v, ((List.range (m * sz)).map f)[j]? = some v → w.cell? ((⟨gb, 0, none⟩ : Addr).add j) = some v := by
        intro j v hj
        have hjn : j < m * sz := by
          have := (List.getElem?_eq_some_iff.1 hj).1
          simpa using this
        rw [List.getElem?_map, List.getElem?_range hjn] at hj
        simp only [Option.map_some, Option.some.injEq] at hj
        subst hj
        rw [addr_add _ rfl, Nat.zero_add]
        unfold World.cell?
        simp only [hc]
        exact hf _ hjn
      have hr := run_append_grow (P := P) (w := w) t o.type e i z ht hi hz ⟨gb, 0, none⟩ m cap _ hol hold ⟨g, so, none⟩ k ck news (by rw [h1]; exact hl) hcell (by omega) (by omega) (grow_fitsK (by omega) hby hn)
      have hge := grownCap_ge w (m + k) cap e
      have hm2 : (m + k) * sz = m * sz + k * sz := Nat.add_mul m k sz
      have hml : (m + k) * sz ≤ grownCap w (m + k) cap e * sz := Nat.mul_le_mul_right _ hge
      have hh2 : GrV e sz (w.drew.alloc (.cells (((List.range (m * sz)).map f).toArray ++ news.toArray ++ Builtin.zeroCells z.cells (grownCap w (m + k) cap e - (m + k))) e (0, 0))) (sc w.heap.size 0 (m + k) (grownCap w (m + k) cap e)) (one w.heap.size) (m + k) (catF f (m * sz) F) := by
        refine .inr ⟨w.heap.size, _, rfl, by omega, HE.row_eq (f := appF f (m * sz) news) ⟨_, alloc_at _ _, ?_, hml, fun x hx => ?_⟩ (fun x hx => by rw [heq x hx]), hge, fun q => Iff.rfl⟩
        · simp only [Array.size_append, List.size_toArray, List.length_map, List.length_range, size_zeroCells, hzc, hl]
          have : (grownCap w (m + k) cap e - (m + k)) * sz = grownCap w (m + k) cap e * sz - (m + k) * sz := Nat.mul_sub_right_distrib _ _ _
          have h3 : sz * (grownCap w (m + k) cap e - (m + k)) = (grownCap w (m + k) cap e - (m + k)) * sz := Nat.mul_comm _ _
          omega
        · have hx1 : x < (((List.range (m * sz)).map f).toArray ++ news.toArray).size := by simp [hl]; omega
          rw [Array.getElem?_append_left hx1]
          unfold appF
          by_cases hx2 : x < m * sz
          · rw [if_pos hx2, Array.getElem?_append_left (by simpa using hx2)]
            simp [hx2]
          · rw [if_neg hx2, Array.getElem?_append_right (by simp; omega)]
            simp only [List.size_toArray, List.length_map, List.length_range, List.getElem?_toArray]
            rw [List.getD_eq_getElem?_getD, List.getElem?_eq_getElem (by omega)]
            rfl
      refine ⟨_, _, append_run ho (by rw [eval1 hS hok, eval1 hS hok2, hx, hy]; exact hr), ?_⟩
      rw [hd]
      have hA := hS.mem.stepA j (r' := grR e sz (sc w.heap.size 0 (m + k) (grownCap w (m + k) cap e)) (one w.heap.size) (m + k, catF f (m * sz) F)) hj hh2 ((Fr.alloc w _).to (fun k hk => hk.elim) (fun q hq => .inr (by rw [show q = w.heap.size from hq]; exact Nat.le_refl _)))
      exact h _ _ _ _ hh2 ((hS.to hA).put hdn)

/-- A list that is nothing, told of a block that is there; a row of our own that is not turned any more. -/
theorem WS.addNone (h : WS c H A w) (j : Nat) {b lo hi o k : Nat} {f f' : Nat → Value} (hk : k = 0) (hj : H[j]? = some (b, .fn lo hi f) := by as_aux_lemma => kernel_rfl) : WS c (H ++ [(b, .fn o (o + k) f')]) A w := by
  have hm := List.mem_of_getElem? hj
  refine h.add (HE.fn_none (h.heap _ hm) hk) (fun q => by cases q) (h.free _ hm) (fun e he ho => ?_)
  obtain ⟨i, hi⟩ := List.mem_iff_getElem?.1 he
  intro e1
  have hoe : e.2.own = true := ho.resolve_left (fun q => by cases q)
  by_cases eij : i = j
  · subst eij; rw [hj] at hi; cases hi; cases hoe
  · exact pairwise_get h.apart eij hi hj (.inl hoe) e1
end

/-! ## Lists of elements of some kinds -/
/-- The element at a place. -/
def gtD {α : Type} [Inhabited α] (l : List α) (i : Nat) : α := l.getD i default
theorem gtD_lt {α : Type} [Inhabited α] {l : List α} {i : Nat} (h : i < l.length) : gtD l i = l[i] := by
  unfold gtD; rw [List.getD_eq_getElem?_getD, List.getElem?_eq_getElem h]; rfl
theorem gtD_app {α : Type} [Inhabited α] (l k : List α) (i : Nat) : gtD (l ++ k) i = if i < l.length then gtD l i else gtD k (i - l.length) := by
  unfold gtD
  simp only [List.getD_eq_getElem?_getD, List.getElem?_append]
  split <;> rfl
theorem gtD_set {α : Type} [Inhabited α] (l : List α) (i : Nat) (x : α) (j : Nat) (h : i < l.length) : gtD (l.set i x) j = if j = i then x else gtD l j := by
  unfold gtD
  simp only [List.getD_eq_getElem?_getD, List.getElem?_set]
  by_cases e : i = j
  · subst e; rw [if_pos rfl, if_pos rfl, if_pos h]; rfl
  · rw [if_neg e, if_neg (fun q => e q.symm)]
end Go.Proofs.YtnbkafnikpbmbaaDoor.K
