/-
  Slices that grow from nothing, or from an empty row that is there, as something that a walk holds.
-/
import Derived.Test.YtnbkafnikpbmbaaDoorUa
namespace Go.Proofs.YtnbkafnikpbmbaaDoor.K
set_option linter.unusedSimpArgs false
set_option linter.unusedVariables false

def GeV (e : TypeId) (sz : Nat) (w : World) (v : Value) (F : Nat → Prop) (n : Nat) (f : Nat → Value) : Prop := GrV e sz w v F n f ∨ ((∃ a, v = .slice (some a) 0 0) ∧ n = 0 ∧ ∀ k, ¬ F k)
theorem GeV.slice {e : TypeId} {sz : Nat} {w : World} {v : Value} {F : Nat → Prop} {n : Nat} {f : Nat → Value} (h : GeV e sz w v F n f) : ∃ x c, v = .slice x n c := by
  rcases h with h | ⟨⟨a, rfl⟩, rfl, _⟩
  · exact h.slice
  · exact ⟨_, _, rfl⟩
def geR (e : TypeId) (sz : Nat) (v : Value) (F : Nat → Prop) (q : Nat × (Nat → Value)) : Res := ⟨F, fun w => GeV e sz w v F q.1 q.2, fun w h k hk => by
  rcases h with h | ⟨_, _, h⟩
  · exact (grR e sz v F q).lt w h k hk
  · exact absurd hk (h k), fun w w' h he => by
  rcases h with h | h
  · exact .inl ((grR e sz v F q).cg w w' h he)
  · exact .inr h⟩

section
variable {P : Program} {c : Cx} {n : Nat} {E : Env} {H : Heap} {A : List Res} {a : Act} {w : World} {o : Oper}
theorem WS.geOf {e : TypeId} {sz : Nat} {v : Value} {F : Nat → Prop} {q : Nat × (Nat → Value)} (h : WS c H A w) (j : Nat) (hj : A[j]? = some (grR e sz v F q) := by rfl) : WS c H (A.set j (geR e sz v F q)) w :=
  h.stepA j (r' := geR e sz v F q) hj (.inl (h.ars.each _ (List.mem_of_getElem? hj))) ((Fr.refl w no).to (fun k hk => hk.elim) (fun k hk => .inl hk))
/-- A list that begins with an empty row. -/
theorem WS.geNew (h : WS c H A w) (e : TypeId) (sz : Nat) (g : Nat) (f : Nat → Value) : WS c H (A ++ [geR e sz (sc g 0 0 0) no (0, f)]) w :=
  h.newA (r := geR e sz (sc g 0 0 0) no (0, f)) (.inr ⟨⟨⟨g, 0, none⟩, rfl⟩, rfl, fun k hk => hk⟩) ((Fr.refl w no).to (fun k hk => hk.elim) (fun k hk => hk.elim))
theorem WS.geNil (h : WS c H A w) (e : TypeId) (sz : Nat) (f : Nat → Value) : WS c H (A ++ [geR e sz vnil no (0, f)]) w :=
  h.newA (r := geR e sz vnil no (0, f)) (.inl (.inl ⟨rfl, rfl, fun k hk => hk⟩)) ((Fr.refl w no).to (fun k hk => hk.elim) (fun k hk => hk.elim))
theorem GeV.tell {e : TypeId} {sz m : Nat} {v : Value} {F : Nat → Prop} {f f' : Nat → Value} (h : GeV e sz w v F m f) (hf : ∀ x, x < m * sz → f x = f' x) : GeV e sz w v F m f' := by
  rcases h with (h | ⟨gb, cap, rfl, h0, hrow, hcap, hF⟩) | h
  · exact .inl (.inl h)
  · exact .inl (.inr ⟨gb, cap, rfl, h0, HE.row_eq hrow (fun x hx => (hf x hx).symm), hcap, hF⟩)
  · exact .inr h
theorem WS.geTell {e : TypeId} {sz m : Nat} {v : Value} {F : Nat → Prop} {f : Nat → Value} (h : WS c H A w) (j : Nat) (f' : Nat → Value) (hf : ∀ x, x < m * sz → f x = f' x) (hj : A[j]? = some (geR e sz v F (m, f)) := by rfl) : WS c H (A.set j (geR e sz v F (m, f'))) w :=
  h.stepA j (r' := geR e sz v F (m, f')) hj (GeV.tell (h.ars.each _ (List.mem_of_getElem? hj)) hf) ((Fr.refl w no).to (fun k hk => hk.elim) (fun k hk => .inl hk))
theorem WS.geRe {e : TypeId} {sz m m' : Nat} {v v' : Value} {F : Nat → Prop} {f : Nat → Value} (h : WS c H A w) (j : Nat) (hv : v = v') (hm : m = m') (hj : A[j]? = some (geR e sz v F (m, f)) := by rfl) : WS c H (A.set j (geR e sz v' F (m', f))) w := by
  subst hv; subst hm
  exact h.stepA j (r' := geR e sz v F (m, f)) hj (h.ars.each _ (List.mem_of_getElem? hj)) ((Fr.refl w no).to (fun k hk => hk.elim) (fun k hk => .inl hk))
/-- What has grown becomes a list that is shared. -/
theorem WS.geList {e sz m : Nat} {F : Nat → Prop} {f : Nat → Value} {ao : Option Addr} {c2 : Nat} (h : WS c H A w) (j k : Nat) {b lo hi : Nat} {fd : Nat → Value} (hj : A[j]? = some (geR e sz (.slice ao m c2) F (m, f)) := by rfl) (hk : H[k]? = some (b, .fn lo hi fd) := by as_aux_lemma => kernel_rfl) (h2 : Nat) (hh : 0 + m * sz = h2) :
    ∃ g, (m = 0 ∨ ao = some ⟨g, 0, none⟩) ∧ m ≤ c2 ∧ WS c (H ++ [(g, .fn 0 h2 f)]) (A.eraseIdx j) w := by
  subst hh
  have hjl : j < A.length := (List.getElem?_eq_some_iff.1 hj).1
  rcases h.ars.each _ (List.mem_of_getElem? hj) with hg | ⟨_, h0, _⟩
  · have h2 := h.stepA j (r' := grR e sz (.slice ao m c2) F (m, f)) hj hg ((Fr.refl w no).to (fun k hk => hk.elim) (fun k hk => .inl hk))
    obtain ⟨g, h3, h4⟩ := h2.grList j k (by rw [List.getElem?_set_self hjl]) hk
    refine ⟨g, h3, ?_, by rw [List.eraseIdx_set_eq] at h4; exact h4⟩
    rcases hg with ⟨e1, e2, _⟩ | ⟨gb, cap, e1, _, _, h5, _⟩
    · have e2 : m = 0 := e2; omega
    · cases e1; exact h5
  · have h0 : m = 0 := h0
    have hd : WS c H (A.eraseIdx j) w := h.dropA [] (fun q hq => (List.eraseIdx_sublist _ _).subset hq) (h.ars.apart.sublist (List.eraseIdx_sublist _ _))
    exact ⟨b, .inl h0, by omega, hd.addNone k (by rw [h0, Nat.zero_mul]) hk⟩
/-- append of what lies in cells: k elements. -/
theorem St.appLE {K : Act → World → Prop} {v : Value} {Fv : Nat → Prop} {m sz : Nat} {f : Nat → Value} {e : TypeId} (j : Nat) (hS : St c n E H A a w) (x y : Operand) (t : TypeId) (ho : o.op = .call { callee := .builtin .append, args := #[x, y], argTypes := #[t, t] }) {d : Nat} (hd : o.dst = some d) (hdn : d < n) {z : Value} {i : TypeInfo} (ht : P.underlying t = some (.slice e)) (hi : P.info? e = some i) (hz : i.zero = some z) (h1 : i.size = sz) (hby : i.bytes ≤ 64) (hzc : z.cells.size = sz) (hsz : 0 < sz)
    {ak : Option Addr} {k ck g so : Nat} {F : Nat → Value} (hak : k = 0 ∨ ak = some ⟨g, so, none⟩) (hC : CellsV w g so (k * sz) F) (hone : ∀ q, q < k * sz → (F q).oneCell' = true) (hn : m + k ≤ 2 ^ 32)
    (h : ∀ a' w' v' F', GeV e sz w' v' F' (m + k) (catF f (m * sz) F) → St c n (putE E d [] v') H (A.set j (geR e sz v' F' (m + k, catF f (m * sz) F))) a' w' → K a' w')
    (hj : A[j]? = some (geR e sz v Fv (m, f)) := by rfl)
    (hok : okO E [] x = true := by as_aux_lemma => kernel_rfl) (hok2 : okO E [] y = true := by as_aux_lemma => kernel_rfl) (hx : rho E x = v := by as_aux_lemma => kernel_rfl) (hy : rho E y = .slice ak k ck := by as_aux_lemma => kernel_rfl) : Runs1 P o a w K := by
  have hjl : j < A.length := (List.getElem?_eq_some_iff.1 hj).1
  have hB : GeV e sz w v Fv m f := hS.mem.ars.each _ (List.mem_of_getElem? hj)
  rcases hB with hB | ⟨⟨ga, rfl⟩, rfl, hF⟩
  · have hS2 := hS.to (hS.mem.stepA j (r' := grR e sz v Fv (m, f)) hj hB ((Fr.refl w no).to (fun k hk => hk.elim) (fun k hk => .inl hk)))
    refine St.appL (v := v) (Fv := Fv) (m := m) (f := f) j hS2 x y t ho hd hdn ht hi hz h1 hby hzc hsz hak hC hone hn (fun a' w' v' F' hV hS3 => h a' w' v' F' (.inl hV) ?_) (by rw [List.getElem?_set_self hjl]) hok hok2 hx hy
    rw [List.set_set] at hS3
    have h4 := hS3.to (hS3.mem.stepA j (r := grR e sz v' F' (m + k, catF f (m * sz) F)) (r' := geR e sz v' F' (m + k, catF f (m * sz) F)) (by rw [List.getElem?_set_self hjl]) (.inl hV) ((Fr.refl w' no).to (fun k hk => hk.elim) (fun k hk => .inl hk)))
    rw [List.set_set] at h4
    exact h4
  · rcases Nat.eq_zero_or_pos k with hk0 | hk0
    · subst hk0
      have hG : GeV e sz w (.slice (some ga) 0 0) Fv (0 + 0) (catF f (0 * sz) F) := .inr ⟨⟨ga, rfl⟩, rfl, hF⟩
      have hr : (Builtin.append_ #[t, t] o.type #[.slice (some ga) 0 0, .slice ak 0 ck]).run P w = .ok (.slice (some ga) 0 0) w := run_app0 w t o.type e i ht hi _ ak 0 0 ck (Nat.le_refl _)
      refine ⟨_, _, append_run ho (by rw [eval1 hS hok, eval1 hS hok2, hx, hy]; exact hr), ?_⟩
      rw [hd]
      have hA := hS.mem.stepA j (r' := geR e sz (.slice (some ga) 0 0) Fv (0 + 0, catF f (0 * sz) F)) hj hG ((Fr.refl w no).to (fun k hk => hk.elim) (fun k hk => .inl hk))
      exact h _ _ _ _ hG ((hS.to hA).put hdn)
    obtain rfl : ak = some ⟨g, so, none⟩ := hak.resolve_left (by omega)
    have hl : ((List.range (k * sz)).map F).length = k * sz := by simp
    have heq : ∀ x, x < k * sz → catF f (0 * sz) F x = appF f (0 * sz) ((List.range (k * sz)).map F) x := fun x hx => (appF_cat (by omega)).symm
    have hcell : ∀ j u, ((List.range (k * sz)).map F)[j]? = some u → w.cell? ((⟨g, so, none⟩ : Addr).add j) = some u := by
      intro j u hj
      have hjk : j < k * sz := by have := (List.getElem?_eq_some_iff.1 hj).1; simpa using this
      rw [List.getElem?_map, List.getElem?_range hjk] at hj
      simp only [Option.map_some, Option.some.injEq] at hj
      subst hj
      rw [addr_add _ rfl]; exact hC j hjk
    generalize hnews : (List.range (k * sz)).map F = news at hl hcell heq
    have hksz : 0 < k * sz := Nat.mul_pos hk0 hsz
    have hr := run_append_grow (P := P) (w := w) t o.type e i z ht hi hz ga 0 0 [] (by simp) (fun j v q => by simp at q) ⟨g, so, none⟩ k ck news (by rw [h1]; exact hl) hcell (by omega) (by omega) (grow_fitsK (by omega) hby hn)
    have hge := grownCap_ge w (0 + k) 0 e
    have hh : GeV e sz (w.drew.alloc (.cells (#[] ++ news.toArray ++ Builtin.zeroCells z.cells (grownCap w (0 + k) 0 e - (0 + k))) e (0, 0))) (sc w.heap.size 0 (0 + k) (grownCap w (0 + k) 0 e)) (one w.heap.size) (0 + k) (catF f (0 * sz) F) := by
      refine .inl (.inr ⟨w.heap.size, _, rfl, by omega, HE.row_eq (f := appF f (0 * sz) news) ⟨_, alloc_at _ _, ?_, Nat.mul_le_mul_right _ hge, fun x hx => ?_⟩ (fun x hx => by rw [heq x (by rw [Nat.zero_add] at hx; exact hx)]), hge, fun q => Iff.rfl⟩)
      · simp only [Array.size_append, List.size_toArray, List.size_toArray, size_zeroCells, hzc, hl]
        have h1 : (0 + k) * sz ≤ grownCap w (0 + k) 0 e * sz := Nat.mul_le_mul_right _ hge
        have h2 : (grownCap w (0 + k) 0 e - (0 + k)) * sz = grownCap w (0 + k) 0 e * sz - (0 + k) * sz := Nat.mul_sub_right_distrib _ _ _
        have h3 : sz * (grownCap w (0 + k) 0 e - (0 + k)) = (grownCap w (0 + k) 0 e - (0 + k)) * sz := Nat.mul_comm _ _
        have h4 : (0 + k) * sz = k * sz := by rw [Nat.zero_add]
        simp only [List.length_nil]
        omega
      · rw [Nat.zero_add] at hx
        rw [Array.getElem?_append_left (by simp; omega)]
        unfold appF
        rw [Nat.zero_mul, if_neg (by omega), Nat.sub_zero]
        simp only [Array.empty_append, List.getElem?_toArray]
        rw [List.getD_eq_getElem?_getD, List.getElem?_eq_getElem (by omega)]
        rfl
    refine ⟨_, _, append_run ho (by rw [eval1 hS hok, eval1 hS hok2, hx, hy]; exact hr), ?_⟩
    rw [hd]
    have hA := hS.mem.stepA j (r' := geR e sz (sc w.heap.size 0 (0 + k) (grownCap w (0 + k) 0 e)) (one w.heap.size) (0 + k, catF f (0 * sz) F)) hj hh ((Fr.alloc w _).to (fun k hk => hk.elim) (fun q hq => .inr (by rw [show q = w.heap.size from hq]; exact Nat.le_refl _)))
    exact h _ _ _ _ hh ((hS.to hA).put hdn)
/-- append of one element. -/
theorem St.appVE {K : Act → World → Prop} {v : Value} {Fv : Nat → Prop} {m sz : Nat} {f : Nat → Value} {e : TypeId} (j : Nat) (hS : St c n E H A a w) (x y : Operand) (t : TypeId) (ho : o.op = .call { callee := .builtin .append, args := #[x, y], argTypes := #[t, t] }) {d : Nat} (hd : o.dst = some d) (hdn : d < n) {z : Value} {i : TypeInfo} (ht : P.underlying t = some (.slice e)) (hi : P.info? e = some i) (hz : i.zero = some z) (h1 : i.size = sz) (hby : i.bytes ≤ 64) (hzc : z.cells.size = sz) (hsz : 0 < sz)
    {bx cx : Nat} {news : List Value} {Tx : TypeId} (ix : Nat) (hone : news.all (fun u => u.oneCell') = true) (hl : news.length = sz) (hn : m + 1 ≤ 2 ^ 32)
    (h : ∀ a' w' v' F', GeV e sz w' v' F' (m + 1) (appF f (m * sz) news) → St c n (putE E d [] v') H (A.set j (geR e sz v' F' (m + 1, appF f (m * sz) news))) a' w' → K a' w')
    (hj : A[j]? = some (geR e sz v Fv (m, f)) := by rfl) (hbx : H[ix]? = some (bx, .cells news Tx) := by as_aux_lemma => kernel_rfl)
    (hok : okO E [] x = true := by as_aux_lemma => kernel_rfl) (hok2 : okO E [] y = true := by as_aux_lemma => kernel_rfl) (hx : rho E x = v := by as_aux_lemma => kernel_rfl) (hy : rho E y = sc bx 0 1 cx := by as_aux_lemma => kernel_rfl) : Runs1 P o a w K := by
  have hxh : HE.holds w bx (.cells news Tx) := hS.mem.heap _ (List.mem_of_getElem? hbx)
  have hC : CellsV w bx 0 (1 * sz) (fun j => news.getD (0 + j) undef) := CellsV.cells hxh (by omega)
  refine St.appLE (m := m) (f := f) j hS x y t ho hd hdn ht hi hz h1 hby hzc hsz (.inr rfl) hC (fun q hq => ?_) hn (fun a' w' v' F' hV hS2 => ?_) hj hok hok2 hx hy
  · rw [Nat.zero_add, List.getD_eq_getElem?_getD, List.getElem?_eq_getElem (by omega)]
    exact List.all_eq_true.1 hone _ (List.getElem_mem _)
  · have e9 : catF f (m * sz) (fun j => news.getD (0 + j) undef) = appF f (m * sz) news := by
      funext x; unfold catF appF; simp only [Nat.zero_add]
    rw [e9] at hV hS2
    exact h _ _ _ _ hV hS2
end
theorem sadd_or (cap lo off z : Nat) : (cap = lo ∧ sadd cap lo off z = off) ∨ sadd cap lo off z = off + lo * z := by
  by_cases h : cap = lo
  · left; refine ⟨h, ?_⟩; unfold sadd; simp [h]
  · right; exact sadd_ne h
theorem gtD_takeQ {α : Type} [Inhabited α] (L : List α) (k : Nat) : ∀ i, i < (L.take k).length → gtD (L.take k) i = gtD L (0 + i) := fun i hi => by
  rw [List.length_take] at hi
  rw [Nat.zero_add]
  unfold gtD
  rw [List.getD_eq_getElem?_getD, List.getD_eq_getElem?_getD, List.getElem?_take, if_pos (by omega)]
theorem gtD_dropQ {α : Type} [Inhabited α] (L : List α) (k : Nat) : ∀ i, i < (L.drop k).length → gtD (L.drop k) i = gtD L (k + i) := fun i hi => by
  unfold gtD
  rw [List.getD_eq_getElem?_getD, List.getD_eq_getElem?_getD, List.getElem?_drop]
theorem s1V_catS (l k L : List ByteArray) (o q off n : Nat) (hoff : k.length = 0 ∨ off = o + q) (hn : n = k.length) (h : ∀ i, i < k.length → gtD k i = gtD L (q + i)) : ∀ x, x < (l.length + n) * 1 → catF (s1V (gtD l) 0) (l.length * 1) (fun j => s1V (gtD L) o (off + j)) x = s1V (gtD (l ++ k)) 0 x := by
  intro x hx
  unfold catF
  by_cases h1 : x < l.length * 1
  · rw [if_pos h1]; exact s1V_cg0 (n := l.length) (fun i hi => by rw [gtD_app, if_pos hi]) x h1
  · rw [if_neg h1]
    unfold s1V
    have e := h (x - l.length) (by omega)
    rw [Nat.sub_zero, gtD_app, if_neg (by omega), e]
    dsimp only
    rw [show off + (x - l.length * 1) - o = q + (x - l.length) by omega]
end Go.Proofs.YtnbkafnikpbmbaaDoor.K
