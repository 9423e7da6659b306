/-
  A row of our own that becomes a slice that grows; parts of a row that are moved, and cleared.
-/
import Derived.Test.YtnbkafnikpbmbaaGreatDoorGe
namespace Go.Proofs.YtnbkafnikpbmbaaGreatDoor.K
set_option linter.unusedSimpArgs false
set_option linter.unusedVariables false

section
variable {P : Program} {c : Cx} {n : Nat} {E : Env} {H : Heap} {A : List Res} {a : Act} {w : World} {o : Oper} {K : Act → World → Prop}
theorem WS.grBack {e sz m tot cap g : Nat} {f : Nat → Value} (h : WS c H [] w) (j : Nat) (l : List Nat) {H' : Heap} (htot : tot = cap * sz) (hm : 0 < m) (hmc : m ≤ cap) (hj : H[j]? = some (g, .row e (m * sz) tot f) := by as_aux_lemma => kernel_rfl)
    (hp : pickH H l = some H' := by as_aux_lemma => kernel_rfl) (hd : distinct l = true := by decide) (hnl : l.all (fun k => !Nat.beq k j) = true := by decide) : WS c H' [grR e sz (sc g 0 m cap) (one g) (m, f)] w := by
  subst htot
  have hq := h.perm l hp hd
  have hne := pick_ne h hp hj rfl hnl
  have hmem := List.mem_of_getElem? hj
  refine ⟨hq.heap, hq.apart, hq.mine, fun e' he hk => ?_, AllAr.one (.inr ⟨g, cap, rfl, hm, h.heap _ hmem, hmc, fun k => Iff.rfl⟩), h.fr.to (fun k hk => .inl hk) (fun k hk => ?_)⟩
  · rcases hk with hk | hk
    · exact hne e' he hk
    · exact hk.elim
  · rcases hk with hk | hk
    · have hk : k = g := hk
      subst hk
      exact (h.mine _ hmem rfl).symm
    · exact hk.elim
/-- What is read is told twice. -/
theorem WS.dup (h : WS c H A w) (j : Nat) {b lo hi : Nat} {f : Nat → Value} (hj : H[j]? = some (b, .fn lo hi f) := by as_aux_lemma => kernel_rfl) : WS c (H ++ [(b, .fn lo hi f)]) A w := by
  have hm := List.mem_of_getElem? hj
  refine h.add (h.heap _ hm) (fun q => by cases q) (fun hn => h.free _ hm hn) (fun e he ho => ?_)
  obtain ⟨i, hi'⟩ := List.getElem?_of_mem he
  have ho : e.2.own = true := ho.resolve_left (by intro q; cases q)
  have hne : i ≠ j := fun q => by
    subst q
    rw [hj] at hi'
    cases hi'
    cases ho
  exact pairwise_get h.apart hne hi' hj (.inl ho)
/-- What is held is let go. -/
theorem WS.forget (h : WS c H A w) (j : Nat) : WS c H (A.eraseIdx j) w :=
  h.dropA [] (fun q hq => (List.eraseIdx_sublist _ _).subset hq) (h.ars.apart.sublist (List.eraseIdx_sublist _ _))
/-- What has grown, beside an arena, as a row of our own. -/
theorem WS.grOpenA {e : TypeId} {sz m : Nat} {v : Value} {F : Nat → Prop} {f : Nat → Value} {r : Res} (h : WS c H [r, grR e sz v F (m, f)] w) (hm : 0 < m) : ∃ g cap, v = sc g 0 m cap ∧ m ≤ cap ∧ WS c (H ++ [(g, .row e (m * sz) (cap * sz) f)]) [r] w := by
  rcases h.ars.each _ (List.mem_cons_of_mem _ (List.mem_singleton.2 rfl)) with ⟨_, h0, _⟩ | ⟨g, cap, hv, h0, hh, hle, hF⟩
  · exact absurd (show m = 0 from h0) (by omega)
  · have hg := (hF g).2 rfl
    have hin : inF [r, grR e sz v F (m, f)] g := .inr (.inl hg)
    refine ⟨g, cap, hv, hle, (h.forget 1).add hh (fun _ => ?_) (fun hn => ?_) (fun e' he ho e1 => h.free _ he (by rw [e1]; exact hin))⟩
    · exact (h.fr.foot g hin).symm
    · rcases hn with hn | hn
      · have := h.ars.apart
        rw [List.pairwise_cons] at this
        exact this.1 _ (List.mem_singleton.2 rfl) g hn hg
      · exact hn
/-- A slice with three bounds, of which nothing is asked. -/
theorem St.slc3 (hS : St c n E H A a w) (t : TypeId) (x lo hi mx : Operand) (ho : o.op = .slice t x (some lo) (some hi) (some mx)) {d : Nat} (hd : o.dst = some d) (hdn : d < n) {e : TypeId} {i : TypeInfo} (ht : P.underlying t = some (.slice e)) (hi1 : P.info? e = some i)
    {ao : Option Addr} {k cp : Nat} {l u q : Int} (h0 : 0 ≤ l) (h1 : l ≤ u) (h2 : u ≤ q) (h3 : q ≤ (cp : Int)) (h : ∀ a' v, St c n (putE E d [] v) H A a' w → K a' w)
    (hok : okO E [] x = true := by as_aux_lemma => kernel_rfl) (okl : okO E [] lo = true := by as_aux_lemma => kernel_rfl) (okh : okO E [] hi = true := by as_aux_lemma => kernel_rfl) (okm : okO E [] mx = true := by as_aux_lemma => kernel_rfl)
    (hx : rho E x = .slice ao k cp := by as_aux_lemma => kernel_rfl) (hl : rho E lo = vi l := by as_aux_lemma => kernel_rfl) (hu : rho E hi = vi u := by as_aux_lemma => kernel_rfl) (hq : rho E mx = vi q := by as_aux_lemma => kernel_rfl) : Runs1 P o a w K := by
  have he : P.elem t = e := by unfold Program.elem; rw [ht]
  have ht2 : P.underlying t = some (.slice (P.elem t)) := by rw [he]; exact ht
  have hsz : (sizeOf (P.elem t)).run P w = .ok i.size w := by rw [he]; simp [sizeOf, typeInfo, program, bind, Sem.bind, Sem.run, hi1, pure]
  refine ⟨sliced ao l.toNat u.toNat q.toNat i.size, w, ?_, ?_⟩
  · have key : (Instr.sliceAt t (.slice ao k cp) (some (vi l)) (some (vi u)) (some (vi q))).run P w = .ok (sliced ao l.toNat u.toNat q.toNat i.size) w := by
      rw [run_sliceAt_slice _ t _ _ _ _ ht2, run_slice_lhm _ t ao k cp ht2 .i64 .i64 .i64 l u q h0 h1 h2 h3, hsz]; rfl
    unfold execOp
    simp only [ho, eval1 hS hok, hx, Option.map_some, eval1 hS okl, hl, eval1 hS okh, hu, eval1 hS okm, hq]
    exact run_value_bind key
  · rw [hd]; exact h _ _ (hS.put hdn)
/-- append of what lies in some cells onto a row of our own that has room. -/
theorem St.appO (hS : St c n E H A a w) (x y : Operand) (t : TypeId) (ho : o.op = .call { callee := .builtin .append, args := #[x, y], argTypes := #[t, t] }) {d : Nat} (hd : o.dst = some d) (hdn : d < n) {e : TypeId} {i : TypeInfo} {sz : Nat} (ht : P.underlying t = some (.slice e)) (hi : P.info? e = some i) (h1 : i.size = sz)
    {b q cp k ck m tot g so : Nat} {ak : Option Addr} {f F : Nat → Value} (j : Nat) (hak : k = 0 ∨ ak = some ⟨g, so, none⟩) (hC : CellsV w g so (k * sz) F) (hone : ∀ z, z < k * sz → (F z).oneCell' = true) (hroom : q + k ≤ cp) (hm : (q + k) * sz ≤ m)
    (h : ∀ a' w', St c n (putE E d [] (sc b 0 (q + k) cp)) (H.set j (b, .row e m tot (segV f (q * sz) (k * sz) F))) A a' w' → K a' w')
    (hok : okO E [] x = true := by as_aux_lemma => kernel_rfl) (hok2 : okO E [] y = true := by as_aux_lemma => kernel_rfl) (hx : rho E x = sc b 0 q cp := by as_aux_lemma => kernel_rfl) (hy : rho E y = .slice ak k ck := by as_aux_lemma => kernel_rfl) (hj : H[j]? = some (b, .row e m tot f) := by as_aux_lemma => kernel_rfl) : Runs1 P o a w K := by
  rcases Nat.eq_zero_or_pos k with hk0 | hk0
  · subst hk0
    have hr : (Builtin.append_ #[t, t] o.type #[sc b 0 q cp, .slice ak 0 ck]).run P w = .ok (sc b 0 q cp) w := run_app0 w t o.type e i ht hi _ ak q cp ck (by omega)
    refine ⟨_, _, append_run ho (by rw [eval1 hS hok, eval1 hS hok2, hx, hy]; exact hr), ?_⟩
    rw [hd]
    have hW := hS.mem.tellR j (segV f (q * sz) (0 * sz) F) (fun o ho => by unfold segV; rw [Nat.zero_mul, if_neg (by omega)]) hj
    exact h _ _ ((hS.to hW).put (d := d) (v := sc b 0 (q + 0) cp) hdn)
  · obtain rfl : ak = some ⟨g, so, none⟩ := hak.resolve_left (by omega)
    obtain ⟨cur, hc, hsz, hmt, hf⟩ := hS.mem.heap _ (List.mem_of_getElem? hj)
    have hl : ((List.range (k * sz)).map F).length = k * sz := by simp
    have hm2 : (q + k) * sz = q * sz + k * sz := Nat.add_mul q k sz
    have hr := run_append_room (P := P) (w := w) t o.type e i ht hi b q cp cur hc ⟨g, so, none⟩ k ck ((List.range (k * sz)).map F) (by rw [h1]; exact hl) (fun z v hz => by
      have hzk : z < k * sz := by have := (List.getElem?_eq_some_iff.1 hz).1; simpa using this
      rw [List.getElem?_map, List.getElem?_range hzk] at hz
      simp only [Option.map_some, Option.some.injEq] at hz
      subst hz
      rw [addr_add _ rfl]; exact hC z hzk) (fun v hv => by
      obtain ⟨z, hz, rfl⟩ := List.mem_map.1 hv
      exact hone z (List.mem_range.1 hz)) hroom (by rw [hl, h1, hsz]; omega)
    rw [hl, h1] at hr
    refine ⟨_, _, append_run ho (by rw [eval1 hS hok, eval1 hS hok2, hx, hy]; exact hr), ?_⟩
    rw [hd]
    have hh := row_seg (n := k * sz) (o := q * sz) (g := F) hc hsz hmt hf (by omega) ((List.range (k * sz)).map F) hl (fun z hz => by rw [List.getElem?_map, List.getElem?_range hz]; rfl)
    exact h _ _ ((hS.to (hS.mem.stepM j hj rfl rfl hh (Fr.setRow _))).put hdn)
/-- clear of elements of a row of our own. -/
theorem St.clearW (hS : St c n E H A a w) (x : Operand) (t : TypeId) (ho : o.op = .call { callee := .builtin .clear, args := #[x], argTypes := #[t] }) (hd : o.dst = none) {e : TypeId} {z : Value} {i : TypeInfo} {sz : Nat} (ht : P.underlying t = some (.slice e)) (hi : P.info? e = some i) (hz : i.zero = some z) (h1 : i.size = sz) (hzc : z.cells.size = sz) (hz2 : ∀ v ∈ z.cells.toList, v.oneCell' = true)
    {b off k cp m tot : Nat} {e2 : TypeId} {f : Nat → Value} (j : Nat) (hk : 0 < k) (hkm : off + k * sz ≤ m) (h : ∀ w', St c n E (H.set j (b, .row e2 m tot (segV f off (k * sz) (fun q => (Builtin.zeroCells z.cells k).toList.getD q undef)))) A a w' → K a w')
    (hok : okO E [] x = true := by as_aux_lemma => kernel_rfl) (hx : rho E x = .slice (some ⟨b, off, none⟩) k cp := by as_aux_lemma => kernel_rfl) (hj : H[j]? = some (b, .row e2 m tot f) := by as_aux_lemma => kernel_rfl) : Runs1 P o a w K := by
  obtain ⟨cur, hc, hsz, hmt, hf⟩ := hS.mem.heap _ (List.mem_of_getElem? hj)
  have hv : ∀ w, (zeroValue e).run P w = .ok z w := fun w => by simp [zeroValue, typeInfo, program, bind, Sem.bind, Sem.run, hi, hz, pure]
  have hzl : (Builtin.zeroCells z.cells k).toList.length = k * sz := by rw [Array.length_toList, size_zeroCells, hzc]
  have hone : ∀ v ∈ (Builtin.zeroCells z.cells k).toList, v.oneCell' = true := fun v hv => by
    unfold Builtin.zeroCells at hv
    simp at hv
    obtain ⟨q, _, rfl⟩ := hv
    rcases Nat.lt_or_ge (q % z.cells.size) z.cells.size with h5 | h5
    · rw [getElem!_pos z.cells _ h5]
      exact hz2 _ (by simp)
    · rw [getElem!_neg z.cells _ (by omega)]; rfl
  have hst := run_storeCells_at P b off e2 (Builtin.zeroCells z.cells k).toList 0 cur w hc (by rw [hzl]; omega) hone
  have hr : (Builtin.clear_ #[t] o.type #[.slice (some ⟨b, off, none⟩) k cp]).run P w = .ok (.tuple #[]) (w.setRow b (cur.toList.take off ++ (Builtin.zeroCells z.cells k).toList ++ cur.toList.drop (off + k * sz)).toArray) := by
    obtain ⟨q, rfl⟩ : ∃ q, k = q + 1 := ⟨k - 1, by omega⟩
    simp only [Nat.add_zero, hzl] at hst
    simp [Builtin.clear_, run_underlying ht, hv, hst]
  refine ⟨_, _, clear_run ho (v := .tuple #[]) (by rw [eval1 hS hok, hx]; exact hr), ?_⟩
  rw [hd]
  have hh := row_seg (n := k * sz) (o := off) (g := fun q => (Builtin.zeroCells z.cells k).toList.getD q undef) hc hsz hmt hf hkm (Builtin.zeroCells z.cells k).toList hzl (fun q hq => by
    rw [List.getD_eq_getElem?_getD, List.getElem?_eq_getElem (by omega)]; rfl)
  exact h _ (hS.to (hS.mem.stepM j hj rfl rfl hh (Fr.setRow _)))
end
end Go.Proofs.YtnbkafnikpbmbaaGreatDoor.K
