/-
  Maps: keys that go, how many there are, whether one is there.
-/
import Derived.Test.YtnbkafnikpbmbaaDoorMs
namespace Go.Proofs.YtnbkafnikpbmbaaDoor.K
set_option linter.unusedSimpArgs false
set_option linter.unusedVariables false

def updD {α β : Type} [DecidableEq α] (f : α → Option β) (k : α) (x : α) : Option β := if x = k then none else f x
def delN {α β : Type} (n : Nat) (f : α → Option β) (k : α) : Nat := match f k with | some _ => n - 1 | none => n

section
variable {P : Program} {c : Cx} {n : Nat} {E : Env} {H : Heap} {A : List Res} {a : Act} {w : World} {o : Oper} {α β : Type} {ek : α → Value} {ev : β → Value} {dk : TypeDesc}
/-- A key goes. -/
theorem MpAt.del {b q : Nat} {f : α → Option β} [DecidableEq α] (h : MpAt dk ek ev w b q f) (hk : ∀ k, MapKept.IsKey dk (ek k)) (hi2 : ∀ k k', ek k = ek k' → k = k') {t kt et ty : TypeId} (ht : P.underlying t = some (.map kt et)) (hd : P.underlying kt = some dk) (k : α) :
    ∃ w', (Builtin.delete_ #[t, kt] ty #[.map (some b), ek k]).run P w = .ok (.tuple #[]) w' ∧ MpAt dk ek ev w' b (delN q f k) (updD f k) ∧ Fr w w' (one b) (one b) := by
  have hfr : ∀ o o', w.heap[b]? = some o → Fr w { w with heap := w.heap.setIfInBounds b o' } (one b) (one b) := fun o o' hb => by
    refine ⟨rfl, rfl, rfl, by simp, fun j hj hn => (MapKept.heap_set hb).2 j hn, fun j hj => .inl hj⟩
  obtain ⟨es0, c0, k1, k2, k3, k4, k5, k6, k7⟩ := id h
  obtain ⟨es, clock, h1, h2, hf⟩ := h.find hk hi2 k
  rw [k1] at h1; cases h1
  rcases hf with ⟨f1, g1⟩ | ⟨j, v0, f1, g1, e, g2, g3⟩
  · refine ⟨_, ?_, ?_, hfr _ (.map es0 c0) k1⟩
    · simp [Builtin.delete_, run_underlying ht, MapKept.run_getObj_map k1, MapKept.run_checkKey hd (hk k), MapKept.run_findKey hd g1, MapKept.run_setObj_map _ k1, Result.andThen]
    · have e1 : updD f k = f := funext fun x => by
        unfold updD; split
        · rename_i q; rw [q, f1]
        · rfl
      have e2 : delN q f k = q := by unfold delN; rw [f1]
      rw [e1, e2]
      exact ⟨es0, c0, (MapKept.heap_set k1).1, k2, k3, k4, k5, k6, k7⟩
  · have hjl : j < es0.size := (Array.getElem?_eq_some_iff.1 g2).1
    have hsub : (es0.eraseIdxIfInBounds j).toList = es0.toList.eraseIdx j := by
      unfold Array.eraseIdxIfInBounds
      rw [dif_pos hjl]
      simp
    have hl : (es0.toList.eraseIdx j).Sublist es0.toList := List.eraseIdx_sublist _ _
    have hjt : es0.toList[j]? = some e := by rw [Array.getElem?_toList]; exact g2
    have hne : ∀ x, x ∈ es0.toList.eraseIdx j → x.key ≠ ek k := fun x hx hq => by
      obtain ⟨i, hi1, hi2⟩ := List.mem_eraseIdx_iff_getElem?.1 hx
      have hn := List.pairwise_iff_getElem.1 k4
      obtain ⟨b1, b2⟩ := List.getElem?_eq_some_iff.1 hi2
      obtain ⟨b3, b4⟩ := List.getElem?_eq_some_iff.1 hjt
      rcases Nat.lt_trichotomy j i with l | l | l
      · exact hn j i (by simpa using b3) (by simpa using b1) l (by simp only [List.getElem_map]; rw [b2, b4, g3, hq])
      · exact hi1 l.symm
      · exact hn i j (by simpa using b1) (by simpa using b3) l (by simp only [List.getElem_map]; rw [b2, b4, g3, hq])
    refine ⟨_, ?_, ?_, hfr _ (.map (es0.eraseIdxIfInBounds j) c0) k1⟩
    · simp [Builtin.delete_, run_underlying ht, MapKept.run_getObj_map k1, MapKept.run_checkKey hd (hk k), MapKept.run_findKey hd g1, MapKept.run_setObj_map _ k1, Result.andThen]
    · refine ⟨_, c0, (MapKept.heap_set k1).1, ?_, ?_, ?_, ?_, ?_, ?_⟩
      · have : (es0.eraseIdxIfInBounds j).toList.length = es0.size - 1 := by rw [hsub, List.length_eraseIdx_of_lt (by simpa using hjl)]; simp
        unfold delN; rw [f1]
        have e9 : (es0.eraseIdxIfInBounds j).size = (es0.eraseIdxIfInBounds j).toList.length := Array.length_toList.symm
        rw [e9, this, k2]
      · rw [hsub]
        intro x hx
        obtain ⟨k', v', e1, e2, e3⟩ := k3 x (hl.subset hx)
        refine ⟨k', v', e1, e2, ?_⟩
        unfold updD
        rw [if_neg (fun q => hne x hx (by rw [e1, q]))]; exact e3
      · rw [hsub]; exact (hl.map _).nodup k4
      · rw [hsub]
        intro k' v' e'
        unfold updD at e'
        split at e'
        · cases e'
        · rename_i q
          obtain ⟨x, hx, e1, e2⟩ := k5 k' v' e'
          refine ⟨x, ?_, e1, e2⟩
          obtain ⟨i, hi⟩ := List.getElem?_of_mem hx
          refine List.mem_eraseIdx_iff_getElem?.2 ⟨i, fun q2 => ?_, hi⟩
          subst q2
          rw [hjt] at hi; cases hi
          exact q (hi2 _ _ (e1.symm.trans g3))
      · rw [hsub]; exact fun x hx => k6 x (hl.subset hx)
      · rw [hsub]; exact (hl.map _).nodup k7
theorem delete_run {x y : Operand} {ts : Array TypeId} (ho : o.op = .call { callee := .builtin .delete, args := #[x, y], argTypes := ts }) {v : Value} {w' : World} (hr : (Builtin.delete_ ts o.type #[a.eval x, a.eval y]).run P w = .ok v w') : (execOp a.eval o).run P w = .ok (.value v) w' := by
  unfold execOp
  simp only [ho, resolve, invoke, builtin, Sem.run_bind, Sem.run_pure, Result.andThen_ok, List.map_toArray, List.map_cons, List.map_nil, hr]
theorem len_run {x : Operand} {ts : Array TypeId} (ho : o.op = .call { callee := .builtin .len, args := #[x], argTypes := ts }) {v : Value} {w' : World} (hr : (Builtin.len_ ts o.type #[a.eval x]).run P w = .ok v w') : (execOp a.eval o).run P w = .ok (.value v) w' := by
  unfold execOp
  simp only [ho, resolve, invoke, builtin, Sem.run_bind, Sem.run_pure, Result.andThen_ok, List.map_toArray, List.map_cons, List.map_nil, hr]
/-- A key of a map that is held goes. -/
theorem St.mapDel {K : Act → World → Prop} (hS : St c n E H A a w) [DecidableEq α] (t kt : TypeId) (x y : Operand) (ho : o.op = .call { callee := .builtin .delete, args := #[x, y], argTypes := #[t, kt] }) (hdn : o.dst = none) {b q : Nat} {F : Nat → Prop} {f : α → Option β} (j : Nat) (kk : α) (hk : ∀ k, MapKept.IsKey dk (ek k)) (hi : ∀ k k', ek k = ek k' → k = k') {et : TypeId} (ht : P.underlying t = some (.map kt et)) (hd : P.underlying kt = some dk)
    (h : ∀ w', St c n E H (A.set j (mpR dk ek ev b F (delN q f kk, updD f kk))) a w' → K a w') (hj : A[j]? = some (mpR dk ek ev b F (q, f)) := by rfl)
    (hok : okO E [] x = true := by as_aux_lemma => kernel_rfl) (hok2 : okO E [] y = true := by as_aux_lemma => kernel_rfl) (hx : rho E x = .map (some b) := by as_aux_lemma => kernel_rfl) (hy : rho E y = ek kk := by as_aux_lemma => kernel_rfl) : Runs1 P o a w K := by
  obtain ⟨hM, hF⟩ : MpAt dk ek ev w b q f ∧ ∀ k, F k ↔ k = b := hS.mem.ars.each _ (List.mem_of_getElem? hj)
  obtain ⟨w', h1, h2, h3⟩ := hM.del (ty := o.type) hk hi ht hd kk
  have e : one b = F := funext fun k => propext (hF k).symm
  rw [e] at h3
  refine ⟨_, w', delete_run ho (by rw [eval1 hS hok, eval1 hS hok2, hx, hy]; exact h1), ?_⟩
  rw [hdn]
  exact h _ (hS.to (hS.mem.stepA j (r' := mpR dk ek ev b F (delN q f kk, updD f kk)) hj ⟨h2, hF⟩ h3))
/-- How many keys there are. -/
theorem St.mapLen {K : Act → World → Prop} (hS : St c n E H A a w) (t : TypeId) (x : Operand) (ho : o.op = .call { callee := .builtin .len, args := #[x], argTypes := #[t] }) {d : Nat} (hd1 : o.dst = some d) (hdn : d < n) {b q : Nat} {F : Nat → Prop} {f : α → Option β} (j : Nat) {kt et : TypeId} (ht : P.underlying t = some (.map kt et))
    (h : ∀ a', St c n (putE E d [] (vi ((q : Nat) : Int))) H A a' w → K a' w) (hj : A[j]? = some (mpR dk ek ev b F (q, f)) := by rfl)
    (hok : okO E [] x = true := by as_aux_lemma => kernel_rfl) (hx : rho E x = .map (some b) := by as_aux_lemma => kernel_rfl) : Runs1 P o a w K := by
  obtain ⟨⟨es, clock, k1, k2, _⟩, hF⟩ : MpAt dk ek ev w b q f ∧ ∀ k, F k ↔ k = b := hS.mem.ars.each _ (List.mem_of_getElem? hj)
  refine ⟨vi ((q : Nat) : Int), w, len_run ho ?_, ?_⟩
  · rw [eval1 hS hok, hx]
    simp [Builtin.len_, run_underlying ht, MapKept.run_getObj_map k1, goInt, k2]
  · rw [hd1]; exact h _ (hS.put hdn)
/-- What stands at a key, and whether it is there. -/
theorem St.mapGet2 {K : Act → World → Prop} (hS : St c n E H A a w) (t : TypeId) (x y : Operand) (ho : o.op = .lookup t x y true) {d : Nat} (hd1 : o.dst = some d) (hdn : d < n) {b q : Nat} {F : Nat → Prop} {f : α → Option β} (j : Nat) (kk : α) (z0 : β) (hk : ∀ k, MapKept.IsKey dk (ek k)) (hi : ∀ k k', ek k = ek k' → k = k') {kt et : TypeId} (ht : P.underlying t = some (.map kt et)) (hd : P.underlying kt = some dk) (hz : ∀ w, (zeroValue et).run P w = .ok (ev z0) w)
    (h : ∀ a', St c n (putE E d [] (.tuple #[ev ((f kk).getD z0), vb (f kk).isSome])) H A a' w → K a' w) (hj : A[j]? = some (mpR dk ek ev b F (q, f)) := by rfl)
    (hok : okO E [] x = true := by as_aux_lemma => kernel_rfl) (hok2 : okO E [] y = true := by as_aux_lemma => kernel_rfl) (hx : rho E x = .map (some b) := by as_aux_lemma => kernel_rfl) (hy : rho E y = ek kk := by as_aux_lemma => kernel_rfl) : Runs1 P o a w K := by
  obtain ⟨hM, hF⟩ : MpAt dk ek ev w b q f ∧ ∀ k, F k ↔ k = b := hS.mem.ars.each _ (List.mem_of_getElem? hj)
  obtain ⟨es, clock, k1, k2, hf⟩ := hM.find hk hi kk
  refine ⟨.tuple #[ev ((f kk).getD z0), vb (f kk).isSome], w, ?_, ?_⟩
  · have key : (Instr.lookup t (.map (some b)) (ek kk) true).run P w = .ok (.tuple #[ev ((f kk).getD z0), vb (f kk).isSome]) w := by
      rcases hf with ⟨f1, g1⟩ | ⟨i, v0, f1, g1, _⟩
      · simp [Instr.lookup, run_underlying ht, MapKept.run_getObj_map k1, MapKept.run_checkKey hd (hk kk), MapKept.run_findKey hd g1, Result.andThen, hz, f1]
      · simp [Instr.lookup, run_underlying ht, MapKept.run_getObj_map k1, MapKept.run_checkKey hd (hk kk), MapKept.run_findKey hd g1, Result.andThen, f1]
    unfold execOp
    simp only [ho, eval1 hS hok, eval1 hS hok2, hx, hy]
    exact run_value_bind key
  · rw [hd1]; exact h _ (hS.put hdn)
end
end Go.Proofs.YtnbkafnikpbmbaaDoor.K
