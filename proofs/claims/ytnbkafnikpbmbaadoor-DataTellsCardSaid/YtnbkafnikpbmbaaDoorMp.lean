/-
  Maps, as something that a walk holds.
-/
import Derived.Test.YtnbkafnikpbmbaaDoorM5
import Derived.MapKept
namespace Go.Proofs.YtnbkafnikpbmbaaDoor.K
set_option linter.unusedSimpArgs false
set_option linter.unusedVariables false

/-- What a map holds: for each key what stands there, and how many keys there are. -/
def MpAt (d : TypeDesc) {α β : Type} (ek : α → Value) (ev : β → Value) (w : World) (b n : Nat) (f : α → Option β) : Prop :=
  ∃ es clock, w.heap[b]? = some (.map es clock) ∧ es.size = n ∧ (∀ x ∈ es.toList, ∃ k v, x.key = ek k ∧ x.val = ev v ∧ f k = some v) ∧ (es.toList.map (·.key)).Nodup ∧ (∀ k v, f k = some v → ∃ x ∈ es.toList, x.key = ek k ∧ x.val = ev v) ∧ (∀ x ∈ es.toList, x.born < clock) ∧ (es.toList.map (·.born)).Nodup
def mpR (d : TypeDesc) {α β : Type} (ek : α → Value) (ev : β → Value) (b : Nat) (F : Nat → Prop) (q : Nat × (α → Option β)) : Res := ⟨F, fun w => MpAt d ek ev w b q.1 q.2 ∧ ∀ k, F k ↔ k = b, fun w h k hk => by
  obtain ⟨⟨es, clock, h1, _⟩, hF⟩ := h
  rw [(hF k).1 hk]
  rcases Nat.lt_or_ge b w.heap.size with h2 | h2
  · exact h2
  · rw [Array.getElem?_eq_none h2] at h1; exact (nomatch h1), fun w w' h he => by
  obtain ⟨⟨es, clock, h1, h2⟩, hF⟩ := h
  exact ⟨⟨es, clock, (he b ((hF b).2 rfl)).trans h1, h2⟩, hF⟩⟩
def updO {α β : Type} [DecidableEq α] (f : α → Option β) (k : α) (v : β) (x : α) : Option β := if x = k then some v else f x
def updN {α β : Type} (n : Nat) (f : α → Option β) (k : α) : Nat := match f k with | some _ => n | none => n + 1

section
variable {P : Program} {c : Cx} {n : Nat} {E : Env} {H : Heap} {A : List Res} {a : Act} {w : World} {o : Oper} {α β : Type} {ek : α → Value} {ev : β → Value} {dk : TypeDesc}

/-- A new map. -/
theorem St.mapNew {K : Act → World → Prop} (hS : St c n E H A a w) (t : TypeId) (ho : o.op = .makeMap t none) {d : Nat} (hd : o.dst = some d) (hdn : d < n) (dk : TypeDesc) (ek : α → Value) (ev : β → Value)
    (h : ∀ a' w' b, c.w0.heap.size ≤ b → St c n (putE E d [] (.map (some b))) H (A ++ [mpR dk ek ev b (one b) (0, fun _ => none)]) a' w' → K a' w') : Runs1 P o a w K := by
  refine ⟨.map (some w.heap.size), w.alloc (.map #[] 0), ?_, ?_⟩
  · unfold execOp
    simp only [ho]
    rfl
  · rw [hd]
    have hr : (mpR dk ek ev w.heap.size (one w.heap.size) (0, fun _ => none)).R (w.alloc (.map #[] 0)) :=
      ⟨⟨#[], 0, alloc0_at _ _, rfl, (fun x hx => by simp at hx), by simp, (fun k v q => by cases q), (fun x hx => by simp at hx), by simp⟩, fun k => Iff.rfl⟩
    have hf : Fr w (w.alloc (.map #[] 0)) no (one w.heap.size) := by
      have := Fr.alloc0 w (.map #[] 0)
      exact ⟨this.os, this.tape, this.output, this.size, this.block, fun k hk => .inr (Nat.le_of_eq (show w.heap.size = k from (show k = w.heap.size from hk).symm))⟩
    exact h _ _ _ hS.mem.fr.size ((hS.to (hS.mem.newA (r := mpR dk ek ev w.heap.size (one w.heap.size) (0, fun _ => none)) hr hf)).put hdn)

theorem MpAt.find {b q : Nat} {f : α → Option β} (h : MpAt dk ek ev w b q f) (hk : ∀ k, MapKept.IsKey dk (ek k)) (hi : ∀ k k', ek k = ek k' → k = k') (k : α) :
    ∃ es clock, w.heap[b]? = some (.map es clock) ∧ es.size = q ∧ ((f k = none ∧ Instr.findNow dk (ek k) es.toList 0 = some none) ∨ ∃ j v, f k = some v ∧ Instr.findNow dk (ek k) es.toList 0 = some (some (j, ev v)) ∧ ∃ e, es[j]? = some e ∧ e.key = ek k) := by
  obtain ⟨es, clock, h1, h2, h3, h4, h5, _, _⟩ := h
  refine ⟨es, clock, h1, h2, ?_⟩
  rcases MapKept.findNow_spec (hk k) es.toList 0 (fun x hx => by obtain ⟨k', v, e, _⟩ := h3 x hx; rw [e]; exact hk k') with ⟨g1, g2⟩ | ⟨j, e, g1, g2, g3⟩
  · left
    refine ⟨?_, g1⟩
    cases hf : f k with
    | none => rfl
    | some v => obtain ⟨x, hx, e1, _⟩ := h5 k v hf; exact absurd e1 (g2 x hx)
  · right
    obtain ⟨k', v, e1, e2, e3⟩ := h3 e (List.mem_of_getElem? g2)
    have : k' = k := hi _ _ (e1.symm.trans g3)
    subst this
    refine ⟨j, v, e3, ?_, e, by rw [← Array.getElem?_toList]; exact g2, g3⟩
    rw [g1, e2, Nat.zero_add]
/-- A value is laid at a key. -/
theorem MpAt.put {b q : Nat} {f : α → Option β} [DecidableEq α] (h : MpAt dk ek ev w b q f) (hk : ∀ k, MapKept.IsKey dk (ek k)) (hi : ∀ k k', ek k = ek k' → k = k') {t kt et : TypeId} (ht : P.underlying t = some (.map kt et)) (hd : P.underlying kt = some dk) (k : α) (v : β) :
    ∃ w', (Instr.mapUpdate t (.map (some b)) (ek k) (ev v)).run P w = .ok () w' ∧ MpAt dk ek ev w' b (updN q f k) (updO f k v) ∧ Fr w w' (one b) (one b) := by
  have hfr : ∀ o o', w.heap[b]? = some o → Fr w { w with heap := w.heap.setIfInBounds b o' } (one b) (one b) := fun o o' hb => by
    refine ⟨rfl, rfl, rfl, by simp, fun j hj hn => (MapKept.heap_set hb).2 j hn, fun j hj => .inl hj⟩
  obtain ⟨es0, c0, k1, k2, k3, k4, k5, k6, k7⟩ := id h
  obtain ⟨es, clock, h1, h2, hf⟩ := h.find hk hi k
  rw [k1] at h1; cases h1
  rcases hf with ⟨f1, g1⟩ | ⟨j, v0, f1, g1, e, g2, g3⟩
  · refine ⟨_, ?_, ?_, hfr _ (.map (es0.push { key := ek k, val := ev v, born := c0 }) (c0 + 1)) k1⟩
    · simp [Instr.mapUpdate, run_underlying ht, MapKept.run_getObj_map k1, MapKept.run_checkKey hd (hk k), MapKept.run_findKey hd g1, MapKept.run_setObj_map _ k1, Result.andThen]
    · refine ⟨es0.push { key := ek k, val := ev v, born := c0 }, c0 + 1, (MapKept.heap_set k1).1, by rw [Array.size_push, k2]; unfold updN; rw [f1], fun x hx => ?_, ?_, fun k' v' e' => ?_, ?_, ?_⟩
      · rw [Array.toList_push] at hx
        rcases List.mem_append.1 hx with hx | hx
        · obtain ⟨k', v', e1, e2, e3⟩ := k3 x hx
          refine ⟨k', v', e1, e2, ?_⟩
          unfold updO
          rw [if_neg (fun q => by rw [q, f1] at e3; cases e3)]; exact e3
        · obtain rfl := List.mem_singleton.1 hx
          exact ⟨k, v, rfl, rfl, by unfold updO; rw [if_pos rfl]⟩
      · rw [Array.toList_push, List.map_append, List.nodup_append]
        refine ⟨k4, by simp, fun x hx y hy e' => ?_⟩
        obtain ⟨z, hz, rfl⟩ := List.mem_map.1 hx
        obtain rfl : y = ek k := by simpa using hy
        obtain ⟨k', v', e1, _, e3⟩ := k3 z hz
        have : k' = k := hi _ _ (e1.symm.trans e')
        rw [this, f1] at e3; cases e3
      · rw [Array.toList_push]
        unfold updO at e'
        split at e'
        · rename_i q; subst q; cases e'
          exact ⟨_, List.mem_append_right _ (List.mem_singleton.2 rfl), rfl, rfl⟩
        · obtain ⟨x, hx, e1, e2⟩ := k5 k' v' e'
          exact ⟨x, List.mem_append_left _ hx, e1, e2⟩
      · intro x hx
        rw [Array.toList_push] at hx
        rcases List.mem_append.1 hx with hx | hx
        · exact Nat.lt_succ_of_lt (k6 x hx)
        · obtain rfl := List.mem_singleton.1 hx; exact Nat.lt_succ_self _
      · rw [Array.toList_push, List.map_append, List.nodup_append]
        refine ⟨k7, by simp, fun x hx y hy e' => ?_⟩
        obtain ⟨z, hz, rfl⟩ := List.mem_map.1 hx
        have := k6 z hz
        have hy : y = c0 := by simpa using hy
        omega
  · have hjl : j < es0.size := (Array.getElem?_eq_some_iff.1 g2).1
    have hej : es0[j] = e := (Array.getElem?_eq_some_iff.1 g2).2
    refine ⟨_, ?_, ?_, hfr _ (.map (es0.modify j fun e => { e with key := ek k, val := ev v }) c0) k1⟩
    · simp [Instr.mapUpdate, run_underlying ht, MapKept.run_getObj_map k1, MapKept.run_checkKey hd (hk k), MapKept.run_findKey hd g1, g2, g3, MapKept.run_keyThatStays (hk k), MapKept.run_setObj_map _ k1, Result.andThen]
    · have hm : ∀ x, x ∈ (es0.modify j fun e => { e with key := ek k, val := ev v }).toList → (x ∈ es0.toList ∧ x.key ≠ ek k) ∨ (x.key = ek k ∧ x.val = ev v) := fun x hx => by
        obtain ⟨i, hi2, rfl⟩ := List.mem_iff_getElem.1 hx
        have hi3 : i < es0.size := by simpa using hi2
        by_cases q : j = i
        · right; subst q; simp
        · left
          have e9 : (es0.modify j fun e => { e with key := ek k, val := ev v }).toList[i] = es0[i] := by simp [q]
          rw [e9]
          refine ⟨by simp, fun e8 => q ?_⟩
          have hn := List.pairwise_iff_getElem.1 k4
          rcases Nat.lt_trichotomy j i with l | l | l
          · exact (hn j i (by simpa using hjl) (by simpa using hi3) l (by simp [hej, g3, e8])).elim
          · exact l
          · exact (hn i j (by simpa using hi3) (by simpa using hjl) l (by simp [hej, g3, e8])).elim
      refine ⟨_, c0, (MapKept.heap_set k1).1, by rw [Array.size_modify, k2]; unfold updN; rw [f1], fun x hx => ?_, ?_, fun k' v' e' => ?_, ?_, ?_⟩
      · rcases hm x hx with ⟨h8, h9⟩ | ⟨h8, h9⟩
        · obtain ⟨k', v', e1, e2, e3⟩ := k3 x h8
          refine ⟨k', v', e1, e2, ?_⟩
          unfold updO
          rw [if_neg (fun q => h9 (by rw [e1, q]))]; exact e3
        · exact ⟨k, v, h8, h9, by unfold updO; rw [if_pos rfl]⟩
      · have e9 : (es0.modify j fun e => { e with key := ek k, val := ev v }).toList.map (·.key) = es0.toList.map (·.key) := by
          refine List.ext_getElem (by simp) fun i h8 h9 => ?_
          have hi3 : i < es0.size := by simpa using h9
          by_cases q : j = i
          · subst q; simp [hej, g3]
          · simp [q]
        rw [e9]; exact k4
      · unfold updO at e'
        split at e'
        · rename_i q; subst q; cases e'
          refine ⟨{ e with key := ek k', val := ev v }, ?_, rfl, rfl⟩
          refine List.mem_iff_getElem.2 ⟨j, by simpa using hjl, ?_⟩
          simp [hej]
        · rename_i q
          obtain ⟨x, hx, e1, e2⟩ := k5 k' v' e'
          refine ⟨x, ?_, e1, e2⟩
          obtain ⟨i, hi2, rfl⟩ := List.mem_iff_getElem.1 hx
          have hi3 : i < es0.size := by simpa using hi2
          have hne : j ≠ i := fun q2 => by subst q2; exact q (hi _ _ (e1.symm.trans (by simp [hej, g3])))
          refine List.mem_iff_getElem.2 ⟨i, by simpa using hi3, ?_⟩
          simp [hne]
      · intro x hx
        obtain ⟨i, hi2, rfl⟩ := List.mem_iff_getElem.1 hx
        have hi3 : i < es0.size := by simpa using hi2
        have := k6 es0[i] (by simp)
        by_cases q : j = i
        · subst q; simp; exact this
        · simp [q]; exact this
      · have e9 : (es0.modify j fun e => { e with key := ek k, val := ev v }).toList.map (·.born) = es0.toList.map (·.born) := by
          refine List.ext_getElem (by simp) fun i h8 h9 => ?_
          have hi3 : i < es0.size := by simpa using h9
          by_cases q : j = i
          · subst q; simp
          · simp [q]
        rw [e9]; exact k7

/-- An operation that answers nothing. -/
def Runs0 (P : Program) (o : Oper) (a : Act) (w : World) (K : Act → World → Prop) : Prop := ∃ w', (execOp a.eval o).run P w = .ok .skip w' ∧ K a w'
theorem Runs0.list {ops : Array Oper} {Q : Exit → Act → World → Prop} {rest : List Oper} (h : Runs0 P o a w (wpList P ops Q rest)) (hd : o.dst = none := by rfl) (hg : o.guard = none := by rfl) : wpList P ops Q (o :: rest) a w := by
  obtain ⟨w', h1, h2⟩ := h
  unfold wpList
  rw [if_pos (by simp [Region.wanted, hg])]
  refine .inl ?_
  unfold Oper.wp
  rw [h1, Oper.upon_skip, hd]
  exact h2
/-- A value is laid in a map that is held. -/
theorem St.mapPut {K : Act → World → Prop} (hS : St c n E H A a w) [DecidableEq α] (t : TypeId) (x y z : Operand) (ho : o.op = .mapUpdate t x y z) {b q : Nat} {F : Nat → Prop} {f : α → Option β} (j : Nat) (kk : α) (vv : β) (hk : ∀ k, MapKept.IsKey dk (ek k)) (hi : ∀ k k', ek k = ek k' → k = k') {kt et : TypeId} (ht : P.underlying t = some (.map kt et)) (hd : P.underlying kt = some dk)
    (h : ∀ w', St c n E H (A.set j (mpR dk ek ev b F (updN q f kk, updO f kk vv))) a w' → K a w') (hj : A[j]? = some (mpR dk ek ev b F (q, f)) := by rfl)
    (hok : okO E [] x = true := by as_aux_lemma => kernel_rfl) (hok2 : okO E [] y = true := by as_aux_lemma => kernel_rfl) (hok3 : okO E [] z = true := by as_aux_lemma => kernel_rfl) (hx : rho E x = .map (some b) := by as_aux_lemma => kernel_rfl) (hy : rho E y = ek kk := by as_aux_lemma => kernel_rfl) (hz : rho E z = ev vv := by as_aux_lemma => kernel_rfl) : Runs0 P o a w K := by
  obtain ⟨hM, hF⟩ : MpAt dk ek ev w b q f ∧ ∀ k, F k ↔ k = b := hS.mem.ars.each _ (List.mem_of_getElem? hj)
  obtain ⟨w', h1, h2, h3⟩ := hM.put hk hi ht hd kk vv
  have e : one b = F := funext fun k => propext (hF k).symm
  rw [e] at h3
  refine ⟨w', ?_, h _ (hS.to (hS.mem.stepA j (r' := mpR dk ek ev b F (updN q f kk, updO f kk vv)) hj ⟨h2, hF⟩ h3))⟩
  unfold execOp
  simp only [ho, eval1 hS hok, eval1 hS hok2, eval1 hS hok3, hx, hy, hz]
  simp [h1, Result.andThen]
end
end Go.Proofs.YtnbkafnikpbmbaaDoor.K
