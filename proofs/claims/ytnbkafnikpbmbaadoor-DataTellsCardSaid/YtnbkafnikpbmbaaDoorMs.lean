/-
  A map that is gone through.
-/
import Derived.Test.YtnbkafnikpbmbaaDoorMp
import Derived.Maps.RangeRun
namespace Go.Proofs.YtnbkafnikpbmbaaDoor.K
set_option linter.unusedSimpArgs false
set_option linter.unusedVariables false

theorem left_push {es : Array MapEntry} {seen : Array Nat} {e : MapEntry} (he : e ∈ (leftOf es seen).toList) : (leftOf es (seen.push e.born)).size < (leftOf es seen).size := by
  have e1 : leftOf es (seen.push e.born) = (leftOf es seen).filter fun x => x.born != e.born := by
    unfold leftOf
    rw [Array.filter_filter]
    congr 1
    funext x
    by_cases q : x.born = e.born
    · simp [q]
    · have q2 : e.born ≠ x.born := fun h => q h.symm
      simp [q, q2]
  rw [e1]
  rcases Nat.lt_or_ge ((leftOf es seen).filter fun x => x.born != e.born).size (leftOf es seen).size with h | h
  · exact h
  · have hle := Array.size_filter_le (p := fun x => x.born != e.born) (xs := leftOf es seen)
    have heq : ((leftOf es seen).filter fun x => x.born != e.born).size = (leftOf es seen).size := by omega
    have := (Array.filter_size_eq_size).1 heq e (by simpa using he)
    simp at this
/-- A map, and how far it has been gone through: how many entries are left, and which one is in hand. -/
def RgAt (dk : TypeDesc) {α β : Type} (ek : α → Value) (ev : β → Value) (w : World) (b r n : Nat) (f : α → Option β) (left : Nat) (cur : Option (α × β)) : Prop :=
  ∃ es clock seen, w.heap[b]? = some (.map es clock) ∧ w.heap[r]? = some (.mapIter (some b) clock seen clock) ∧ (leftOf es seen).size = left ∧
    (∀ k v, cur = some (k, v) → ∃ e ∈ es.toList, ∃ s0 : Array Nat, seen = s0.push e.born ∧ e.key = ek k ∧ e.val = ev v) ∧ MpAt dk ek ev w b n f
def rgR (dk : TypeDesc) {α β : Type} (ek : α → Value) (ev : β → Value) (b r : Nat) (F : Nat → Prop) (q : (Nat × (α → Option β)) × Nat × Option (α × β)) : Res := ⟨F, fun w => RgAt dk ek ev w b r q.1.1 q.1.2 q.2.1 q.2.2 ∧ ∀ k, F k ↔ k = b ∨ k = r, fun w h k hk => by
  obtain ⟨⟨es, clock, seen, h1, h2, _⟩, hF⟩ := h
  have key : ∀ {k : Nat} {o : Obj}, w.heap[k]? = some o → k < w.heap.size := fun h => by
    rcases Nat.lt_or_ge _ w.heap.size with h3 | h3
    · exact h3
    · rw [Array.getElem?_eq_none h3] at h; exact (nomatch h)
  rcases (hF k).1 hk with rfl | rfl
  · exact key h1
  · exact key h2, fun w w' h he => by
  obtain ⟨⟨es, clock, seen, h1, h2, h3, h4, es2, c2, h5, h6⟩, hF⟩ := h
  have hb := he b ((hF b).2 (.inl rfl))
  exact ⟨⟨es, clock, seen, hb.trans h1, (he r ((hF r).2 (.inr rfl))).trans h2, h3, h4, es2, c2, hb.trans h5, h6⟩, hF⟩⟩
theorem left_all (es : Array MapEntry) : (leftOf es #[]).size = es.size := by
  unfold leftOf
  rw [Array.filter_eq_self.2 (fun x hx => by simp)]
section
variable {P : Program} {c : Cx} {n : Nat} {E : Env} {H : Heap} {A : List Res} {a : Act} {w : World} {o : Oper} {α β : Type} {ek : α → Value} {ev : β → Value} {dk : TypeDesc}
/-- A map begins to be gone through. -/
theorem St.mapRange {K : Act → World → Prop} (hS : St c n E H A a w) (t : TypeId) (x : Operand) (ho : o.op = .range t x) {d : Nat} (hd : o.dst = some d) (hdn : d < n) {b q : Nat} {F : Nat → Prop} {f : α → Option β} (j : Nat) {kt et : TypeId} (ht : P.underlying t = some (.map kt et))
    (h : ∀ a' w' r F', St c n (putE E d [] (pt r 0)) H (A.set j (rgR dk ek ev b r F' ((q, f), q, none))) a' w' → K a' w') (hj : A[j]? = some (mpR dk ek ev b F (q, f)) := by rfl)
    (hok : okO E [] x = true := by as_aux_lemma => kernel_rfl) (hx : rho E x = .map (some b) := by as_aux_lemma => kernel_rfl) : Runs1 P o a w K := by
  obtain ⟨hM, hF⟩ : MpAt dk ek ev w b q f ∧ ∀ k, F k ↔ k = b := hS.mem.ars.each _ (List.mem_of_getElem? hj)
  obtain ⟨es, clock, k1, k2, k3⟩ := id hM
  have hlt : b < w.heap.size := by
    rcases Nat.lt_or_ge b w.heap.size with h3 | h3
    · exact h3
    · rw [Array.getElem?_eq_none h3] at k1; exact (nomatch k1)
  refine ⟨pt w.heap.size 0, w.alloc (.mapIter (some b) clock #[] clock), ?_, ?_⟩
  · have key : (Instr.range t (.map (some b))).run P w = .ok (pt w.heap.size 0) (w.alloc (.mapIter (some b) clock #[] clock)) := by
      simp [Instr.range, run_underlying ht, MapKept.run_getObj_map k1, Result.andThen]
    unfold execOp
    simp only [ho, eval1 hS hok, hx]
    exact run_value_bind key
  · rw [hd]
    have hold : ∀ k, k < w.heap.size → (w.alloc (.mapIter (some b) clock #[] clock)).heap[k]? = w.heap[k]? := fun k hk => (Fr.alloc0 w _).block k hk (fun h => h)
    have hr : (rgR dk ek ev b w.heap.size (fun k => k = b ∨ k = w.heap.size) ((q, f), q, none)).R (w.alloc (.mapIter (some b) clock #[] clock)) := by
      refine ⟨⟨es, clock, #[], (hold b hlt).trans k1, alloc0_at _ _, (left_all es).trans k2, fun k v e => (by cases e), ?_⟩, fun k => Iff.rfl⟩
      obtain ⟨es2, c2, k4, k5⟩ := hM
      exact ⟨es2, c2, (hold b hlt).trans k4, k5⟩
    have hf : Fr w (w.alloc (.mapIter (some b) clock #[] clock)) F (fun k => k = b ∨ k = w.heap.size) := by
      have := Fr.alloc0 w (.mapIter (some b) clock #[] clock)
      exact ⟨this.os, this.tape, this.output, this.size, fun k hk _ => hold k hk, fun k hk => hk.imp (fun e => (hF k).2 e) (fun e => Nat.le_of_eq e.symm)⟩
    exact h _ _ _ _ ((hS.to (hS.mem.stepA j (r' := rgR dk ek ev b w.heap.size (fun k => k = b ∨ k = w.heap.size) ((q, f), q, none)) hj hr hf)).put hdn)
/-- The next entry, if there is one left. -/
theorem St.mapNext {K : Act → World → Prop} (hS : St c n E H A a w) (x : Operand) (ho : o.op = .next x false) {d : Nat} (hd : o.dst = some d) (hdn : d < n) {b r q left : Nat} {F : Nat → Prop} {f : α → Option β} {cur : Option (α × β)} (j : Nat)
    (h0 : left = 0 → ∀ a', St c n (putE E d [] (.tuple #[vb false])) H A a' w → K a' w)
    (h : ∀ a' w' k v left', f k = some v → left' < left → St c n (putE E d [] (.tuple #[vb true, ek k, ev v])) H (A.set j (rgR dk ek ev b r F ((q, f), left', some (k, v)))) a' w' → K a' w') (hj : A[j]? = some (rgR dk ek ev b r F ((q, f), left, cur)) := by rfl)
    (hok : okO E [] x = true := by as_aux_lemma => kernel_rfl) (hx : rho E x = pt r 0 := by as_aux_lemma => kernel_rfl) : Runs1 P o a w K := by
  obtain ⟨hR, hF⟩ : RgAt dk ek ev w b r q f left cur ∧ ∀ k, F k ↔ k = b ∨ k = r := hS.mem.ars.each _ (List.mem_of_getElem? hj)
  obtain ⟨es, clock, seen, k1, k2, k3, k4, es2, c2, k5, k6, k7, k8, k9, k10, k11⟩ := hR
  rw [k1] at k5; cases k5
  rcases run_next_at (P := P) w o.type r b clock clock seen es clock k2 k1 k10 (Nat.le_refl _) with ⟨g1, g2⟩ | ⟨e, he, w1, hw1, g2⟩
  · refine ⟨.tuple #[vb false], w, ?_, ?_⟩
    · unfold execOp
      simp only [ho, eval1 hS hok, hx]
      exact run_value_bind g2
    · rw [hd]; exact h0 (k3.symm.trans g1) _ (hS.put hdn)
  · have hee : e ∈ es.toList := by
      unfold leftOf at he
      simp at he ⊢; exact he.1
    obtain ⟨kk, vv, e1, e2, e3⟩ := k7 e hee
    refine ⟨.tuple #[vb true, ek kk, ev vv], Go.ChangeMaps.setBlock w1 r (.mapIter (some b) clock (seen.push e.born) clock), ?_, ?_⟩
    · rw [e1, e2] at g2
      unfold execOp
      simp only [ho, eval1 hS hok, hx]
      exact run_value_bind g2
    · rw [hd]
      have hne : b ≠ r := fun e => by rw [e, k2] at k1; cases k1
      have hw : w1.heap = w.heap ∧ w1.os = w.os ∧ w1.tape = w.tape ∧ w1.output = w.output := by rcases hw1 with rfl | rfl <;> exact ⟨rfl, rfl, rfl, rfl⟩
      have hk2 : w1.heap[r]? = some (.mapIter (some b) clock seen clock) := by rw [hw.1]; exact k2
      have hs : ∀ o', (w1.heap.setIfInBounds r o')[r]? = some o' ∧ ∀ r', r' ≠ r → (w1.heap.setIfInBounds r o')[r']? = w1.heap[r']? := fun o' => MapKept.heap_set hk2
      have hb : (Go.ChangeMaps.setBlock w1 r (.mapIter (some b) clock (seen.push e.born) clock)).heap[b]? = some (.map es clock) := by
        have := (hs (.mapIter (some b) clock (seen.push e.born) clock)).2 b hne
        rw [hw.1] at this
        refine Eq.trans ?_ (this.trans k1)
        unfold Go.ChangeMaps.setBlock; rw [hw.1]
      have hrr : (Go.ChangeMaps.setBlock w1 r (.mapIter (some b) clock (seen.push e.born) clock)).heap[r]? = some (.mapIter (some b) clock (seen.push e.born) clock) := by
        have := (hs (.mapIter (some b) clock (seen.push e.born) clock)).1
        refine Eq.trans ?_ this
        unfold Go.ChangeMaps.setBlock; rfl
      have hr : (rgR dk ek ev b r F ((q, f), (leftOf es (seen.push e.born)).size, some (kk, vv))).R (Go.ChangeMaps.setBlock w1 r (.mapIter (some b) clock (seen.push e.born) clock)) :=
        ⟨⟨es, clock, _, hb, hrr, rfl, fun k v q => by cases q; exact ⟨e, hee, seen, rfl, e1, e2⟩, es, clock, hb, k6, k7, k8, k9, k10, k11⟩, hF⟩
      have hf : Fr w (Go.ChangeMaps.setBlock w1 r (.mapIter (some b) clock (seen.push e.born) clock)) F F := by
        refine ⟨hw.2.1, hw.2.2.1, hw.2.2.2, ?_, fun k hk hn => ?_, fun k hk => .inl hk⟩
        · unfold Go.ChangeMaps.setBlock; simp [hw.1]
        · have := (hs (.mapIter (some b) clock (seen.push e.born) clock)).2 k (fun q => hn ((hF k).2 (.inr q)))
          rw [hw.1] at this
          refine Eq.trans ?_ this
          unfold Go.ChangeMaps.setBlock; rw [hw.1]
      exact h _ _ kk vv _ e3 (by rw [← k3]; exact left_push he) ((hS.to (hS.mem.stepA j (r' := rgR dk ek ev b r F ((q, f), (leftOf es (seen.push e.born)).size, some (kk, vv))) hj hr hf)).put hdn)
/-- The entry in hand. -/
theorem St.mapEntry {K : Act → World → Prop} (hS : St c n E H A a w) (x : Operand) (ho : o.op = .entry x) {d : Nat} (hd : o.dst = some d) (hdn : d < n) {b r q left : Nat} {F : Nat → Prop} {f : α → Option β} {kk : α} {vv : β} (j : Nat)
    (h : ∀ a', St c n (putE E d [] (.tuple #[ek kk, ev vv])) H A a' w → K a' w) (hj : A[j]? = some (rgR dk ek ev b r F ((q, f), left, some (kk, vv))) := by rfl)
    (hok : okO E [] x = true := by as_aux_lemma => kernel_rfl) (hx : rho E x = pt r 0 := by as_aux_lemma => kernel_rfl) : Runs1 P o a w K := by
  obtain ⟨hR, hF⟩ : RgAt dk ek ev w b r q f left (some (kk, vv)) ∧ ∀ k, F k ↔ k = b ∨ k = r := hS.mem.ars.each _ (List.mem_of_getElem? hj)
  obtain ⟨es, clock, seen, k1, k2, k3, k4, es2, c2, k5, k6, k7, k8, k9, k10, k11⟩ := hR
  rw [k1] at k5; cases k5
  obtain ⟨e, he, s0, rfl, e1, e2⟩ := k4 kk vv rfl
  have g := run_entry_at (P := P) w r b clock s0 es clock e k2 k1 he k11
  refine ⟨.tuple #[ek kk, ev vv], w, ?_, ?_⟩
  · rw [e1, e2] at g
    unfold execOp
    simp only [ho, eval1 hS hok, hx]
    exact run_value_bind g
  · rw [hd]; exact h _ (hS.put hdn)
/-- It has been gone through. -/
theorem WS.mapDone {c : Cx} {H : Heap} {A : List Res} {w : World} {b r q left : Nat} {F : Nat → Prop} {f : α → Option β} {cur : Option (α × β)} (h : WS c H A w) (j : Nat) (hj : A[j]? = some (rgR dk ek ev b r F ((q, f), left, cur)) := by rfl) : WS c H (A.set j (mpR dk ek ev b (one b) (q, f))) w := by
  obtain ⟨hR, hF⟩ : RgAt dk ek ev w b r q f left cur ∧ ∀ k, F k ↔ k = b ∨ k = r := h.ars.each _ (List.mem_of_getElem? hj)
  obtain ⟨es, clock, seen, k1, k2, k3, k4, hM⟩ := hR
  refine h.stepA j (r' := mpR dk ek ev b (one b) (q, f)) hj ⟨hM, fun k => Iff.rfl⟩ ?_
  exact ⟨rfl, rfl, rfl, Nat.le_refl _, fun _ _ _ => rfl, fun k hk => .inl ((hF k).2 (.inl hk))⟩
end
end Go.Proofs.YtnbkafnikpbmbaaDoor.K
