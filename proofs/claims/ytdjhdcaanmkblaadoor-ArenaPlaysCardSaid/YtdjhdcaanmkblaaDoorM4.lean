import Derived.Test.YtdjhdcaanmkblaaDoorM3
import Derived.Test.YtdjhdcaanmkblaaDoorProg
/-
  A walk by computing: slices that grow from nothing, by elements of any number of cells, as something that a walk holds.
-/
namespace Go.Proofs.YtdjhdcaanmkblaaDoor.K
set_option linter.unusedSimpArgs false
set_option linter.unusedVariables false

/-- What a slice that grows holds: so many elements, of sz cells each. -/
def GrV (e : TypeId) (sz : Nat) (w : World) (v : Value) (F : Nat → Prop) (n : Nat) (f : Nat → Value) : Prop :=
  (v = vnil ∧ n = 0 ∧ ∀ k, ¬ F k) ∨ ∃ g cap, v = sc g 0 n cap ∧ 0 < n ∧ HE.holds w g (.row e (n * sz) (cap * sz) f) ∧ n ≤ cap ∧ ∀ k, F k ↔ k = g

theorem GrV.slice {e : TypeId} {sz : Nat} {w : World} {v : Value} {F : Nat → Prop} {n : Nat} {f : Nat → Value} (h : GrV e sz w v F n f) : ∃ x c, v = .slice x n c := by
  rcases h with ⟨rfl, rfl, _⟩ | ⟨g, cap, rfl, _⟩
  · exact ⟨none, 0, rfl⟩
  · exact ⟨_, _, rfl⟩

def grR (e : TypeId) (sz : Nat) (v : Value) (F : Nat → Prop) (q : Nat × (Nat → Value)) : Res := ⟨F, fun w => GrV e sz w v F q.1 q.2, fun w h k hk => by
  rcases h with ⟨_, _, h⟩ | ⟨g, cap, _, _, h, _, hF⟩
  · exact absurd hk (h k)
  · rw [(hF k).1 hk]; exact h.lt, fun w w' h he => by
  rcases h with h | ⟨g, cap, h1, h2, h3, h4, hF⟩
  · exact .inl h
  · exact .inr ⟨g, cap, h1, h2, h3.congr (he g ((hF g).2 rfl)), h4, hF⟩⟩

theorem grow_fits {n cap bytes : Nat} (h : cap < n + 1) (hb : bytes ≤ 64) (hn : n + 1 ≤ 2 ^ 32) : Builtin.nextslicecap (n + 1) cap * bytes ≤ 281474976710656 := growslice_fits (by omega) (by
  have : (n + 1) * bytes ≤ 2 ^ 32 * 64 := Nat.mul_le_mul hn hb
  omega)

section
variable {P : Program} {c : Cx} {n : Nat} {E : Env} {H : Heap} {A : List Res} {a : Act} {w : World} {o : Oper}

theorem gr_room {e : TypeId} {sz : Nat} {w : World} {g cap n : Nat} {f : Nat → Value} (hrow : HE.holds w g (.row e (n * sz) (cap * sz) f)) (hr : n + 1 ≤ cap) {news : List Value} (hl : news.length = sz) :
    ∃ cur, w.heap[g]? = some (.cells cur e (0, 0)) ∧ cur.size = cap * sz ∧ n * sz + news.length ≤ cur.size ∧
      HE.holds (w.setRow g (cur.toList.take (n * sz) ++ news ++ cur.toList.drop (n * sz + news.length)).toArray) g (.row e ((n + 1) * sz) (cap * sz) (appF f (n * sz) news)) := by
  obtain ⟨cur, hc, hsz, hnt, hf⟩ := hrow
  have hcl : cur.toList.length = cap * sz := by simpa using hsz
  have hm : (n + 1) * sz ≤ cap * sz := Nat.mul_le_mul_right _ hr
  have hm2 : (n + 1) * sz = n * sz + sz := Nat.succ_mul n sz
  refine ⟨cur, hc, hsz, by omega, ⟨_, setRow_heap w g cur _ e _ hc, ?_, hm, fun x hx => ?_⟩⟩
  · simp only [List.size_toArray, List.length_append, List.length_take, List.length_drop, hcl]
    omega
  · rw [List.getElem?_toArray]
    unfold appF
    by_cases hx2 : x < n * sz
    · rw [if_pos hx2, List.append_assoc, List.getElem?_append_left (by rw [List.length_take, hcl]; omega), List.getElem?_take_of_lt hx2, Array.getElem?_toList]
      exact hf x hx2
    · rw [if_neg hx2, List.append_assoc, List.getElem?_append_right (by rw [List.length_take, hcl]; omega), List.length_take, hcl, show min (n * sz) (cap * sz) = n * sz by omega, List.getElem?_append_left (by omega), List.getD_eq_getElem?_getD, List.getElem?_eq_getElem (by omega)]
      rfl

/-- append of one element. -/
theorem St.appV {K : Act → World → Prop} {v : Value} {Fv : Nat → Prop} {m sz : Nat} {f : Nat → Value} {e : TypeId} (j : Nat) (hS : St c n E H A a w) (x y : Operand) (t : TypeId) (ho : o.op = .call { callee := .builtin .append, args := #[x, y], argTypes := #[t, t] }) {d : Nat} (hd : o.dst = some d) (hdn : d < n) {z : Value} {i : TypeInfo} (ht : P.underlying t = some (.slice e)) (hi : P.info? e = some i) (hz : i.zero = some z) (h1 : i.size = sz) (hby : i.bytes ≤ 64) (hzc : z.cells.size = sz) (hsz : 0 < sz)
    {bx cx : Nat} {news : List Value} {Tx : TypeId} (ix : Nat) (hone : news.all (fun u => u.oneCell') = true) (hl : news.length = sz) (hn : m + 1 ≤ 2 ^ 32)
    (h : ∀ a' w' v' F', GrV e sz w' v' F' (m + 1) (appF f (m * sz) news) → St c n (putE E d [] v') H (A.set j (grR e sz v' F' (m + 1, appF f (m * sz) news))) a' w' → K a' w')
    (hj : A[j]? = some (grR e sz v Fv (m, f)) := by rfl) (hbx : H[ix]? = some (bx, .cells news Tx) := by as_aux_lemma => kernel_rfl)
    (hok : okO E [] x = true := by as_aux_lemma => kernel_rfl) (hok2 : okO E [] y = true := by as_aux_lemma => kernel_rfl) (hx : rho E x = v := by as_aux_lemma => kernel_rfl) (hy : rho E y = sc bx 0 1 cx := by as_aux_lemma => kernel_rfl) : Runs1 P o a w K := by
  have hB : GrV e sz w v Fv m f := hS.mem.ars.each _ (List.mem_of_getElem? hj)
  have hxh : w.heap[bx]? = some (.cells news.toArray Tx (0, 0)) := hS.mem.heap _ (List.mem_of_getElem? hbx)
  have hcell : ∀ j u, news[j]? = some u → w.cell? ((⟨bx, 0, none⟩ : Addr).add j) = some u := by
    intro j u hj
    rw [addr_add _ rfl, Nat.zero_add]
    unfold World.cell?
    simp only [hxh]
    simpa using hj
  have hone' : ∀ u ∈ news, u.oneCell' = true := fun u hu => List.all_eq_true.1 hone u hu
  rcases hB with ⟨rfl, rfl, hF⟩ | ⟨gb, cap, rfl, h0, hrow, hcap, hF⟩
  · have hr := run_append_nil (P := P) (w := w) t o.type e i z ht hi hz ⟨bx, 0, none⟩ 1 cx news (by omega) hcell (by omega) (by omega) (by omega)
    have hge := grownCap_ge w 1 0 e
    have hh : GrV e sz (w.drew.alloc (.cells (news.toArray ++ Builtin.zeroCells z.cells (grownCap w 1 0 e - 1)) e (0, 0))) (sc w.heap.size 0 1 (grownCap w 1 0 e)) (one w.heap.size) (0 + 1) (appF f (0 * sz) news) := by
      refine .inr ⟨w.heap.size, grownCap w 1 0 e, rfl, by omega, ⟨_, alloc_at _ _, ?_, Nat.mul_le_mul_right _ hge, fun x hx => ?_⟩, hge, fun q => Iff.rfl⟩
      · simp only [Array.size_append, List.size_toArray, size_zeroCells, hzc, hl]
        have h1 : 1 * sz ≤ grownCap w 1 0 e * sz := Nat.mul_le_mul_right _ hge
        have h2 : (grownCap w 1 0 e - 1) * sz = grownCap w 1 0 e * sz - 1 * sz := Nat.mul_sub_right_distrib _ _ _
        have h3 : sz * (grownCap w 1 0 e - 1) = (grownCap w 1 0 e - 1) * sz := Nat.mul_comm _ _
        omega
      · rw [Array.getElem?_append_left (by simp; omega)]
        unfold appF
        rw [Nat.zero_mul, if_neg (by omega), Nat.sub_zero, List.getElem?_toArray, List.getD_eq_getElem?_getD, List.getElem?_eq_getElem (by omega)]
        rfl
    refine ⟨_, _, append_run ho (by rw [eval1 hS hok, eval1 hS hok2, hx, hy]; exact hr), ?_⟩
    rw [hd]
    have hA := hS.mem.stepA j (r' := grR e sz (sc w.heap.size 0 1 (grownCap w 1 0 e)) (one w.heap.size) (0 + 1, appF f (0 * sz) news)) hj hh ((Fr.alloc w _).to (fun k hk => hk.elim) (fun q hq => .inr (by rw [show q = w.heap.size from hq]; exact Nat.le_refl _)))
    exact h _ _ _ _ hh ((hS.to hA).put hdn)
  · by_cases hroom : m + 1 ≤ cap
    · obtain ⟨cur, hc, hcs, hfit, hh⟩ := gr_room hrow hroom hl
      have hr := run_append_room (P := P) w t o.type e i ht hi gb m cap cur hc ⟨bx, 0, none⟩ 1 cx news (by rw [h1, Nat.one_mul]; exact hl) hcell hone' hroom (by rw [h1]; exact hfit)
      rw [h1] at hr
      have hh2 : GrV e sz (w.setRow gb (cur.toList.take (m * sz) ++ news ++ cur.toList.drop (m * sz + news.length)).toArray) (sc gb 0 (m + 1) cap) (one gb) (m + 1) (appF f (m * sz) news) := .inr ⟨gb, cap, rfl, by omega, hh, hroom, fun q => Iff.rfl⟩
      refine ⟨_, _, append_run ho (by rw [eval1 hS hok, eval1 hS hok2, hx, hy]; exact hr), ?_⟩
      rw [hd]
      have hA := hS.mem.stepA j (r' := grR e sz (sc gb 0 (m + 1) cap) (one gb) (m + 1, appF f (m * sz) news)) hj hh2 ⟨rfl, rfl, rfl, by simp, fun q hq hn => setRow_other w gb q _ (fun e => hn ((hF q).2 e)), fun q hq => .inl ((hF q).2 hq)⟩
      exact h _ _ _ _ hh2 ((hS.to hA).put hdn)
    · obtain ⟨cur, hc, hcs, hnt, hf⟩ := id hrow
      have hmc : m = cap := by omega
      have hol : ((List.range (m * sz)).map f).length = m * i.size := by simp [h1]
      have hold : ∀ j v, ((List.range (m * sz)).map f)[j]? = some v → w.cell? ((⟨gb, 0, none⟩ : Addr).add j) = some v := by
        intro j v hj
        have hjn : j < m * sz := by
          have := (List.getElem?_eq_some_iff.1 hj).1
          simpa using this
        rw [List.getElem?_map, List.getElem?_range hjn] at hj
        simp only [Option.map_some, Option.some.injEq] at hj
        subst hj
        rw [addr_add _ rfl, Nat.zero_add]
        unfold World.cell?
        simp only [hc]
        exact hf _ hjn
      have hr := run_append_grow (P := P) (w := w) t o.type e i z ht hi hz ⟨gb, 0, none⟩ m cap _ hol hold ⟨bx, 0, none⟩ 1 cx news (by rw [h1, Nat.one_mul]; exact hl) hcell (by omega) (by omega) (grow_fits (by omega) hby hn)
      have hge := grownCap_ge w (m + 1) cap e
      have hm2 : (m + 1) * sz = m * sz + sz := Nat.succ_mul m sz
      have hml : (m + 1) * sz ≤ grownCap w (m + 1) cap e * sz := Nat.mul_le_mul_right _ hge
      have hh2 : GrV e sz (w.drew.alloc (.cells (((List.range (m * sz)).map f).toArray ++ news.toArray ++ Builtin.zeroCells z.cells (grownCap w (m + 1) cap e - (m + 1))) e (0, 0))) (sc w.heap.size 0 (m + 1) (grownCap w (m + 1) cap e)) (one w.heap.size) (m + 1) (appF f (m * sz) news) := by
        refine .inr ⟨w.heap.size, _, rfl, by omega, ⟨_, alloc_at _ _, ?_, hml, fun x hx => ?_⟩, hge, fun q => Iff.rfl⟩
        · simp only [Array.size_append, List.size_toArray, List.length_map, List.length_range, size_zeroCells, hzc, hl]
          have : (grownCap w (m + 1) cap e - (m + 1)) * sz = grownCap w (m + 1) cap e * sz - (m + 1) * sz := Nat.mul_sub_right_distrib _ _ _
          have h3 : sz * (grownCap w (m + 1) cap e - (m + 1)) = (grownCap w (m + 1) cap e - (m + 1)) * sz := Nat.mul_comm _ _
          omega
        · have hx1 : x < (((List.range (m * sz)).map f).toArray ++ news.toArray).size := by simp [hl]; omega
          rw [Array.getElem?_append_left hx1]
          unfold appF
          by_cases hx2 : x < m * sz
          · rw [if_pos hx2, Array.getElem?_append_left (by simpa using hx2)]
            simp [hx2]
          · rw [if_neg hx2, Array.getElem?_append_right (by simp; omega)]
            simp only [List.size_toArray, List.length_map, List.length_range, List.getElem?_toArray]
            rw [List.getD_eq_getElem?_getD, List.getElem?_eq_getElem (by omega)]
            rfl
      refine ⟨_, _, append_run ho (by rw [eval1 hS hok, eval1 hS hok2, hx, hy]; exact hr), ?_⟩
      rw [hd]
      have hA := hS.mem.stepA j (r' := grR e sz (sc w.heap.size 0 (m + 1) (grownCap w (m + 1) cap e)) (one w.heap.size) (m + 1, appF f (m * sz) news)) hj hh2 ((Fr.alloc w _).to (fun k hk => hk.elim) (fun q hq => .inr (by rw [show q = w.heap.size from hq]; exact Nat.le_refl _)))
      exact h _ _ _ _ hh2 ((hS.to hA).put hdn)

/-- A slice that begins with nothing. -/
theorem WS.grNew (h : WS c H A w) (e : TypeId) (sz : Nat) (f : Nat → Value) : WS c H (A ++ [grR e sz vnil no (0, f)]) w :=
  h.newA (r := grR e sz vnil no (0, f)) (.inl ⟨rfl, rfl, fun _ h => h⟩) ((Fr.refl w no).to (fun k hk => hk.elim) (fun k hk => hk.elim))

/-- Told in another way. -/
theorem WS.grTell {e : TypeId} {sz m : Nat} {v : Value} {F : Nat → Prop} {f : Nat → Value} (h : WS c H A w) (j : Nat) (f' : Nat → Value) (hf : ∀ x, x < m * sz → f x = f' x) (hj : A[j]? = some (grR e sz v F (m, f)) := by rfl) : WS c H (A.set j (grR e sz v F (m, f'))) w := by
  have hB : GrV e sz w v F m f := h.ars.each _ (List.mem_of_getElem? hj)
  refine h.stepA j (r' := grR e sz v F (m, f')) hj ?_ ((Fr.refl w no).to (fun k hk => hk.elim) (fun k hk => .inl hk))
  rcases hB with h | ⟨g, cap, h1, h2, h3, h4, hF⟩
  · exact .inl h
  · exact .inr ⟨g, cap, h1, h2, HE.row_eq h3 (fun x hx => (hf x hx).symm), h4, hF⟩

theorem WS.grRe {e : TypeId} {sz m m' : Nat} {v v' : Value} {F : Nat → Prop} {f : Nat → Value} (h : WS c H A w) (j : Nat) (hv : v = v') (hm : m = m') (hj : A[j]? = some (grR e sz v F (m, f)) := by rfl) : WS c H (A.set j (grR e sz v' F (m', f))) w := by
  subst hv hm
  exact h.grTell j f (fun _ _ => rfl) hj

/-- What has grown lies there as a block of our own. -/
theorem WS.grOpen {e : TypeId} {sz m : Nat} {v : Value} {F : Nat → Prop} {f : Nat → Value} (h : WS c H [grR e sz v F (m, f)] w) (hm : 0 < m) : ∃ g cap, v = sc g 0 m cap ∧ m ≤ cap ∧ WS c (H ++ [(g, .row e (m * sz) (cap * sz) f)]) [] w := by
  have hB : GrV e sz w v F m f := h.res 0
  rcases hB with ⟨_, h1, _⟩ | ⟨g, cap, rfl, h2, h3, h4, hF⟩
  · omega
  have hin : inF [grR e sz (sc g 0 m cap) F (m, f)] g := .inl ((hF g).2 rfl)
  refine ⟨g, cap, rfl, h4, fun q hq => ?_, ?_, fun q hq ho => ?_, fun q hq hk => hk.elim, AllAr.nil w, h.fr.to (fun k hk => .inl hk) (fun k hk => hk.elim)⟩
  · rcases List.mem_append.1 hq with hq | hq
    · exact h.heap q hq
    · obtain rfl := List.mem_singleton.1 hq; exact h3
  · rw [List.pairwise_append]
    refine ⟨h.apart, List.pairwise_singleton _ _, fun p hp q hq ho e => ?_⟩
    obtain rfl := List.mem_singleton.1 hq
    exact h.free p hp (show inF _ p.1 from (show p.1 = g from e) ▸ hin)
  · rcases List.mem_append.1 hq with hq | hq
    · exact h.mine q hq ho
    · obtain rfl := List.mem_singleton.1 hq
      exact (h.fr.foot _ hin).symm
end

section
variable {P : Program} {c : Cx} {n : Nat} {E : Env} {H : Heap} {A : List Res} {a : Act} {w : World}
end

theorem gr_one {f : Nat → Value} {m : Nat} {v : Value} (h : v = f m) : ∀ x, x < (m + 1) * 1 → appF f (m * 1) [v] x = f x := by
  intro x hx
  unfold appF
  by_cases h1 : x < m * 1
  · rw [if_pos h1]
  · rw [if_neg h1]
    obtain rfl : x = m := by omega
    rw [show x - x * 1 = 0 by omega]; exact h

end Go.Proofs.YtdjhdcaanmkblaaDoor.K

/-
  A walk by computing: regions that draw their order, where operations that turn memory may come in one order or another: all are walked.
-/
namespace Go.Proofs.YtdjhdcaanmkblaaDoor.K
set_option linter.unusedSimpArgs false
set_option linter.unusedVariables false

section
variable {P : Program} {ops : Array Oper} {V : World → Prop} {Q : Exit → Act → World → Prop}

/-- How a region is walked: in a row; or, behind a row, one of some comes first. -/
inductive OT where
  | lin (r : List (Nat × Nat))
  | two (p : List (Nat × Nat)) (i : Nat) (t : OT) (j : Nat) (u : OT)
  | three (p : List (Nat × Nat)) (i : Nat) (t : OT) (j : Nat) (u : OT) (k : Nat) (v : OT)

def wpT (P : Program) (ops : Array Oper) (V : World → Prop) (R : Act → World → Prop) : OT → Act → World → Prop
  | .lin r => wpOrd P ops V R r
  | .two p i t j u => wpOrd P ops V (fun a w => wpOrd P ops V (wpT P ops V R t) [(i, 0)] a w ∧ wpOrd P ops V (wpT P ops V R u) [(j, 0)] a w) p
  | .three p i t j u k v => wpOrd P ops V (fun a w => wpOrd P ops V (wpT P ops V R t) [(i, 0)] a w ∧ wpOrd P ops V (wpT P ops V R u) [(j, 0)] a w ∧ wpOrd P ops V (wpT P ops V R v) [(k, 0)] a w) p

def lenT : OT → Nat
  | .lin r => r.length
  | .two p _ t _ _ => p.length + (lenT t + 1)
  | .three p _ t _ _ _ _ => p.length + (lenT t + 1)

def ordP (md : Region.Mode) (ops : Array Oper) : List (Nat × Nat) → Array Bool → Option (Array Bool)
  | [], l => some l
  | (i, 1) :: r, l => match (Region.ready md ops l).contains i && Region.free md ops l i with
    | true => ordP md ops r (l.setIfInBounds i true)
    | false => none
  | (i, 0) :: r, l => match onlyB i (Region.ready md ops l) with
    | true => ordP md ops r (l.setIfInBounds i true)
    | false => none
  | _, _ => none

def inB0 (r0 : List (Nat × Nat)) (r : List (Nat × Nat)) : Bool := r.all fun q => r0.any fun x => Nat.beq x.1 q.1 && Nat.beq x.2 q.2

def ordT (md : Region.Mode) (ops : Array Oper) (r0 : List (Nat × Nat)) : OT → Array Bool → Bool
  | .lin r, l => ordFrom md ops r l && inB0 r0 r
  | .two p i t j u, l => match ordP md ops p l with
    | some l' => inB0 r0 p && !(Region.ready md ops l').isEmpty && (Region.ready md ops l').all (fun x => Nat.beq x i || Nat.beq x j) && Nat.beq (lenT u) (lenT t) && ordT md ops r0 t (l'.setIfInBounds i true) && ordT md ops r0 u (l'.setIfInBounds j true)
    | none => false
  | .three p i t j u k v, l => match ordP md ops p l with
    | some l' => inB0 r0 p && !(Region.ready md ops l').isEmpty && (Region.ready md ops l').all (fun x => Nat.beq x i || Nat.beq x j || Nat.beq x k) && Nat.beq (lenT u) (lenT t) && Nat.beq (lenT v) (lenT t) && ordT md ops r0 t (l'.setIfInBounds i true) && ordT md ops r0 u (l'.setIfInBounds j true) && ordT md ops r0 v (l'.setIfInBounds k true)
    | none => false

theorem inB0_mem {r0 r : List (Nat × Nat)} (h : inB0 r0 r = true) : ∀ q ∈ r, q ∈ r0 := by
  intro q hq
  have h1 := List.all_eq_true.1 h q hq
  obtain ⟨x, hx, hb⟩ := List.any_eq_true.1 h1
  simp only [Bool.and_eq_true] at hb
  have e1 := Nat.eq_of_beq_eq_true hb.1
  have e2 := Nat.eq_of_beq_eq_true hb.2
  rw [show q = x from Prod.ext e1.symm e2.symm]; exact hx

theorem anyV_P {md : Region.Mode} {R R' : Act → World → Prop} (hs : Region.noSelect ops = true) (r0 : List (Nat × Nat)) (hl : lastB md ops r0 = true) {f : Nat} : ∀ (p : List (Nat × Nat)) (listed listed' : Array Bool) (a : Act) (w : World), ordP md ops p listed = some listed' → (∀ q ∈ p, q ∈ r0) → V w → wpOrd P ops V R' p a w →
    (∀ a' w', V w' → R' a' w' → anyV P md ops V (vfOf r0) R f listed' a' w') → anyV P md ops V (vfOf r0) R (p.length + f) listed a w
  | [], listed, listed', a, w, hB, _, hV, h, H => by
    simp only [ordP, Option.some.injEq] at hB
    subst hB
    rw [List.length_nil, Nat.zero_add]
    exact H a w hV h
  | (i, 0) :: r, listed, listed', a, w, hB, hm, hV, h, H => by
    simp only [ordP] at hB
    split at hB
    · rename_i h1
      have e := onlyB_eq h1
      rw [List.length_cons, Nat.add_right_comm]
      refine ⟨fun h0 => (by rw [e] at h0; cases h0), fun j hj => ?_⟩
      rw [e] at hj
      obtain rfl := List.mem_singleton.1 hj
      exact nAt_mono (fun a' w' hh => ⟨fun _ => hh.1, anyV_P hs r0 hl r _ listed' a' w' hB (fun q hq => hm q (List.mem_cons_of_mem _ hq)) hh.1 hh.2 H⟩) h
    · cases hB
  | (i, 1) :: r, listed, listed', a, w, hB, hm, hV, h, H => by
    simp only [ordP] at hB
    split at hB
    · rename_i h1
      simp only [Bool.and_eq_true] at h1
      obtain ⟨hr, hf⟩ := h1
      obtain ⟨o, v, ho, ht, hk⟩ := h
      rw [List.length_cons, Nat.add_right_comm]
      exact anyV_first ho (fun j oj hj hv => lastB_spec hl (mem_flB (hm _ List.mem_cons_self)) j oj hj hv) (Region.noSelect_spec hs) (r.length + f) listed a w (Region.free_spec ho hf) (by simpa using hr) ht hV (anyV_P hs r0 hl r _ listed' _ _ hB (fun q hq => hm q (List.mem_cons_of_mem _ hq)) hV hk H)
    · cases hB
  | (i, k + 2) :: r, listed, listed', a, w, hB, hm, hV, h, H => by simp [ordP] at hB

theorem anyV_T {md : Region.Mode} {R : Act → World → Prop} (hs : Region.noSelect ops = true) (r0 : List (Nat × Nat)) (hl : lastB md ops r0 = true) : ∀ (t : OT) (listed : Array Bool) (a : Act) (w : World), ordT md ops r0 t listed = true → V w → wpT P ops V R t a w → anyV P md ops V (vfOf r0) R (lenT t) listed a w
  | .lin r, listed, a, w, hB, hV, h => by
    simp only [ordT, Bool.and_eq_true] at hB
    exact anyV_ord hs r0 hl r listed a w (inB0_mem hB.2) hB.1 (fun _ => hV) h
  | .two p i t j u, listed, a, w, hB, hV, h => by
    simp only [ordT] at hB
    split at hB
    · rename_i l' hp
      simp only [Bool.and_eq_true, Bool.not_eq_true'] at hB
      obtain ⟨⟨⟨⟨⟨b0, b1⟩, b2⟩, b3⟩, b4⟩, b5⟩ := hB
      have e3 := Nat.eq_of_beq_eq_true b3
      refine anyV_P hs r0 hl (R' := fun a w => wpOrd P ops V (wpT P ops V R t) [(i, 0)] a w ∧ wpOrd P ops V (wpT P ops V R u) [(j, 0)] a w) p listed l' a w hp (inB0_mem b0) hV h fun a' w' hV' hh => ⟨fun h0 => (by rw [h0] at b1; cases b1), fun x hx => ?_⟩
      have hx2 := List.all_eq_true.1 b2 x hx
      simp only [Bool.or_eq_true] at hx2
      rcases hx2 with hx2 | hx2
      · obtain rfl := Nat.eq_of_beq_eq_true hx2
        exact nAt_mono (fun a2 w2 h2 => ⟨fun _ => h2.1, anyV_T hs r0 hl t _ a2 w2 b4 h2.1 h2.2⟩) hh.1
      · obtain rfl := Nat.eq_of_beq_eq_true hx2
        exact nAt_mono (fun a2 w2 h2 => ⟨fun _ => h2.1, e3 ▸ anyV_T hs r0 hl u _ a2 w2 b5 h2.1 h2.2⟩) hh.2
    · cases hB
  | .three p i t j u k v, listed, a, w, hB, hV, h => by
    simp only [ordT] at hB
    split at hB
    · rename_i l' hp
      simp only [Bool.and_eq_true, Bool.not_eq_true'] at hB
      obtain ⟨⟨⟨⟨⟨⟨⟨b0, b1⟩, b2⟩, b3⟩, b33⟩, b4⟩, b5⟩, b6⟩ := hB
      have e3 := Nat.eq_of_beq_eq_true b3
      have e33 := Nat.eq_of_beq_eq_true b33
      refine anyV_P hs r0 hl (R' := fun a w => wpOrd P ops V (wpT P ops V R t) [(i, 0)] a w ∧ wpOrd P ops V (wpT P ops V R u) [(j, 0)] a w ∧ wpOrd P ops V (wpT P ops V R v) [(k, 0)] a w) p listed l' a w hp (inB0_mem b0) hV h fun a' w' hV' hh => ⟨fun h0 => (by rw [h0] at b1; cases b1), fun x hx => ?_⟩
      have hx2 := List.all_eq_true.1 b2 x hx
      simp only [Bool.or_eq_true] at hx2
      rcases hx2 with (hx2 | hx2) | hx2
      · obtain rfl := Nat.eq_of_beq_eq_true hx2
        exact nAt_mono (fun a2 w2 h2 => ⟨fun _ => h2.1, anyV_T hs r0 hl t _ a2 w2 b4 h2.1 h2.2⟩) hh.1
      · obtain rfl := Nat.eq_of_beq_eq_true hx2
        exact nAt_mono (fun a2 w2 h2 => ⟨fun _ => h2.1, e3 ▸ anyV_T hs r0 hl u _ a2 w2 b5 h2.1 h2.2⟩) hh.2.1
      · obtain rfl := Nat.eq_of_beq_eq_true hx2
        exact nAt_mono (fun a2 w2 h2 => ⟨fun _ => h2.1, e33 ▸ anyV_T hs r0 hl v _ a2 w2 b6 h2.1 h2.2⟩) hh.2.2
    · cases hB

def ordTB (md : Region.Mode) (ops : Array Oper) (r0 : List (Nat × Nat)) (t : OT) : Bool := Region.noSelect ops && Nat.beq (lenT t) ops.size && ordT md ops r0 t (Array.replicate ops.size false) && lastB md ops r0

theorem wp_region_T {id : Nat} {a : Act} {w : World} (r0 : List (Nat × Nat)) (t : OT) (hm : P.follows .mixedOrders = true) (hB : ordTB .any ops r0 t = true) (hV : V { w with drawn := w.drawn + 1 })
    (h : wpT P ops V (fun a' w' => Q .normal a' w') t a { w with drawn := w.drawn + 1 }) : (Code.region id ops true).wp P Q a w := by
  simp only [ordTB, Bool.and_eq_true] at hB
  have hl := Nat.eq_of_beq_eq_true hB.1.1.2
  refine wp_region_any hm (wpAny_of_anyV (V := V) (Vf := vfOf r0) (R := fun a' w' => Q .normal a' w') (fun _ _ h => h) _ _ _ _ ?_)
  have := anyV_T (V := V) (P := P) (R := fun a' w' => Q .normal a' w') hB.1.1.1 r0 hB.2 t _ a _ hB.1.2 hV h
  rw [hl] at this
  exact this

variable {c : Cx} {n : Nat} {E : Env} {H Hf : Heap} {A : List Res} {a : Act} {w : World} {R : Act → World → Prop}
theorem St.ordBeginT {id : Nat} {l : List Oper} (r0 : List (Nat × Nat)) (t : OT) (Hf : Heap) (p : List Nat) (hS : St c n E H A a w) (h : ∀ w1, St c n E H A a w1 → wpT P l.toArray (Stay Hf) (fun a' w' => Q .normal a' w') t a w1)
    (hp : pickH H p = some Hf := by as_aux_lemma => kernel_rfl) (hm : P.follows .mixedOrders = true := by as_aux_lemma => kernel_rfl) (hB : ordTB .any l.toArray r0 t = true := by as_aux_lemma => kernel_rfl) : (Code.region id l.toArray true).wp P Q a w :=
  wp_region_T r0 t hm hB (hS.mem.drew.stay hp) (h _ (hS.to hS.mem.drew))
theorem St.ordBeginTS {id : Nat} {l : List Oper} {y : Code} (r0 : List (Nat × Nat)) (t : OT) (Hf : Heap) (p : List Nat) (hS : St c n E H A a w) (h : ∀ w1, St c n E H A a w1 → wpT P l.toArray (Stay Hf) (fun a' w' => y.wp P Q a' w') t a w1)
    (hp : pickH H p = some Hf := by as_aux_lemma => kernel_rfl) (hm : P.follows .mixedOrders = true := by as_aux_lemma => kernel_rfl) (hB : ordTB .any l.toArray r0 t = true := by as_aux_lemma => kernel_rfl) : ((Code.region id l.toArray true).seq y).wp P Q a w :=
  wp_seq (St.ordBeginT r0 t Hf p hS h hp hm hB)
/-- The last step of a row that leads on to what follows. -/
theorem wpT_lin {r : List (Nat × Nat)} {a : Act} {w : World} (h : wpOrd P ops V R r a w) : wpT P ops V R (.lin r) a w := h
theorem wpT_two {p : List (Nat × Nat)} {i j : Nat} {t u : OT} {a : Act} {w : World} (h : wpOrd P ops V (fun a w => wpOrd P ops V (wpT P ops V R t) [(i, 0)] a w ∧ wpOrd P ops V (wpT P ops V R u) [(j, 0)] a w) p a w) : wpT P ops V R (.two p i t j u) a w := h
end
end Go.Proofs.YtdjhdcaanmkblaaDoor.K

/-
  Records of fields, plainly: widths, where a field begins, what fits, what is put and told.
-/
namespace Go.Proofs.YtdjhdcaanmkblaaDoor.K
set_option linter.unusedSimpArgs false
set_option linter.unusedVariables false

def okw (w : Int) : Bool := w == 1 || w == 2 || w == 4 || w == 8
def okW (l : List Int) : Prop := 0 < l.length ∧ l.length ≤ 32 ∧ l.all okw = true
/-- The first n widths together. -/
def sumT (l : List Int) : Nat → Int
  | 0 => 0
  | n + 1 => sumT l n + l.getD n 0

instance (l : List Int) : Decidable (okW l) := by unfold okW; exact inferInstance
theorem okw_in {w : Int} (h : okw w = true) : w = 1 ∨ w = 2 ∨ w = 4 ∨ w = 8 := by
  unfold okw at h; simp at h; omega
theorem all_at {l : List Int} (h : l.all okw = true) {i : Nat} (hi : i < l.length) : okw (l.getD i 0) = true := by
  rw [List.getD_eq_getElem?_getD, List.getElem?_eq_getElem hi]
  exact List.all_eq_true.1 h _ (List.getElem_mem hi)
theorem okW_at {l : List Int} (h : okW l) {i : Nat} (hi : i < l.length) : l.getD i 0 = 1 ∨ l.getD i 0 = 2 ∨ l.getD i 0 = 4 ∨ l.getD i 0 = 8 := okw_in (all_at h.2.2 hi)
theorem okW_le {l : List Int} (h : okW l) (i : Nat) : 0 ≤ l.getD i 0 ∧ l.getD i 0 ≤ 8 := by
  rcases Nat.lt_or_ge i l.length with hi | hi
  · have := okW_at h hi; omega
  · rw [List.getD_eq_getElem?_getD, List.getElem?_eq_none hi]; decide
theorem sumT_bd {l : List Int} (h : okW l) : ∀ n : Nat, 0 ≤ sumT l n ∧ sumT l n ≤ 8 * (n : Int)
  | 0 => by unfold sumT; omega
  | n + 1 => by
    have := sumT_bd h n; have := okW_le h n
    unfold sumT; omega
theorem sumT_mono {l : List Int} (h : okW l) {i : Nat} : ∀ {n : Nat}, i + 1 ≤ n → sumT l i + l.getD i 0 ≤ sumT l n
  | 0, hi => by omega
  | n + 1, hi => by
    rcases Nat.lt_or_ge i n with h1 | h1
    · have := sumT_mono h (i := i) (n := n) (by omega); have := okW_le h n; show _ ≤ sumT l n + l.getD n 0; omega
    · obtain rfl : i = n := by omega
      show _ ≤ sumT l i + l.getD i 0; omega
/-- Where a field begins. -/
def atW (l : List Int) (i : Int) : Int := if 0 ≤ i ∧ i < (l.length : Int) then sumT l i.toNat else 0
theorem atW_in {l : List Int} {i : Int} (h : 0 ≤ i ∧ i < (l.length : Int)) : sumT l i.toNat = atW l i := by unfold atW; rw [if_pos h]
def hasW (l : List Int) (i : Int) : Bool := decide (0 ≤ i) && decide (i < (l.length : Int))
/-- Has a number no more bytes than a field? -/
def fitW (w x : Int) : Bool := w == 8 || x / 2 ^ (8 * w).toNat == 0
/-- What Set makes of an arena, and answers. -/
def setE (l : List Int) (m : AM) (o z i x : Int) : Int := if hasW l i then (if fitW (l.getD i.toNat 0) x then vstE m o z (atW l i) (l.getD i.toNat 0) else 16) else 2
def setM (l : List Int) (m : AM) (o z i x : Int) : AM := if hasW l i then (if fitW (l.getD i.toNat 0) x then vstM m o z (atW l i) (l.getD i.toNat 0) x else m) else m
theorem set_4 {l : List Int} {m : AM} {o z i x : Int} (h : hasW l i = false) : m = setM l m o z i x := by unfold setM; rw [h]; rfl
theorem set_5 {l : List Int} {m : AM} {o z i x : Int} (h2 : fitW (l.getD i.toNat 0) x = false) : m = setM l m o z i x := by unfold setM; rw [h2]; split <;> rfl
def getW (l : List Int) (m : AM) (o z i : Int) : Int := if hasW l i then vldV m o z (atW l i) (l.getD i.toNat 0) else 0
theorem hasW_in {l : List Int} {i : Int} (h : hasW l i = true) : 0 ≤ i ∧ i < (l.length : Int) := by unfold hasW at h; simpa using h

/-- A view's bytes. -/
def vbyE (m : AM) (o z a n : Int) : Int := if vchE z a n = 0 then chkE m (o + a) n else 3
/-- All fields are put, one behind the other. -/
def putA (l : List Int) (o z : Int) (nums : Nat → Nat) (m : AM) : Nat → AM
  | 0 => m
  | k + 1 => setM l (putA l o z nums m k) o z (k : Int) ((nums k : Nat) : Int)
def fitA (l : List Int) (nums : Nat → Nat) : Nat → Bool
  | 0 => true
  | k + 1 => fitA l nums k && fitW (l.getD k 0) ((nums k : Nat) : Int)
def pRE (l : List Int) (nn : Nat) (nums : Nat → Nat) (m : AM) (o z : Int) : Int := if nn ≠ l.length then 2 else if fitA l nums l.length then vbyE m o z 0 (sumT l l.length) else 16
def pRM (l : List Int) (nn : Nat) (nums : Nat → Nat) (m : AM) (o z : Int) : AM := if nn ≠ l.length then m else if fitA l nums l.length then (if vbyE m o z 0 (sumT l l.length) = 0 then putA l o z nums m l.length else m) else m
/-- The document's Commit. -/
def rcE (S : Nat → ByteArray) (n : Nat) (f k rf : Int) : Int := if wrgE S n f k false 9 ≠ 0 then wrgE S n f k false 9 else if rf = 0 then 4 else 0
def rcR (S : Nat → ByteArray) (n : Nat) (f k rf : Int) : Int := if wrgE S n f k false 9 ≠ 0 then rf else if rf = 0 then -1 else if 0 < rf then rf - 1 else rf
def rcS (S : Nat → ByteArray) (n : Nat) (f k rf : Int) : Nat → ByteArray := if wrgE S n f k false 9 ≠ 0 then S else if rf = 0 then S else withF S f.toNat k.toNat (fun _ => bs (fun _ => 0) 4096)
theorem rc_1 {S : Nat → ByteArray} {n : Nat} {f k rf : Int} (h : wrgE S n f k false 9 ≠ 0) : S = rcS S n f k rf ∧ rf = rcR S n f k rf ∧ wrgE S n f k false 9 = rcE S n f k rf := by
  unfold rcS rcR rcE; rw [if_pos h, if_pos h, if_pos h]; exact ⟨rfl, rfl, rfl⟩
theorem rc_2 {S : Nat → ByteArray} {n : Nat} {f k rf : Int} (h : wrgE S n f k false 9 = 0) (h2 : rf = 0) : S = rcS S n f k rf ∧ -1 = rcR S n f k rf ∧ 4 = rcE S n f k rf := by
  have h1 : ¬ wrgE S n f k false 9 ≠ 0 := fun q => q h
  unfold rcS rcR rcE; simp only [if_neg h1, if_pos h2, and_self]
theorem rc_3 {S : Nat → ByteArray} {n : Nat} {f k rf : Int} (h : wrgE S n f k false 9 = 0) (h2 : rf ≠ 0) : withF S f.toNat k.toNat (fun _ => bs (fun _ => 0) 4096) = rcS S n f k rf ∧ (0 < rf → rf - 1 = rcR S n f k rf) ∧ (¬ 0 < rf → rf = rcR S n f k rf) ∧ 0 = rcE S n f k rf := by
  have h1 : ¬ wrgE S n f k false 9 ≠ 0 := fun q => q h
  unfold rcS rcR rcE; simp only [if_neg h1, if_neg h2]; exact ⟨trivial, fun h => (if_pos h).symm, fun h => (if_neg h).symm, trivial⟩
end Go.Proofs.YtdjhdcaanmkblaaDoor.K

/-
  Walks, printed by w2.py.
-/
namespace Go.Proofs.YtdjhdcaanmkblaaDoor.K
set_option linter.unusedVariables false
set_option linter.unusedSimpArgs false

end Go.Proofs.YtdjhdcaanmkblaaDoor.K

/-
  Walks, printed by w2.py.
-/
namespace Go.Proofs.YtdjhdcaanmkblaaDoor.K
set_option linter.unusedVariables false
set_option linter.unusedSimpArgs false

set_option maxRecDepth 100000 in
set_option maxHeartbeats 1000000 in
theorem ref03_Commit (g : Nat) (u : Nat) (n : Nat) (cp : Nat) (rf : Int) (f : Int) (k : Int) (S : Nat → ByteArray) (w : World) (hh0 : HE.holds w g (.fn u (u + n) (strs S u))) (hn : n ≤ 1048576) (hrf : -1 ≤ rf ∧ rf ≤ 9223372036854775807) :
    Calls Tryd.prog 22 #[.agg #[sc g u n cp, vi rf], vi f, vi k] w fun e w' => ∃ (g2 : Nat) (u2 : Nat) (cp2 : Nat) (rf2 : Int) (S2 : Nat → ByteArray), e = .returned (.tuple #[.agg #[sc g2 u2 n cp2, vi rf2], vi (rcE S n f k rf)]) ∧ S2 = rcS S n f k rf ∧ rf2 = rcR S n f k rf ∧ (g2 = g ∨ w.heap.size ≤ g2) ∧ HE.holds w' g2 (.fn u2 (u2 + n) (strs S2 u2)) ∧ Fr w w' no no := by
 refine enter (args := [.agg #[sc g u n cp, vi rf], vi f, vi k]) (D := no) (A := []) Tryd.func22 rfl 44 rfl [(g, .fn u (u + n) (strs S u))] (WS.startL ⟨⟨rfl, hh0⟩, trivial⟩) fun ac hS => ?_
 refine hS.regS [0, 0, 0] [1, 2] fun ν1 => seg [(3, pt (ν1 0) 0), (6, pt (ν1 1) 0)] [(0, none), (1, some ((ν1 0), .cells [sc g u n cp, vi rf] 30)), (2, some ((ν1 1), .cells [vnil, vi 0] 30))] [] trivial fun ac wd hS => ?_
 refine wp_region_seq ?_
 refine hS.opsC 3 [100, 0, 0] [1, 2, 3, 6] fun _ => seg [(11, .agg #[sc g u n cp, vi rf]), (12, vi f), (13, vi k)] [(0, none), (1, none), (2, none)] [.e (ν1 0), .e (ν1 0)] trivial fun ac wd hS => ?_
 refine hS.call0 71 #[.agg #[sc g u n cp, vi rf], vi f, vi k, vb false, vi 9] 14 (ref03_wrong g u n cp rf f k false 9 S _ (hS.mem.get 0 g (.fn u (u + n) (strs S u))) (by first | assumption | omega | (simp_all; done) | (simp_all; omega))) fun ac wd hS => ?_
 refine hS.opsC 1 [0] [1, 2, 3, 6] fun _ => seg [(8, vi (wrgE S n f k false 9))] [(0, none), (1, none), (2, none)] [] trivial fun ac wd hS => ?_
 refine list_nil_seq ?_
 refine wp_seq ?_
 refine hS.regS [0, 0] [1, 2, 3, 6, 8] fun _ => seg [(16, vb (((wrgE S n f k false 9) : Int) != 0))] [(0, none), (1, none), (2, none)] [] trivial fun ac wd hS => ?_
 refine hS.condC (((wrgE S n f k false 9) : Int) != 0) (fun hb1o hb1 => ?_) (fun hb1o hb1 => ?_)
 ·
  have hen := hb1
  refine hS.regS [100, 0, 200, 0] [6] fun _ => seg [(7, vi (wrgE S n f k false 9))] [(0, none), (2, some ((ν1 1), .cells [sc g u n cp, vi rf] 30))] [.e (ν1 1), .e (ν1 1), .e (ν1 0), .e (ν1 0)] trivial fun ac wd hS => ?_
  refine wp_ret ?_
  refine pop_then_ret ?_
  refine St.retC 1 hS (.tuple #[.agg #[sc g u n cp, vi rf], vi (wrgE S n f k false 9)]) [.e (ν1 1), .e (ν1 1)] trivial fun hw => ?_
  refine ⟨g, u, cp, rf, S, retd (tuple2 rfl (vint ?_)), ?_, ?_, (.inl rfl), (hw.get 0 g (.fn u (u + n) (strs S u))), hw.fr0⟩
  all_goals (first | rfl | exact (rc_1 hen).1 | exact (rc_1 hen).2.1 | exact (rc_1 hen).2.2 | exact (rc_2 he0 (by omega)).1 | exact (rc_2 he0 (by omega)).2.1 | exact (rc_2 he0 (by omega)).2.2 | exact (rc_3 he0 (by omega)).1 | exact (rc_3 he0 (by omega)).2.1 (by omega) | exact (rc_3 he0 (by omega)).2.2.1 (by omega) | exact (rc_3 he0 (by omega)).2.2.2 | omega)
 ·
  have he0 := hb1
  obtain ⟨hw1, hw2, hw3, hw4⟩ := wrg_in he0 (by omega)
  refine wp_skip ?_
  refine pop_then ?_
  refine wp_seq ?_
  refine hS.regS [0, 100, 0] [1, 2, 3, 6] fun _ => seg [(21, vb ((rf : Int) == 0))] [(0, none), (1, none), (2, none)] [.e (ν1 0)] trivial fun ac wd hS => ?_
  refine hS.condC ((rf : Int) == 0) (fun hb2o hb2 => ?_) (fun hb2o hb2 => ?_)
  ·
   refine hS.regS [0, 100] [3, 6] fun _ => seg [] [(0, none), (1, some ((ν1 0), .cells [sc g u n cp, vi (-1)] 30)), (2, none)] [.e (ν1 0)] trivial fun ac wd hS => ?_
   refine hS.regS [100, 200, 0] [6] fun _ => seg [(7, vi 4)] [(0, none), (2, some ((ν1 1), .cells [sc g u n cp, vi (-1)] 30))] [.e (ν1 1), .e (ν1 1), .e (ν1 0), .e (ν1 0)] trivial fun ac wd hS => ?_
   refine wp_ret ?_
   refine pop_then_ret ?_
   refine St.retC 1 hS (.tuple #[.agg #[sc g u n cp, vi (-1)], vi 4]) [.e (ν1 1), .e (ν1 1)] trivial fun hw => ?_
   refine ⟨g, u, cp, (-1), S, retd (tuple2 rfl (vint ?_)), ?_, ?_, (.inl rfl), (hw.get 0 g (.fn u (u + n) (strs S u))), hw.fr0⟩
   all_goals (first | rfl | exact (rc_1 hen).1 | exact (rc_1 hen).2.1 | exact (rc_1 hen).2.2 | exact (rc_2 he0 (by omega)).1 | exact (rc_2 he0 (by omega)).2.1 | exact (rc_2 he0 (by omega)).2.2 | exact (rc_3 he0 (by omega)).1 | exact (rc_3 he0 (by omega)).2.1 (by omega) | exact (rc_3 he0 (by omega)).2.2.1 (by omega) | exact (rc_3 he0 (by omega)).2.2.2 | omega)
  ·
   refine wp_skip ?_
   refine pop_then ?_
   refine wp_seq ?_
   refine hS.regS [0, 100, 0] [1, 2, 3, 6] fun _ => seg [(26, vb (decide ((0 : Int) < rf)))] [(0, none), (1, none), (2, none)] [.e (ν1 0)] trivial fun ac wd hS => ?_
   refine hS.condC (decide ((0 : Int) < rf)) (fun hb3o hb3 => ?_) (fun hb3o hb3 => ?_)
   ·
    refine hS.regC [0, 100, 20, 0, 100] [1, 2, 3, 6] fun _ => seg [] [(0, none), (1, some ((ν1 0), .cells [sc g u n cp, vi (rf - 1)] 30)), (2, none)] [.e (ν1 0), .p (fit .i64 (rf - 1)), .e (ν1 0)] ⟨fit_i64 (by omega), trivial⟩ fun ac wd hS => ?_
    refine pop_then ?_
    refine hS.regS [0] [1, 2, 3, 6] fun _ => seg [(9, vnil)] [(0, none), (1, none), (2, none)] [] trivial fun ac wd hS => ?_
    refine wp_seq ?_
    replace hS := hS.to (hS.mem.grNew 9 1 (strs (fun _ => bs (fun _ => 0) 4096) 0))
    refine hS.regS [0] [1, 2, 3, 6, 9] fun _ => seg [(10, vi 0)] [(0, none), (1, none), (2, none)] [] trivial fun ac wd hS => ?_
    refine wp_block ?_
    refine St.loopC (σ := Int × Option Addr × Nat × (Nat → Prop)) (fun (x : Int × Option Addr × Nat × (Nat → Prop)) => match x with | (x10, xo, xc, Fx) => ⟨[(1, [], vi f), (2, [], vi k), (3, [], pt (ν1 0) 0), (6, [], pt (ν1 1) 0), (9, [], .slice xo (Int.toNat x10) xc), (10, [], vi x10)], [(g, .fn u (u + n) (strs S u)), ((ν1 0), .cells [sc g u n cp, vi (rf - 1)] 30), ((ν1 1), .cells [vnil, vi 0] 30)], [grR 9 1 (.slice xo (Int.toNat x10) xc) Fx ((Int.toNat x10), (strs (fun _ => bs (fun _ => 0) 4096) 0))], (0 ≤ x10 ∧ x10 ≤ k) ∧ True, Int.toNat (k - x10)⟩) (0, none, 0, no) ⟨(by omega), trivial⟩ hS ?_
    clear hS
    rintro ⟨x10, xo, xc, Fx⟩ ⟨i0, -⟩ ac wd hS
    replace i0 : 0 ≤ x10 ∧ x10 ≤ k := i0
    refine wp_seq ?_
    refine hS.regS [0, 0, 0] [1, 2, 3, 6, 9, 10] fun _ => seg [(33, vb (decide ((x10 : Int) < k)))] [(0, none), (1, none), (2, none)] [] trivial fun ac wd hS => ?_
    refine hS.condC (decide ((x10 : Int) < k)) (fun hb4o hb4 => ?_) (fun hb4o hb4 => ?_)
    ·
     refine wp_skip ?_
     refine pop_then ?_
     refine wp_seq ?_
     refine wp_block ?_
     refine wp_region_lit ?_
     refine hS.opsC 1 [0] [1, 2, 3, 6, 9, 10] fun _ => seg [(36, .slice xo (Int.toNat x10) xc)] [(0, none), (1, none), (2, none)] [] trivial fun ac wd hS => ?_
     refine hS.call0 72 #[vi 4096] 37 (ref03_Noughts 4096 _  (by first | assumption | omega | (simp_all; done) | (simp_all; omega))) fun ac wd hS => ?_
     refine hS.opsC 1 [0] [1, 2, 3, 6, 9, 10, 36] fun ν15 => seg [(38, sc (ν15 0) 0 1 1)] [(0, none), (1, none), (2, none), (3, some ((ν15 0), .cells [.string (bs (fun _ => 0) (Int.toNat 4096))] 9))] [] trivial fun ac wd hS => ?_
     obtain ⟨i_, hi_, hz_, hs_, hb_⟩ := info_get (P := Tryd.prog) (e := 9) (z := .string (ByteArray.empty)) (s := 1) (b := 16) (by kernel_rfl)
     refine Runs1.list ?_
     refine St.appV (m := (Int.toNat x10)) (f := (strs (fun _ => bs (fun _ => 0) 4096) 0)) (news := [.string (bs (fun _ => 0) (Int.toNat 4096))]) (bx := (ν15 0)) (cx := 1) (Tx := 9) 0 hS (.tmp 36) (.tmp 38) 28 rfl rfl (by decide) Tryd.underlying28 hi_ hz_ hs_ (by omega) rfl (by decide) 3 rfl rfl (by omega) fun ac wd v2_ F7 hB8 hS => ?_
     obtain ⟨xo5, xc6, rfl⟩ := hB8.slice
     refine hS.opsC 1 [0] [1, 2, 3, 6, 10] fun _ => seg [(9, .slice xo5 ((Int.toNat x10) + 1) xc6)] [(0, none), (1, none), (2, none)] [] trivial fun ac wd hS => ?_
     refine list_nil ?_
     refine pop_block ?_
     refine pop_then ?_
     refine hS.regC [0, 20, 0] [1, 2, 3, 6, 9] fun _ => seg [(10, vi (x10 + 1))] [(0, none), (1, none), (2, none)] [.p (fit .i64 (x10 + 1))] ⟨fit_i64 (by omega), trivial⟩ fun ac wd hS => ?_
     replace hS := hS.to (hS.mem.grTell (m := ((Int.toNat x10) + 1)) 0 (strs (fun _ => bs (fun _ => 0) 4096) 0) (gr_one rfl))
     have hm_ : (Int.toNat x10) + 1 = (Int.toNat (x10 + 1)) := by omega
     replace hS := hS.to (hS.mem.grRe (v := .slice xo5 ((Int.toNat x10) + 1) xc6) (v' := .slice xo5 (Int.toNat (x10 + 1)) xc6) (m := ((Int.toNat x10) + 1)) (m' := (Int.toNat (x10 + 1))) (f := (strs (fun _ => bs (fun _ => 0) 4096) 0)) 0 (by rw [hm_]) hm_)
     replace hS := hS.fix 9 (.slice xo5 (Int.toNat (x10 + 1)) xc6) (show (.slice xo5 ((Int.toNat x10) + 1) xc6 : Value) = .slice xo5 (Int.toNat (x10 + 1)) xc6 by rw [hm_])
     exact pop_then (hS.next ((x10 + 1), xo5, xc6, F7) ⟨(by first | omega | assumption | (simp; done) | (simp; omega)), trivial⟩ (by dsimp only; omega))
    ·
     refine wp_exit ?_
     refine pop_then_exit ?_
     refine pop_then_exit ?_
     refine pop_block_hit ?_
     refine pop_then ?_
     have hm_ : (Int.toNat x10) = (Int.toNat k) := by omega
     replace hS := hS.to (hS.mem.grRe (v := .slice xo (Int.toNat x10) xc) (v' := .slice xo (Int.toNat k) xc) (m := (Int.toNat x10)) (m' := (Int.toNat k)) (f := (strs (fun _ => bs (fun _ => 0) 4096) 0)) 0 (by rw [hm_]) hm_)
     replace hS := hS.fix 9 (.slice xo (Int.toNat k) xc) (show (.slice xo (Int.toNat x10) xc : Value) = .slice xo (Int.toNat k) xc by rw [hm_])
     obtain ⟨gg9, cp10, hv_, hcp_, hO⟩ := WS.grOpen (e := 9) (sz := 1) (m := (Int.toNat k)) (f := (strs (fun _ => bs (fun _ => 0) 4096) 0)) hS.mem (by omega)
     simp only [Nat.mul_one] at hO
     obtain ⟨rfl, rfl⟩ : some (⟨gg9, 0, none⟩ : Addr) = xo ∧ cp10 = xc := by cases hv_; exact ⟨rfl, rfl⟩
     clear hv_
     replace hS := hS.to hO
     clear hO
     refine wp_region_seq ?_
     refine hS.opsC 3 [100, 0, 0] [6] fun _ => seg [(40, .agg #[sc g u n cp, vi (rf - 1)]), (41, vi f), (42, sc gg9 0 (Int.toNat k) cp10)] [(0, none), (2, none), (3, none)] [.e (ν1 0), .e (ν1 0)] trivial fun ac wd hS => ?_
     refine hS.callC 73 #[.agg #[sc g u n cp, vi (rf - 1)], vi f, sc gg9 0 (Int.toNat k) cp10] (ref03_with g u n cp (rf - 1) f gg9 0 (Int.toNat k) cp10 S (fun _ => bs (fun _ => 0) 4096) _ (hS.mem.get 0 g (.fn u (u + n) (strs S u))) (HE.fn_hi (by omega) (HE.of_row (hS.mem.get 2 gg9 (.row 9 (Int.toNat k) cp10 (strs (fun _ => bs (fun _ => 0) 4096) 0))) (fun _ _ => rfl))) (by first | assumption | omega | (simp_all; done) | (simp_all; omega)) (by first | assumption | omega | (simp_all; done) | (simp_all; omega)) (by first | assumption | omega | (simp_all; done) | (simp_all; omega))) ?_
     rintro _ wd ⟨g211, rfl, hog0, hoh0, hF⟩
     have ho12 : w.heap.size ≤ g211 := Nat.le_trans hS.mem.fr.size hog0
     refine ⟨.agg #[sc g211 0 n n, vi (rf - 1)], rfl, ?_⟩
     replace hS := (hS.to (hS.mem.outs hF [(g211, .fn 0 (0 + n) (strs (withF S (Int.toNat f) (Int.toNat k) (fun _ => bs (fun _ => 0) 4096)) 0))] ⟨⟨rfl, hoh0, .inr hog0⟩, trivial⟩)).put (d := 43) (v := .agg #[sc g211 0 n n, vi (rf - 1)]) (by decide)
     clear hF
     refine hS.opsC 2 [100, 0] [6] fun _ => seg [(7, vi 0)] [(1, some ((ν1 1), .cells [sc g211 0 n n, vi (rf - 1)] 30)), (3, none)] [.e (ν1 1), .e (ν1 1)] trivial fun ac wd hS => ?_
     refine list_nil_seq ?_
     refine wp_ret ?_
     refine St.retC 0 hS (.tuple #[.agg #[sc g211 0 n n, vi (rf - 1)], vi 0]) [.e (ν1 1), .e (ν1 1)] trivial fun hw => ?_
     refine ⟨g211, 0, n, (rf - 1), (withF S (Int.toNat f) (Int.toNat k) (fun _ => bs (fun _ => 0) 4096)), retd (tuple2 rfl (vint ?_)), ?_, ?_, (.inr ho12), (hw.get 1 g211 (.fn 0 (0 + n) (strs (withF S (Int.toNat f) (Int.toNat k) (fun _ => bs (fun _ => 0) 4096)) 0))), hw.fr0⟩
     all_goals (first | rfl | exact (rc_1 hen).1 | exact (rc_1 hen).2.1 | exact (rc_1 hen).2.2 | exact (rc_2 he0 (by omega)).1 | exact (rc_2 he0 (by omega)).2.1 | exact (rc_2 he0 (by omega)).2.2 | exact (rc_3 he0 (by omega)).1 | exact (rc_3 he0 (by omega)).2.1 (by omega) | exact (rc_3 he0 (by omega)).2.2.1 (by omega) | exact (rc_3 he0 (by omega)).2.2.2 | omega)
   ·
    refine wp_skip ?_
    refine pop_then ?_
    refine hS.regS [0] [1, 2, 3, 6] fun _ => seg [(9, vnil)] [(0, none), (1, none), (2, none)] [] trivial fun ac wd hS => ?_
    refine wp_seq ?_
    replace hS := hS.to (hS.mem.grNew 9 1 (strs (fun _ => bs (fun _ => 0) 4096) 0))
    refine hS.regS [0] [1, 2, 3, 6, 9] fun _ => seg [(10, vi 0)] [(0, none), (1, none), (2, none)] [] trivial fun ac wd hS => ?_
    refine wp_block ?_
    refine St.loopC (σ := Int × Option Addr × Nat × (Nat → Prop)) (fun (x : Int × Option Addr × Nat × (Nat → Prop)) => match x with | (x10, xo, xc, Fx) => ⟨[(1, [], vi f), (2, [], vi k), (3, [], pt (ν1 0) 0), (6, [], pt (ν1 1) 0), (9, [], .slice xo (Int.toNat x10) xc), (10, [], vi x10)], [(g, .fn u (u + n) (strs S u)), ((ν1 0), .cells [sc g u n cp, vi rf] 30), ((ν1 1), .cells [vnil, vi 0] 30)], [grR 9 1 (.slice xo (Int.toNat x10) xc) Fx ((Int.toNat x10), (strs (fun _ => bs (fun _ => 0) 4096) 0))], (0 ≤ x10 ∧ x10 ≤ k) ∧ True, Int.toNat (k - x10)⟩) (0, none, 0, no) ⟨(by omega), trivial⟩ hS ?_
    clear hS
    rintro ⟨x10, xo, xc, Fx⟩ ⟨i0, -⟩ ac wd hS
    replace i0 : 0 ≤ x10 ∧ x10 ≤ k := i0
    refine wp_seq ?_
    refine hS.regS [0, 0, 0] [1, 2, 3, 6, 9, 10] fun _ => seg [(33, vb (decide ((x10 : Int) < k)))] [(0, none), (1, none), (2, none)] [] trivial fun ac wd hS => ?_
    refine hS.condC (decide ((x10 : Int) < k)) (fun hb13o hb13 => ?_) (fun hb13o hb13 => ?_)
    ·
     refine wp_skip ?_
     refine pop_then ?_
     refine wp_seq ?_
     refine wp_block ?_
     refine wp_region_lit ?_
     refine hS.opsC 1 [0] [1, 2, 3, 6, 9, 10] fun _ => seg [(36, .slice xo (Int.toNat x10) xc)] [(0, none), (1, none), (2, none)] [] trivial fun ac wd hS => ?_
     refine hS.call0 72 #[vi 4096] 37 (ref03_Noughts 4096 _  (by first | assumption | omega | (simp_all; done) | (simp_all; omega))) fun ac wd hS => ?_
     refine hS.opsC 1 [0] [1, 2, 3, 6, 9, 10, 36] fun ν24 => seg [(38, sc (ν24 0) 0 1 1)] [(0, none), (1, none), (2, none), (3, some ((ν24 0), .cells [.string (bs (fun _ => 0) (Int.toNat 4096))] 9))] [] trivial fun ac wd hS => ?_
     obtain ⟨i_, hi_, hz_, hs_, hb_⟩ := info_get (P := Tryd.prog) (e := 9) (z := .string (ByteArray.empty)) (s := 1) (b := 16) (by kernel_rfl)
     refine Runs1.list ?_
     refine St.appV (m := (Int.toNat x10)) (f := (strs (fun _ => bs (fun _ => 0) 4096) 0)) (news := [.string (bs (fun _ => 0) (Int.toNat 4096))]) (bx := (ν24 0)) (cx := 1) (Tx := 9) 0 hS (.tmp 36) (.tmp 38) 28 rfl rfl (by decide) Tryd.underlying28 hi_ hz_ hs_ (by omega) rfl (by decide) 3 rfl rfl (by omega) fun ac wd v2_ F16 hB17 hS => ?_
     obtain ⟨xo14, xc15, rfl⟩ := hB17.slice
     refine hS.opsC 1 [0] [1, 2, 3, 6, 10] fun _ => seg [(9, .slice xo14 ((Int.toNat x10) + 1) xc15)] [(0, none), (1, none), (2, none)] [] trivial fun ac wd hS => ?_
     refine list_nil ?_
     refine pop_block ?_
     refine pop_then ?_
     refine hS.regC [0, 20, 0] [1, 2, 3, 6, 9] fun _ => seg [(10, vi (x10 + 1))] [(0, none), (1, none), (2, none)] [.p (fit .i64 (x10 + 1))] ⟨fit_i64 (by omega), trivial⟩ fun ac wd hS => ?_
     replace hS := hS.to (hS.mem.grTell (m := ((Int.toNat x10) + 1)) 0 (strs (fun _ => bs (fun _ => 0) 4096) 0) (gr_one rfl))
     have hm_ : (Int.toNat x10) + 1 = (Int.toNat (x10 + 1)) := by omega
     replace hS := hS.to (hS.mem.grRe (v := .slice xo14 ((Int.toNat x10) + 1) xc15) (v' := .slice xo14 (Int.toNat (x10 + 1)) xc15) (m := ((Int.toNat x10) + 1)) (m' := (Int.toNat (x10 + 1))) (f := (strs (fun _ => bs (fun _ => 0) 4096) 0)) 0 (by rw [hm_]) hm_)
     replace hS := hS.fix 9 (.slice xo14 (Int.toNat (x10 + 1)) xc15) (show (.slice xo14 ((Int.toNat x10) + 1) xc15 : Value) = .slice xo14 (Int.toNat (x10 + 1)) xc15 by rw [hm_])
     exact pop_then (hS.next ((x10 + 1), xo14, xc15, F16) ⟨(by first | omega | assumption | (simp; done) | (simp; omega)), trivial⟩ (by dsimp only; omega))
    ·
     refine wp_exit ?_
     refine pop_then_exit ?_
     refine pop_then_exit ?_
     refine pop_block_hit ?_
     refine pop_then ?_
     have hm_ : (Int.toNat x10) = (Int.toNat k) := by omega
     replace hS := hS.to (hS.mem.grRe (v := .slice xo (Int.toNat x10) xc) (v' := .slice xo (Int.toNat k) xc) (m := (Int.toNat x10)) (m' := (Int.toNat k)) (f := (strs (fun _ => bs (fun _ => 0) 4096) 0)) 0 (by rw [hm_]) hm_)
     replace hS := hS.fix 9 (.slice xo (Int.toNat k) xc) (show (.slice xo (Int.toNat x10) xc : Value) = .slice xo (Int.toNat k) xc by rw [hm_])
     obtain ⟨gg18, cp19, hv_, hcp_, hO⟩ := WS.grOpen (e := 9) (sz := 1) (m := (Int.toNat k)) (f := (strs (fun _ => bs (fun _ => 0) 4096) 0)) hS.mem (by omega)
     simp only [Nat.mul_one] at hO
     obtain ⟨rfl, rfl⟩ : some (⟨gg18, 0, none⟩ : Addr) = xo ∧ cp19 = xc := by cases hv_; exact ⟨rfl, rfl⟩
     clear hv_
     replace hS := hS.to hO
     clear hO
     refine wp_region_seq ?_
     refine hS.opsC 3 [100, 0, 0] [6] fun _ => seg [(40, .agg #[sc g u n cp, vi rf]), (41, vi f), (42, sc gg18 0 (Int.toNat k) cp19)] [(0, none), (2, none), (3, none)] [.e (ν1 0), .e (ν1 0)] trivial fun ac wd hS => ?_
     refine hS.callC 73 #[.agg #[sc g u n cp, vi rf], vi f, sc gg18 0 (Int.toNat k) cp19] (ref03_with g u n cp rf f gg18 0 (Int.toNat k) cp19 S (fun _ => bs (fun _ => 0) 4096) _ (hS.mem.get 0 g (.fn u (u + n) (strs S u))) (HE.fn_hi (by omega) (HE.of_row (hS.mem.get 2 gg18 (.row 9 (Int.toNat k) cp19 (strs (fun _ => bs (fun _ => 0) 4096) 0))) (fun _ _ => rfl))) (by first | assumption | omega | (simp_all; done) | (simp_all; omega)) (by first | assumption | omega | (simp_all; done) | (simp_all; omega)) (by first | assumption | omega | (simp_all; done) | (simp_all; omega))) ?_
     rintro _ wd ⟨g220, rfl, hog0, hoh0, hF⟩
     have ho21 : w.heap.size ≤ g220 := Nat.le_trans hS.mem.fr.size hog0
     refine ⟨.agg #[sc g220 0 n n, vi rf], rfl, ?_⟩
     replace hS := (hS.to (hS.mem.outs hF [(g220, .fn 0 (0 + n) (strs (withF S (Int.toNat f) (Int.toNat k) (fun _ => bs (fun _ => 0) 4096)) 0))] ⟨⟨rfl, hoh0, .inr hog0⟩, trivial⟩)).put (d := 43) (v := .agg #[sc g220 0 n n, vi rf]) (by decide)
     clear hF
     refine hS.opsC 2 [100, 0] [6] fun _ => seg [(7, vi 0)] [(1, some ((ν1 1), .cells [sc g220 0 n n, vi rf] 30)), (3, none)] [.e (ν1 1), .e (ν1 1)] trivial fun ac wd hS => ?_
     refine list_nil_seq ?_
     refine wp_ret ?_
     refine St.retC 0 hS (.tuple #[.agg #[sc g220 0 n n, vi rf], vi 0]) [.e (ν1 1), .e (ν1 1)] trivial fun hw => ?_
     refine ⟨g220, 0, n, rf, (withF S (Int.toNat f) (Int.toNat k) (fun _ => bs (fun _ => 0) 4096)), retd (tuple2 rfl (vint ?_)), ?_, ?_, (.inr ho21), (hw.get 1 g220 (.fn 0 (0 + n) (strs (withF S (Int.toNat f) (Int.toNat k) (fun _ => bs (fun _ => 0) 4096)) 0))), hw.fr0⟩
     all_goals (first | rfl | exact (rc_1 hen).1 | exact (rc_1 hen).2.1 | exact (rc_1 hen).2.2 | exact (rc_2 he0 (by omega)).1 | exact (rc_2 he0 (by omega)).2.1 | exact (rc_2 he0 (by omega)).2.2 | exact (rc_3 he0 (by omega)).1 | exact (rc_3 he0 (by omega)).2.1 (by omega) | exact (rc_3 he0 (by omega)).2.2.1 (by omega) | exact (rc_3 he0 (by omega)).2.2.2 | omega)

end Go.Proofs.YtdjhdcaanmkblaaDoor.K

/-
  Walks, printed by w2.py.
-/
namespace Go.Proofs.YtdjhdcaanmkblaaDoor.K
set_option linter.unusedVariables false
set_option linter.unusedSimpArgs false

end Go.Proofs.YtdjhdcaanmkblaaDoor.K
