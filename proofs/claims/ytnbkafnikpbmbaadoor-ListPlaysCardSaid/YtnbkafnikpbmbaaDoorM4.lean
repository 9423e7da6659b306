import Derived.Test.YtnbkafnikpbmbaaDoorM3
import Derived.Test.YtnbkafnikpbmbaaDoorProg
/-
  A walk by computing: slices that grow from nothing, by elements of any number of cells, as something that a walk holds.
-/
namespace Go.Proofs.YtnbkafnikpbmbaaDoor.K
set_option linter.unusedSimpArgs false
set_option linter.unusedVariables false

/-- What a slice that grows holds: so many elements, of sz cells each. -/
def GrV (e : TypeId) (sz : Nat) (w : World) (v : Value) (F : Nat → Prop) (n : Nat) (f : Nat → Value) : Prop :=
  (v = vnil ∧ n = 0 ∧ ∀ k, ¬ F k) ∨ ∃ g cap, v = sc g 0 n cap ∧ 0 < n ∧ HE.holds w g (.row e (n * sz) (cap * sz) f) ∧ n ≤ cap ∧ ∀ k, F k ↔ k = g

theorem GrV.slice {e : TypeId} {sz : Nat} {w : World} {v : Value} {F : Nat → Prop} {n : Nat} {f : Nat → Value} (h : GrV e sz w v F n f) : ∃ x c, v = .slice x n c := by
  rcases h with ⟨rfl, rfl, _⟩ | ⟨g, cap, rfl, _⟩
  · exact ⟨none, 0, rfl⟩
  · exact ⟨_, _, rfl⟩

def grR (e : TypeId) (sz : Nat) (v : Value) (F : Nat → Prop) (q : Nat × (Nat → Value)) : Res := ⟨F, fun w => GrV e sz w v F q.1 q.2, fun w h k hk => by
  rcases h with ⟨_, _, h⟩ | ⟨g, cap, _, _, h, _, hF⟩
  · exact absurd hk (h k)
  · rw [(hF k).1 hk]; exact h.lt, fun w w' h he => by
  rcases h with h | ⟨g, cap, h1, h2, h3, h4, hF⟩
  · exact .inl h
  · exact .inr ⟨g, cap, h1, h2, h3.congr (he g ((hF g).2 rfl)), h4, hF⟩⟩

theorem grow_fits {n cap bytes : Nat} (h : cap < n + 1) (hb : bytes ≤ 64) (hn : n + 1 ≤ 2 ^ 32) : Builtin.nextslicecap (n + 1) cap * bytes ≤ 281474976710656 := growslice_fits (by omega) (by
  have : (n + 1) * bytes ≤ 2 ^ 32 * 64 := Nat.mul_le_mul hn hb
  omega)

section
variable {P : Program} {c : Cx} {n : Nat} {E : Env} {H : Heap} {A : List Res} {a : Act} {w : World} {o : Oper}

theorem gr_room {e : TypeId} {sz : Nat} {w : World} {g cap n : Nat} {f : Nat → Value} (hrow : HE.holds w g (.row e (n * sz) (cap * sz) f)) (hr : n + 1 ≤ cap) {news : List Value} (hl : news.length = sz) :
    ∃ cur, w.heap[g]? = some (.cells cur e (0, 0)) ∧ cur.size = cap * sz ∧ n * sz + news.length ≤ cur.size ∧
      HE.holds (w.setRow g (cur.toList.take (n * sz) ++ news ++ cur.toList.drop (n * sz + news.length)).toArray) g (.row e ((n + 1) * sz) (cap * sz) (appF f (n * sz) news)) := by
  obtain ⟨cur, hc, hsz, hnt, hf⟩ := hrow
  have hcl : cur.toList.length = cap * sz := by simpa using hsz
  have hm : (n + 1) * sz ≤ cap * sz := Nat.mul_le_mul_right _ hr
  have hm2 : (n + 1) * sz = n * sz + sz := Nat.succ_mul n sz
  refine ⟨cur, hc, hsz, by omega, ⟨_, setRow_heap w g cur _ e _ hc, ?_, hm, fun x hx => ?_⟩⟩
  · simp only [List.size_toArray, List.length_append, List.length_take, List.length_drop, hcl]
    omega
  · rw [List.getElem?_toArray]
    unfold appF
    by_cases hx2 : x < n * sz
    · rw [if_pos hx2, List.append_assoc, List.getElem?_append_left (by rw [List.length_take, hcl]; omega), List.getElem?_take_of_lt hx2, Array.getElem?_toList]
      exact hf x hx2
    · rw [if_neg hx2, List.append_assoc, List.getElem?_append_right (by rw [List.length_take, hcl]; omega), List.length_take, hcl, show min (n * sz) (cap * sz) = n * sz by omega, List.getElem?_append_left (by omega), List.getD_eq_getElem?_getD, List.getElem?_eq_getElem (by omega)]
      rfl

/-- append of one element. -/
theorem St.appV {K : Act → World → Prop} {v : Value} {Fv : Nat → Prop} {m sz : Nat} {f : Nat → Value} {e : TypeId} (j : Nat) (hS : St c n E H A a w) (x y : Operand) (t : TypeId) (ho : o.op = .call { callee := .builtin .append, args := #[x, y], argTypes := #[t, t] }) {d : Nat} (hd : o.dst = some d) (hdn : d < n) {z : Value} {i : TypeInfo} (ht : P.underlying t = some (.slice e)) (hi : P.info? e = some i) (hz : i.zero = some z) (h1 : i.size = sz) (hby : i.bytes ≤ 64) (hzc : z.cells.size = sz) (hsz : 0 < sz)
    {bx cx : Nat} {news : List Value} {Tx : TypeId} (ix : Nat) (hone : news.all (fun u => u.oneCell') = true) (hl : news.length = sz) (hn : m + 1 ≤ 2 ^ 32)
    (h : ∀ a' w' v' F', GrV e sz w' v' F' (m + 1) (appF f (m * sz) news) → St c n (putE E d [] v') H (A.set j (grR e sz v' F' (m + 1, appF f (m * sz) news))) a' w' → K a' w')
    (hj : A[j]? = some (grR e sz v Fv (m, f)) := by rfl) (hbx : H[ix]? = some (bx, .cells news Tx) := by as_aux_lemma => kernel_rfl)
    (hok : okO E [] x = true := by as_aux_lemma => kernel_rfl) (hok2 : okO E [] y = true := by as_aux_lemma => kernel_rfl) (hx : rho E x = v := by as_aux_lemma => kernel_rfl) (hy : rho E y = sc bx 0 1 cx := by as_aux_lemma => kernel_rfl) : Runs1 P o a w K := by
  have hB : GrV e sz w v Fv m f := hS.mem.ars.each _ (List.mem_of_getElem? hj)
  have hxh : w.heap[bx]? = some (.cells news.toArray Tx (0, 0)) := hS.mem.heap _ (List.mem_of_getElem? hbx)
  have hcell : ∀ j u, news[j]? = some u → w.cell? ((⟨bx, 0, none⟩ : Addr).add j) = some u := by
    intro j u hj
    rw [addr_add _ rfl, Nat.zero_add]
    unfold World.cell?
    simp only [hxh]
    simpa using hj
  have hone' : ∀ u ∈ news, u.oneCell' = true := fun u hu => List.all_eq_true.1 hone u hu
  rcases hB with ⟨rfl, rfl, hF⟩ | ⟨gb, cap, rfl, h0, hrow, hcap, hF⟩
  · have hr := run_append_nil (P := P) (w := w) t o.type e i z ht hi hz ⟨bx, 0, none⟩ 1 cx news (by omega) hcell (by omega) (by omega) (by omega)
    have hge := grownCap_ge w 1 0 e
    have hh : GrV e sz (w.drew.alloc (.cells (news.toArray ++ Builtin.zeroCells z.cells (grownCap w 1 0 e - 1)) e (0, 0))) (sc w.heap.size 0 1 (grownCap w 1 0 e)) (one w.heap.size) (0 + 1) (appF f (0 * sz) news) := by
      refine .inr ⟨w.heap.size, grownCap w 1 0 e, rfl, by omega, ⟨_, alloc_at _ _, ?_, Nat.mul_le_mul_right _ hge, fun x hx => ?_⟩, hge, fun q => Iff.rfl⟩
      · simp only [Array.size_append, List.size_toArray, size_zeroCells, hzc, hl]
        have h1 : 1 * sz ≤ grownCap w 1 0 e * sz := Nat.mul_le_mul_right _ hge
        have h2 : (grownCap w 1 0 e - 1) * sz = grownCap w 1 0 e * sz - 1 * sz := Nat.mul_sub_right_distrib _ _ _
        have h3 : sz * (grownCap w 1 0 e - 1) = (grownCap w 1 0 e - 1) * sz := Nat.mul_comm _ _
        omega
      · rw [Array.getElem?_append_left (by simp; omega)]
        unfold appF
        rw [Nat.zero_mul, if_neg (by omega), Nat.sub_zero, List.getElem?_toArray, List.getD_eq_getElem?_getD, List.getElem?_eq_getElem (by omega)]
        rfl
    refine ⟨_, _, append_run ho (by rw [eval1 hS hok, eval1 hS hok2, hx, hy]; exact hr), ?_⟩
    rw [hd]
    have hA := hS.mem.stepA j (r' := grR e sz (sc w.heap.size 0 1 (grownCap w 1 0 e)) (one w.heap.size) (0 + 1, appF f (0 * sz) news)) hj hh ((Fr.alloc w _).to (fun k hk => hk.elim) (fun q hq => .inr (by rw [show q = w.heap.size from hq]; exact Nat.le_refl _)))
    exact h _ _ _ _ hh ((hS.to hA).put hdn)
  · by_cases hroom : m + 1 ≤ cap
    · obtain ⟨cur, hc, hcs, hfit, hh⟩ := gr_room hrow hroom hl
      have hr := run_append_room (P := P) w t o.type e i ht hi gb m cap cur hc ⟨bx, 0, none⟩ 1 cx news (by rw [h1, Nat.one_mul]; exact hl) hcell hone' hroom (by rw [h1]; exact hfit)
      rw [h1] at hr
      have hh2 : GrV e sz (w.setRow gb (cur.toList.take (m * sz) ++ news ++ cur.toList.drop (m * sz + news.length)).toArray) (sc gb 0 (m + 1) cap) (one gb) (m + 1) (appF f (m * sz) news) := .inr ⟨gb, cap, rfl, by omega, hh, hroom, fun q => Iff.rfl⟩
      refine ⟨_, _, append_run ho (by rw [eval1 hS hok, eval1 hS hok2, hx, hy]; exact hr), ?_⟩
      rw [hd]
      have hA := hS.mem.stepA j (r' := grR e sz (sc gb 0 (m + 1) cap) (one gb) (m + 1, appF f (m * sz) news)) hj hh2 ⟨rfl, rfl, rfl, by simp, fun q hq hn => setRow_other w gb q _ (fun e => hn ((hF q).2 e)), fun q hq => .inl ((hF q).2 hq)⟩
      exact h _ _ _ _ hh2 ((hS.to hA).put hdn)
    · obtain ⟨cur, hc, hcs, hnt, hf⟩ := id hrow
      have hmc : m = cap := by omega
      have hol : ((List.range (m * sz)).map f).length = m * i.size := by simp [h1]
      have hold : ∀ j v, ((List.range (m * sz)).map f)[j]? = some v → w.cell? ((⟨gb, 0, none⟩ : Addr).add j) = some v := by
        intro j v hj
        have hjn : j < m * sz := by
          have := (List.getElem?_eq_some_iff.1 hj).1
          simpa using this
        rw [List.getElem?_map, List.getElem?_range hjn] at hj
        simp only [Option.map_some, Option.some.injEq] at hj
        subst hj
        rw [addr_add _ rfl, Nat.zero_add]
        unfold World.cell?
        simp only [hc]
        exact hf _ hjn
      have hr := run_append_grow (P := P) (w := w) t o.type e i z ht hi hz ⟨gb, 0, none⟩ m cap _ hol hold ⟨bx, 0, none⟩ 1 cx news (by rw [h1, Nat.one_mul]; exact hl) hcell (by omega) (by omega) (grow_fits (by omega) hby hn)
      have hge := grownCap_ge w (m + 1) cap e
      have hm2 : (m + 1) * sz = m * sz + sz := Nat.succ_mul m sz
      have hml : (m + 1) * sz ≤ grownCap w (m + 1) cap e * sz := Nat.mul_le_mul_right _ hge
      have hh2 : GrV e sz (w.drew.alloc (.cells (((List.range (m * sz)).map f).toArray ++ news.toArray ++ Builtin.zeroCells z.cells (grownCap w (m + 1) cap e - (m + 1))) e (0, 0))) (sc w.heap.size 0 (m + 1) (grownCap w (m + 1) cap e)) (one w.heap.size) (m + 1) (appF f (m * sz) news) := by
        refine .inr ⟨w.heap.size, _, rfl, by omega, ⟨_, alloc_at _ _, ?_, hml, fun x hx => ?_⟩, hge, fun q => Iff.rfl⟩
        · simp only [Array.size_append, List.size_toArray, List.length_map, List.length_range, size_zeroCells, hzc, hl]
          have : (grownCap w (m + 1) cap e - (m + 1)) * sz = grownCap w (m + 1) cap e * sz - (m + 1) * sz := Nat.mul_sub_right_distrib _ _ _
          have h3 : sz * (grownCap w (m + 1) cap e - (m + 1)) = (grownCap w (m + 1) cap e - (m + 1)) * sz := Nat.mul_comm _ _
          omega
        · have hx1 : x < (((List.range (m * sz)).map f).toArray ++ news.toArray).size := by simp [hl]; omega
          rw [Array.getElem?_append_left hx1]
          unfold appF
          by_cases hx2 : x < m * sz
          · rw [if_pos hx2, Array.getElem?_append_left (by simpa using hx2)]
            simp [hx2]
          · rw [if_neg hx2, Array.getElem?_append_right (by simp; omega)]
            simp only [List.size_toArray, List.length_map, List.length_range, List.getElem?_toArray]
            rw [List.getD_eq_getElem?_getD, List.getElem?_eq_getElem (by omega)]
            rfl
      refine ⟨_, _, append_run ho (by rw [eval1 hS hok, eval1 hS hok2, hx, hy]; exact hr), ?_⟩
      rw [hd]
      have hA := hS.mem.stepA j (r' := grR e sz (sc w.heap.size 0 (m + 1) (grownCap w (m + 1) cap e)) (one w.heap.size) (m + 1, appF f (m * sz) news)) hj hh2 ((Fr.alloc w _).to (fun k hk => hk.elim) (fun q hq => .inr (by rw [show q = w.heap.size from hq]; exact Nat.le_refl _)))
      exact h _ _ _ _ hh2 ((hS.to hA).put hdn)

/-- A slice that begins with nothing. -/
theorem WS.grNew (h : WS c H A w) (e : TypeId) (sz : Nat) (f : Nat → Value) : WS c H (A ++ [grR e sz vnil no (0, f)]) w :=
  h.newA (r := grR e sz vnil no (0, f)) (.inl ⟨rfl, rfl, fun _ h => h⟩) ((Fr.refl w no).to (fun k hk => hk.elim) (fun k hk => hk.elim))

/-- Told in another way. -/
theorem WS.grTell {e : TypeId} {sz m : Nat} {v : Value} {F : Nat → Prop} {f : Nat → Value} (h : WS c H A w) (j : Nat) (f' : Nat → Value) (hf : ∀ x, x < m * sz → f x = f' x) (hj : A[j]? = some (grR e sz v F (m, f)) := by rfl) : WS c H (A.set j (grR e sz v F (m, f'))) w := by
  have hB : GrV e sz w v F m f := h.ars.each _ (List.mem_of_getElem? hj)
  refine h.stepA j (r' := grR e sz v F (m, f')) hj ?_ ((Fr.refl w no).to (fun k hk => hk.elim) (fun k hk => .inl hk))
  rcases hB with h | ⟨g, cap, h1, h2, h3, h4, hF⟩
  · exact .inl h
  · exact .inr ⟨g, cap, h1, h2, HE.row_eq h3 (fun x hx => (hf x hx).symm), h4, hF⟩

theorem WS.grRe {e : TypeId} {sz m m' : Nat} {v v' : Value} {F : Nat → Prop} {f : Nat → Value} (h : WS c H A w) (j : Nat) (hv : v = v') (hm : m = m') (hj : A[j]? = some (grR e sz v F (m, f)) := by rfl) : WS c H (A.set j (grR e sz v' F (m', f))) w := by
  subst hv hm
  exact h.grTell j f (fun _ _ => rfl) hj

/-- What has grown lies there as a block of our own. -/
theorem WS.grOpen {e : TypeId} {sz m : Nat} {v : Value} {F : Nat → Prop} {f : Nat → Value} (h : WS c H [grR e sz v F (m, f)] w) (hm : 0 < m) : ∃ g cap, v = sc g 0 m cap ∧ m ≤ cap ∧ WS c (H ++ [(g, .row e (m * sz) (cap * sz) f)]) [] w := by
  have hB : GrV e sz w v F m f := h.res 0
  rcases hB with ⟨_, h1, _⟩ | ⟨g, cap, rfl, h2, h3, h4, hF⟩
  · omega
  have hin : inF [grR e sz (sc g 0 m cap) F (m, f)] g := .inl ((hF g).2 rfl)
  refine ⟨g, cap, rfl, h4, fun q hq => ?_, ?_, fun q hq ho => ?_, fun q hq hk => hk.elim, AllAr.nil w, h.fr.to (fun k hk => .inl hk) (fun k hk => hk.elim)⟩
  · rcases List.mem_append.1 hq with hq | hq
    · exact h.heap q hq
    · obtain rfl := List.mem_singleton.1 hq; exact h3
  · rw [List.pairwise_append]
    refine ⟨h.apart, List.pairwise_singleton _ _, fun p hp q hq ho e => ?_⟩
    obtain rfl := List.mem_singleton.1 hq
    exact h.free p hp (show inF _ p.1 from (show p.1 = g from e) ▸ hin)
  · rcases List.mem_append.1 hq with hq | hq
    · exact h.mine q hq ho
    · obtain rfl := List.mem_singleton.1 hq
      exact (h.fr.foot _ hin).symm
end

section
variable {P : Program} {c : Cx} {n : Nat} {E : Env} {H : Heap} {A : List Res} {a : Act} {w : World}
end

theorem gr_one {f : Nat → Value} {m : Nat} {v : Value} (h : v = f m) : ∀ x, x < (m + 1) * 1 → appF f (m * 1) [v] x = f x := by
  intro x hx
  unfold appF
  by_cases h1 : x < m * 1
  · rw [if_pos h1]
  · rw [if_neg h1]
    obtain rfl : x = m := by omega
    rw [show x - x * 1 = 0 by omega]; exact h

end Go.Proofs.YtnbkafnikpbmbaaDoor.K

/-
  A walk by computing: regions that draw their order, where operations that turn memory may come in one order or another: all are walked.
-/
namespace Go.Proofs.YtnbkafnikpbmbaaDoor.K
set_option linter.unusedSimpArgs false
set_option linter.unusedVariables false

section
variable {P : Program} {ops : Array Oper} {V : World → Prop} {Q : Exit → Act → World → Prop}

variable {c : Cx} {n : Nat} {E : Env} {H Hf : Heap} {A : List Res} {a : Act} {w : World} {R : Act → World → Prop}
end
end Go.Proofs.YtnbkafnikpbmbaaDoor.K

/-
  Records of fields, plainly: widths, where a field begins, what fits, what is put and told.
-/
namespace Go.Proofs.YtnbkafnikpbmbaaDoor.K
set_option linter.unusedSimpArgs false
set_option linter.unusedVariables false

def okw (w : Int) : Bool := w == 1 || w == 2 || w == 4 || w == 8
def okW (l : List Int) : Prop := 0 < l.length ∧ l.length ≤ 32 ∧ l.all okw = true
/-- The first n widths together. -/
def sumT (l : List Int) : Nat → Int
  | 0 => 0
  | n + 1 => sumT l n + l.getD n 0

instance (l : List Int) : Decidable (okW l) := by unfold okW; exact inferInstance
theorem okw_in {w : Int} (h : okw w = true) : w = 1 ∨ w = 2 ∨ w = 4 ∨ w = 8 := by
  unfold okw at h; simp at h; omega
theorem all_at {l : List Int} (h : l.all okw = true) {i : Nat} (hi : i < l.length) : okw (l.getD i 0) = true := by
  rw [List.getD_eq_getElem?_getD, List.getElem?_eq_getElem hi]
  exact List.all_eq_true.1 h _ (List.getElem_mem hi)
theorem okW_at {l : List Int} (h : okW l) {i : Nat} (hi : i < l.length) : l.getD i 0 = 1 ∨ l.getD i 0 = 2 ∨ l.getD i 0 = 4 ∨ l.getD i 0 = 8 := okw_in (all_at h.2.2 hi)
theorem okW_le {l : List Int} (h : okW l) (i : Nat) : 0 ≤ l.getD i 0 ∧ l.getD i 0 ≤ 8 := by
  rcases Nat.lt_or_ge i l.length with hi | hi
  · have := okW_at h hi; omega
  · rw [List.getD_eq_getElem?_getD, List.getElem?_eq_none hi]; decide
theorem sumT_bd {l : List Int} (h : okW l) : ∀ n : Nat, 0 ≤ sumT l n ∧ sumT l n ≤ 8 * (n : Int)
  | 0 => by unfold sumT; omega
  | n + 1 => by
    have := sumT_bd h n; have := okW_le h n
    unfold sumT; omega
theorem sumT_mono {l : List Int} (h : okW l) {i : Nat} : ∀ {n : Nat}, i + 1 ≤ n → sumT l i + l.getD i 0 ≤ sumT l n
  | 0, hi => by omega
  | n + 1, hi => by
    rcases Nat.lt_or_ge i n with h1 | h1
    · have := sumT_mono h (i := i) (n := n) (by omega); have := okW_le h n; show _ ≤ sumT l n + l.getD n 0; omega
    · obtain rfl : i = n := by omega
      show _ ≤ sumT l i + l.getD i 0; omega
/-- Where a field begins. -/
def atW (l : List Int) (i : Int) : Int := if 0 ≤ i ∧ i < (l.length : Int) then sumT l i.toNat else 0
theorem atW_in {l : List Int} {i : Int} (h : 0 ≤ i ∧ i < (l.length : Int)) : sumT l i.toNat = atW l i := by unfold atW; rw [if_pos h]
def hasW (l : List Int) (i : Int) : Bool := decide (0 ≤ i) && decide (i < (l.length : Int))
/-- Has a number no more bytes than a field? -/
def fitW (w x : Int) : Bool := w == 8 || x / 2 ^ (8 * w).toNat == 0
/-- What Set makes of an arena, and answers. -/
def setE (l : List Int) (m : AM) (o z i x : Int) : Int := if hasW l i then (if fitW (l.getD i.toNat 0) x then vstE m o z (atW l i) (l.getD i.toNat 0) else 16) else 2
def setM (l : List Int) (m : AM) (o z i x : Int) : AM := if hasW l i then (if fitW (l.getD i.toNat 0) x then vstM m o z (atW l i) (l.getD i.toNat 0) x else m) else m
theorem set_4 {l : List Int} {m : AM} {o z i x : Int} (h : hasW l i = false) : m = setM l m o z i x := by unfold setM; rw [h]; rfl
theorem set_5 {l : List Int} {m : AM} {o z i x : Int} (h2 : fitW (l.getD i.toNat 0) x = false) : m = setM l m o z i x := by unfold setM; rw [h2]; split <;> rfl
def getW (l : List Int) (m : AM) (o z i : Int) : Int := if hasW l i then vldV m o z (atW l i) (l.getD i.toNat 0) else 0
theorem hasW_in {l : List Int} {i : Int} (h : hasW l i = true) : 0 ≤ i ∧ i < (l.length : Int) := by unfold hasW at h; simpa using h

/-- A view's bytes. -/
def vbyE (m : AM) (o z a n : Int) : Int := if vchE z a n = 0 then chkE m (o + a) n else 3
/-- All fields are put, one behind the other. -/
def putA (l : List Int) (o z : Int) (nums : Nat → Nat) (m : AM) : Nat → AM
  | 0 => m
  | k + 1 => setM l (putA l o z nums m k) o z (k : Int) ((nums k : Nat) : Int)
def fitA (l : List Int) (nums : Nat → Nat) : Nat → Bool
  | 0 => true
  | k + 1 => fitA l nums k && fitW (l.getD k 0) ((nums k : Nat) : Int)
def pRE (l : List Int) (nn : Nat) (nums : Nat → Nat) (m : AM) (o z : Int) : Int := if nn ≠ l.length then 2 else if fitA l nums l.length then vbyE m o z 0 (sumT l l.length) else 16
def pRM (l : List Int) (nn : Nat) (nums : Nat → Nat) (m : AM) (o z : Int) : AM := if nn ≠ l.length then m else if fitA l nums l.length then (if vbyE m o z 0 (sumT l l.length) = 0 then putA l o z nums m l.length else m) else m
end Go.Proofs.YtnbkafnikpbmbaaDoor.K

/-
  Walks, printed by w2.py.
-/
namespace Go.Proofs.YtnbkafnikpbmbaaDoor.K
set_option linter.unusedVariables false
set_option linter.unusedSimpArgs false

end Go.Proofs.YtnbkafnikpbmbaaDoor.K

/-
  Walks, printed by w2.py.
-/
namespace Go.Proofs.YtnbkafnikpbmbaaDoor.K
set_option linter.unusedVariables false
set_option linter.unusedSimpArgs false

end Go.Proofs.YtnbkafnikpbmbaaDoor.K

/-
  Walks, printed by w2.py.
-/
namespace Go.Proofs.YtnbkafnikpbmbaaDoor.K
set_option linter.unusedVariables false
set_option linter.unusedSimpArgs false

set_option maxRecDepth 100000 in
set_option maxHeartbeats 1000000 in
theorem law04_Awake (w : World) (hh0 : HE.holds w 0 (.fn 0 64 dbT)) :
    Calls Tryd.prog 114 #[] w fun e w' => e = .returned (vb true) ∧ Fr w w' no no := by
 refine enter (args := []) (D := no) (A := []) Tryd.func114 rfl 2 rfl [(0, .fn 0 64 dbT)] (WS.startL ⟨⟨rfl, hh0⟩, trivial⟩) fun ac hS => ?_
 refine hS.regS [0] [] fun _ => seg [] [(0, none)] [] trivial fun ac wd hS => ?_
 refine wp_region_seq ?_
 refine hS.call0 55 #[] 1 (law04_awake  _ (hS.mem.get 0 0 (.fn 0 64 dbT)) ) fun ac wd hS => ?_
 refine hS.opsC 1 [0] [] fun _ => seg [(0, vb true)] [(0, none)] [] trivial fun ac wd hS => ?_
 refine list_nil_seq ?_
 refine wp_ret ?_
 refine St.retC 0 hS (vb true) [] trivial fun hw => ?_
 refine ⟨retd rfl, hw.fr0⟩

end Go.Proofs.YtnbkafnikpbmbaaDoor.K
