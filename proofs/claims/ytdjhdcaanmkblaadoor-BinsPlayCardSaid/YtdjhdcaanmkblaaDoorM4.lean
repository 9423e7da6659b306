import Derived.Test.YtdjhdcaanmkblaaDoorM3
import Derived.Test.YtdjhdcaanmkblaaDoorProg
/-
  A walk by computing: slices that grow from nothing, by elements of any number of cells, as something that a walk holds.
-/
namespace Go.Proofs.YtdjhdcaanmkblaaDoor.K
set_option linter.unusedSimpArgs false
set_option linter.unusedVariables false

/-- What a slice that grows holds: so many elements, of sz cells each. -/
def GrV (e : TypeId) (sz : Nat) (w : World) (v : Value) (F : Nat → Prop) (n : Nat) (f : Nat → Value) : Prop :=
  (v = vnil ∧ n = 0 ∧ ∀ k, ¬ F k) ∨ ∃ g cap, v = sc g 0 n cap ∧ 0 < n ∧ HE.holds w g (.row e (n * sz) (cap * sz) f) ∧ n ≤ cap ∧ ∀ k, F k ↔ k = g

theorem GrV.slice {e : TypeId} {sz : Nat} {w : World} {v : Value} {F : Nat → Prop} {n : Nat} {f : Nat → Value} (h : GrV e sz w v F n f) : ∃ x c, v = .slice x n c := by
  rcases h with ⟨rfl, rfl, _⟩ | ⟨g, cap, rfl, _⟩
  · exact ⟨none, 0, rfl⟩
  · exact ⟨_, _, rfl⟩

def grR (e : TypeId) (sz : Nat) (v : Value) (F : Nat → Prop) (q : Nat × (Nat → Value)) : Res := ⟨F, fun w => GrV e sz w v F q.1 q.2, fun w h k hk => by
  rcases h with ⟨_, _, h⟩ | ⟨g, cap, _, _, h, _, hF⟩
  · exact absurd hk (h k)
  · rw [(hF k).1 hk]; exact h.lt, fun w w' h he => by
  rcases h with h | ⟨g, cap, h1, h2, h3, h4, hF⟩
  · exact .inl h
  · exact .inr ⟨g, cap, h1, h2, h3.congr (he g ((hF g).2 rfl)), h4, hF⟩⟩

theorem grow_fits {n cap bytes : Nat} (h : cap < n + 1) (hb : bytes ≤ 64) (hn : n + 1 ≤ 2 ^ 32) : Builtin.nextslicecap (n + 1) cap * bytes ≤ 281474976710656 := growslice_fits (by omega) (by
  have : (n + 1) * bytes ≤ 2 ^ 32 * 64 := Nat.mul_le_mul hn hb
  omega)

section
variable {P : Program} {c : Cx} {n : Nat} {E : Env} {H : Heap} {A : List Res} {a : Act} {w : World} {o : Oper}

theorem gr_room {e : TypeId} {sz : Nat} {w : World} {g cap n : Nat} {f : Nat → Value} (hrow : HE.holds w g (.row e (n * sz) (cap * sz) f)) (hr : n + 1 ≤ cap) {news : List Value} (hl : news.length = sz) :
    ∃ cur, w.heap[g]? = some (.cells cur e (0, 0)) ∧ cur.size = cap * sz ∧ n * sz + news.length ≤ cur.size ∧
      HE.holds (w.setRow g (cur.toList.take (n * sz) ++ news ++ cur.toList.drop (n * sz + news.length)).toArray) g (.row e ((n + 1) * sz) (cap * sz) (appF f (n * sz) news)) := by
  obtain ⟨cur, hc, hsz, hnt, hf⟩ := hrow
  have hcl : cur.toList.length = cap * sz := by simpa using hsz
  have hm : (n + 1) * sz ≤ cap * sz := Nat.mul_le_mul_right _ hr
  have hm2 : (n + 1) * sz = n * sz + sz := Nat.succ_mul n sz
  refine ⟨cur, hc, hsz, by omega, ⟨_, setRow_heap w g cur _ e _ hc, ?_, hm, fun x hx => ?_⟩⟩
  · simp only [List.size_toArray, List.length_append, List.length_take, List.length_drop, hcl]
    omega
  · rw [List.getElem?_toArray]
    unfold appF
    by_cases hx2 : x < n * sz
    · rw [if_pos hx2, List.append_assoc, List.getElem?_append_left (by rw [List.length_take, hcl]; omega), List.getElem?_take_of_lt hx2, Array.getElem?_toList]
      exact hf x hx2
    · rw [if_neg hx2, List.append_assoc, List.getElem?_append_right (by rw [List.length_take, hcl]; omega), List.length_take, hcl, show min (n * sz) (cap * sz) = n * sz by omega, List.getElem?_append_left (by omega), List.getD_eq_getElem?_getD, List.getElem?_eq_getElem (by omega)]
      rfl

/-- append of one element. -/
theorem St.appV {K : Act → World → Prop} {v : Value} {Fv : Nat → Prop} {m sz : Nat} {f : Nat → Value} {e : TypeId} (j : Nat) (hS : St c n E H A a w) (x y : Operand) (t : TypeId) (ho : o.op = .call { callee := .builtin .append, args := #[x, y], argTypes := #[t, t] }) {d : Nat} (hd : o.dst = some d) (hdn : d < n) {z : Value} {i : TypeInfo} (ht : P.underlying t = some (.slice e)) (hi : P.info? e = some i) (hz : i.zero = some z) (h1 : i.size = sz) (hby : i.bytes ≤ 64) (hzc : z.cells.size = sz) (hsz : 0 < sz)
    {bx cx : Nat} {news : List Value} {Tx : TypeId} (ix : Nat) (hone : news.all (fun u => u.oneCell') = true) (hl : news.length = sz) (hn : m + 1 ≤ 2 ^ 32)
    (h : ∀ a' w' v' F', GrV e sz w' v' F' (m + 1) (appF f (m * sz) news) → St c n (putE E d [] v') H (A.set j (grR e sz v' F' (m + 1, appF f (m * sz) news))) a' w' → K a' w')
    (hj : A[j]? = some (grR e sz v Fv (m, f)) := by rfl) (hbx : H[ix]? = some (bx, .cells news Tx) := by as_aux_lemma => kernel_rfl)
    (hok : okO E [] x = true := by as_aux_lemma => kernel_rfl) (hok2 : okO E [] y = true := by as_aux_lemma => kernel_rfl) (hx : rho E x = v := by as_aux_lemma => kernel_rfl) (hy : rho E y = sc bx 0 1 cx := by as_aux_lemma => kernel_rfl) : Runs1 P o a w K := by
  have hB : GrV e sz w v Fv m f := hS.mem.ars.each _ (List.mem_of_getElem? hj)
  have hxh : w.heap[bx]? = some (.cells news.toArray Tx (0, 0)) := hS.mem.heap _ (List.mem_of_getElem? hbx)
  have hcell : ∀ j u, news[j]? = some u → w.cell? ((⟨bx, 0, none⟩ : Addr).add j) = some u := by
    intro j u hj
    rw [addr_add _ rfl, Nat.zero_add]
    unfold World.cell?
    simp only [hxh]
    simpa using hj
  have hone' : ∀ u ∈ news, u.oneCell' = true := fun u hu => List.all_eq_true.1 hone u hu
  rcases hB with ⟨rfl, rfl, hF⟩ | ⟨gb, cap, rfl, h0, hrow, hcap, hF⟩
  · have hr := run_append_nil (P := P) (w := w) t o.type e i z ht hi hz ⟨bx, 0, none⟩ 1 cx news (by omega) hcell (by omega) (by omega) (by omega)
    have hge := grownCap_ge w 1 0 e
    have hh : GrV e sz (w.drew.alloc (.cells (news.toArray ++ Builtin.zeroCells z.cells (grownCap w 1 0 e - 1)) e (0, 0))) (sc w.heap.size 0 1 (grownCap w 1 0 e)) (one w.heap.size) (0 + 1) (appF f (0 * sz) news) := by
      refine .inr ⟨w.heap.size, grownCap w 1 0 e, rfl, by omega, ⟨_, alloc_at _ _, ?_, Nat.mul_le_mul_right _ hge, fun x hx => ?_⟩, hge, fun q => Iff.rfl⟩
      · simp only [Array.size_append, List.size_toArray, size_zeroCells, hzc, hl]
        have h1 : 1 * sz ≤ grownCap w 1 0 e * sz := Nat.mul_le_mul_right _ hge
        have h2 : (grownCap w 1 0 e - 1) * sz = grownCap w 1 0 e * sz - 1 * sz := Nat.mul_sub_right_distrib _ _ _
        have h3 : sz * (grownCap w 1 0 e - 1) = (grownCap w 1 0 e - 1) * sz := Nat.mul_comm _ _
        omega
      · rw [Array.getElem?_append_left (by simp; omega)]
        unfold appF
        rw [Nat.zero_mul, if_neg (by omega), Nat.sub_zero, List.getElem?_toArray, List.getD_eq_getElem?_getD, List.getElem?_eq_getElem (by omega)]
        rfl
    refine ⟨_, _, append_run ho (by rw [eval1 hS hok, eval1 hS hok2, hx, hy]; exact hr), ?_⟩
    rw [hd]
    have hA := hS.mem.stepA j (r' := grR e sz (sc w.heap.size 0 1 (grownCap w 1 0 e)) (one w.heap.size) (0 + 1, appF f (0 * sz) news)) hj hh ((Fr.alloc w _).to (fun k hk => hk.elim) (fun q hq => .inr (by rw [show q = w.heap.size from hq]; exact Nat.le_refl _)))
    exact h _ _ _ _ hh ((hS.to hA).put hdn)
  · by_cases hroom : m + 1 ≤ cap
    · obtain ⟨cur, hc, hcs, hfit, hh⟩ := gr_room hrow hroom hl
      have hr := run_append_room (P := P) w t o.type e i ht hi gb m cap cur hc ⟨bx, 0, none⟩ 1 cx news (by rw [h1, Nat.one_mul]; exact hl) hcell hone' hroom (by rw [h1]; exact hfit)
      rw [h1] at hr
      have hh2 : GrV e sz (w.setRow gb (cur.toList.take (m * sz) ++ news ++ cur.toList.drop (m * sz + news.length)).toArray) (sc gb 0 (m + 1) cap) (one gb) (m + 1) (appF f (m * sz) news) := .inr ⟨gb, cap, rfl, by omega, hh, hroom, fun q => Iff.rfl⟩
      refine ⟨_, _, append_run ho (by rw [eval1 hS hok, eval1 hS hok2, hx, hy]; exact hr), ?_⟩
      rw [hd]
      have hA := hS.mem.stepA j (r' := grR e sz (sc gb 0 (m + 1) cap) (one gb) (m + 1, appF f (m * sz) news)) hj hh2 ⟨rfl, rfl, rfl, by simp, fun q hq hn => setRow_other w gb q _ (fun e => hn ((hF q).2 e)), fun q hq => .inl ((hF q).2 hq)⟩
      exact h _ _ _ _ hh2 ((hS.to hA).put hdn)
    · obtain ⟨cur, hc, hcs, hnt, hf⟩ := id hrow
      have hmc : m = cap := by omega
      have hol : ((List.range (m * sz)).map f).length = m * i.size := by simp [h1]
      have hold : ∀ j v, ((List.range (m * sz)).map f)[j]? = some v → w.cell? ((⟨gb, 0, none⟩ : Addr).add j) = some v := by
        intro j v hj
        have hjn : j < m * sz := by
          have := (List.getElem?_eq_some_iff.1 hj).1
          simpa using this
        rw [List.getElem?_map, List.getElem?_range hjn] at hj
        simp only [Option.map_some, Option.some.injEq] at hj
        subst hj
        rw [addr_add _ rfl, Nat.zero_add]
        unfold World.cell?
        simp only [hc]
        exact hf _ hjn
      have hr := run_append_grow (P := P) (w := w) t o.type e i z ht hi hz ⟨gb, 0, none⟩ m cap _ hol hold ⟨bx, 0, none⟩ 1 cx news (by rw [h1, Nat.one_mul]; exact hl) hcell (by omega) (by omega) (grow_fits (by omega) hby hn)
      have hge := grownCap_ge w (m + 1) cap e
      have hm2 : (m + 1) * sz = m * sz + sz := Nat.succ_mul m sz
      have hml : (m + 1) * sz ≤ grownCap w (m + 1) cap e * sz := Nat.mul_le_mul_right _ hge
      have hh2 : GrV e sz (w.drew.alloc (.cells (((List.range (m * sz)).map f).toArray ++ news.toArray ++ Builtin.zeroCells z.cells (grownCap w (m + 1) cap e - (m + 1))) e (0, 0))) (sc w.heap.size 0 (m + 1) (grownCap w (m + 1) cap e)) (one w.heap.size) (m + 1) (appF f (m * sz) news) := by
        refine .inr ⟨w.heap.size, _, rfl, by omega, ⟨_, alloc_at _ _, ?_, hml, fun x hx => ?_⟩, hge, fun q => Iff.rfl⟩
        · simp only [Array.size_append, List.size_toArray, List.length_map, List.length_range, size_zeroCells, hzc, hl]
          have : (grownCap w (m + 1) cap e - (m + 1)) * sz = grownCap w (m + 1) cap e * sz - (m + 1) * sz := Nat.mul_sub_right_distrib _ _ _
          have h3 : sz * (grownCap w (m + 1) cap e - (m + 1)) = (grownCap w (m + 1) cap e - (m + 1)) * sz := Nat.mul_comm _ _
          omega
        · have hx1 : x < (((List.range (m * sz)).map f).toArray ++ news.toArray).size := by simp [hl]; omega
          rw [Array.getElem?_append_left hx1]
          unfold appF
          by_cases hx2 : x < m * sz
          · rw [if_pos hx2, Array.getElem?_append_left (by simpa using hx2)]
            simp [hx2]
          · rw [if_neg hx2, Array.getElem?_append_right (by simp; omega)]
            simp only [List.size_toArray, List.length_map, List.length_range, List.getElem?_toArray]
            rw [List.getD_eq_getElem?_getD, List.getElem?_eq_getElem (by omega)]
            rfl
      refine ⟨_, _, append_run ho (by rw [eval1 hS hok, eval1 hS hok2, hx, hy]; exact hr), ?_⟩
      rw [hd]
      have hA := hS.mem.stepA j (r' := grR e sz (sc w.heap.size 0 (m + 1) (grownCap w (m + 1) cap e)) (one w.heap.size) (m + 1, appF f (m * sz) news)) hj hh2 ((Fr.alloc w _).to (fun k hk => hk.elim) (fun q hq => .inr (by rw [show q = w.heap.size from hq]; exact Nat.le_refl _)))
      exact h _ _ _ _ hh2 ((hS.to hA).put hdn)

/-- A slice that begins with nothing. -/
theorem WS.grNew (h : WS c H A w) (e : TypeId) (sz : Nat) (f : Nat → Value) : WS c H (A ++ [grR e sz vnil no (0, f)]) w :=
  h.newA (r := grR e sz vnil no (0, f)) (.inl ⟨rfl, rfl, fun _ h => h⟩) ((Fr.refl w no).to (fun k hk => hk.elim) (fun k hk => hk.elim))

/-- Told in another way. -/
theorem WS.grTell {e : TypeId} {sz m : Nat} {v : Value} {F : Nat → Prop} {f : Nat → Value} (h : WS c H A w) (j : Nat) (f' : Nat → Value) (hf : ∀ x, x < m * sz → f x = f' x) (hj : A[j]? = some (grR e sz v F (m, f)) := by rfl) : WS c H (A.set j (grR e sz v F (m, f'))) w := by
  have hB : GrV e sz w v F m f := h.ars.each _ (List.mem_of_getElem? hj)
  refine h.stepA j (r' := grR e sz v F (m, f')) hj ?_ ((Fr.refl w no).to (fun k hk => hk.elim) (fun k hk => .inl hk))
  rcases hB with h | ⟨g, cap, h1, h2, h3, h4, hF⟩
  · exact .inl h
  · exact .inr ⟨g, cap, h1, h2, HE.row_eq h3 (fun x hx => (hf x hx).symm), h4, hF⟩

theorem WS.grRe {e : TypeId} {sz m m' : Nat} {v v' : Value} {F : Nat → Prop} {f : Nat → Value} (h : WS c H A w) (j : Nat) (hv : v = v') (hm : m = m') (hj : A[j]? = some (grR e sz v F (m, f)) := by rfl) : WS c H (A.set j (grR e sz v' F (m', f))) w := by
  subst hv hm
  exact h.grTell j f (fun _ _ => rfl) hj

/-- What has grown lies there as a block of our own. -/
theorem WS.grOpen {e : TypeId} {sz m : Nat} {v : Value} {F : Nat → Prop} {f : Nat → Value} (h : WS c H [grR e sz v F (m, f)] w) (hm : 0 < m) : ∃ g cap, v = sc g 0 m cap ∧ m ≤ cap ∧ WS c (H ++ [(g, .row e (m * sz) (cap * sz) f)]) [] w := by
  have hB : GrV e sz w v F m f := h.res 0
  rcases hB with ⟨_, h1, _⟩ | ⟨g, cap, rfl, h2, h3, h4, hF⟩
  · omega
  have hin : inF [grR e sz (sc g 0 m cap) F (m, f)] g := .inl ((hF g).2 rfl)
  refine ⟨g, cap, rfl, h4, fun q hq => ?_, ?_, fun q hq ho => ?_, fun q hq hk => hk.elim, AllAr.nil w, h.fr.to (fun k hk => .inl hk) (fun k hk => hk.elim)⟩
  · rcases List.mem_append.1 hq with hq | hq
    · exact h.heap q hq
    · obtain rfl := List.mem_singleton.1 hq; exact h3
  · rw [List.pairwise_append]
    refine ⟨h.apart, List.pairwise_singleton _ _, fun p hp q hq ho e => ?_⟩
    obtain rfl := List.mem_singleton.1 hq
    exact h.free p hp (show inF _ p.1 from (show p.1 = g from e) ▸ hin)
  · rcases List.mem_append.1 hq with hq | hq
    · exact h.mine q hq ho
    · obtain rfl := List.mem_singleton.1 hq
      exact (h.fr.foot _ hin).symm
end

section
variable {P : Program} {c : Cx} {n : Nat} {E : Env} {H : Heap} {A : List Res} {a : Act} {w : World}
/-- The answers one by one, each with its own hint. -/
def evRess (P : Program) (E : Env) (H : Heap) : List Nat → List ResultVar → Option (List Value × List Prop)
  | _, [] => some ([], [])
  | hs, .tmp t :: r => match okO E [] (.tmp t), evRess P E H hs r with
    | true, some (vs, ob) => some (rho E (.tmp t) :: vs, ob)
    | _, _ => none
  | h :: hs, .cell t ty :: r => match okO E [] (.tmp t), evRess P E H hs r with
    | true, some (vs, ob) => match absRun P h (fun _ => 0) true (do loadVar ty (← asAddr (rho E (.tmp t)))) ⟨H, 0, []⟩ with
      | some (v, s) => some (v :: vs, s.ob ++ ob)
      | none => none
    | _, _ => none
  | [], .cell _ _ :: _ => none
def evResM (P : Program) (fn : Func) (hs : List Nat) (E : Env) (H : Heap) : Option (Value × List Prop) :=
  match evRess P E H hs fn.results.toList with
  | some (vs, ob) => match Nat.beq vs.length 1 with
    | true => none
    | false => some (.tuple vs.toArray, ob)
  | none => none
theorem allP_app : ∀ {l k : List Prop}, AllP (l ++ k) → AllP l ∧ AllP k
  | [], _, h => ⟨trivial, h⟩
  | _ :: _, _, h => ⟨⟨h.1, (allP_app h.2).1⟩, (allP_app h.2).2⟩
def oneRes (a : Act) : ResultVar → Sem Value
  | .tmp t => pure (a.tmps.getD t undef)
  | .cell t ty => do loadVar ty (← asAddr (a.tmps.getD t undef))
theorem evRess_run (hS : St c n E H A a w) : ∀ (l : List ResultVar) (hs : List Nat) (vs : List Value) (ob : List Prop), evRess P E H hs l = some (vs, ob) → AllP ob →
    (l.mapM (oneRes a)).run P w = .ok vs w
  | [], hs, vs, ob, he, _ => by
    simp only [evRess, Option.some.injEq, Prod.mk.injEq] at he
    obtain ⟨rfl, _⟩ := he
    rfl
  | .tmp t :: r, hs, vs, ob, he, hob => by
    simp only [evRess] at he
    split at he
    · rename_i vs' ob' hk hr
      simp only [Option.some.injEq, Prod.mk.injEq] at he
      obtain ⟨rfl, rfl⟩ := he
      have e1 : a.tmps.getD t undef = rho E (.tmp t) := agree_eval (C := []) hS.env (fun p hp => nomatch hp) hk
      rw [List.mapM_cons]
      rw [runBind (w' := w) (x := rho E (.tmp t)) (by simp only [oneRes]; rw [e1]; rfl), runBind (w' := w) (x := vs') (evRess_run hS r hs vs' ob' hr hob)]
      rfl
    · simp at he
  | .cell t ty :: r, [], vs, ob, he, _ => by simp [evRess] at he
  | .cell t ty :: r, h :: hs, vs, ob, he, hob => by
    simp only [evRess] at he
    split at he
    · rename_i vs' ob' hk hr
      split at he
      · rename_i v s hv
        simp only [Option.some.injEq, Prod.mk.injEq] at he
        obtain ⟨rfl, rfl⟩ := he
        obtain ⟨o1, o2⟩ := allP_app hob
        have e1 : a.tmps.getD t undef = rho E (.tmp t) := agree_eval (C := []) hS.env (fun p hp => nomatch hp) hk
        rw [absRun_any P h _ (fun j => w.heap.size + j)] at hv
        obtain ⟨w', h1, _, _, _, h5⟩ := absRun_sound P h _ true _ _ w _ _ hv hS.mem.fine o1
        have hw : w' = w := (h5 rfl).1
        rw [hw] at h1
        rw [List.mapM_cons]
        rw [runBind (w' := w) (x := v) (by simp only [oneRes]; rw [e1]; exact h1), runBind (w' := w) (x := vs') (evRess_run hS r hs vs' ob' hr o2)]
        rfl
      · simp at he
    · simp at he
theorem evResM_run {fn : Func} {hs : List Nat} {v : Value} {ob : List Prop} (hS : St c n E H A a w) (he : evResM P fn hs E H = some (v, ob)) (hob : AllP ob) : (results fn a.tmps).run P w = .ok v w := by
  unfold evResM at he
  split at he
  · rename_i vs ob' hr
    split at he
    · simp at he
    · rename_i hl
      simp only [Option.some.injEq, Prod.mk.injEq] at he
      obtain ⟨rfl, rfl⟩ := he
      have h1 := evRess_run hS fn.results.toList hs vs _ hr hob
      unfold results
      rw [mapM_congr (g := oneRes a) _ (fun x _ => by cases x <;> rfl), Array.mapM_eq_mapM_toList, runBind (w' := w) (x := vs.toArray)]
      · have : ¬ vs.toArray.size = 1 := fun e => by
          have : vs.length = 1 := by simpa using e
          rw [this] at hl; simp at hl
        rw [dif_neg this]; rfl
      · rw [map_eq_pure_bind]
        rw [runBind (w' := w) (x := vs) h1]; rfl
  · simp at he
theorem St.retM {fn : Func} {R : Ending → World → Prop} (hs : List Nat) (hS : St c n E H A a w) (v : Value) (ob : List Ob) (hq : obQ ob) (hR : WS c H A w → R (.returned v) w) (he : evResM P fn hs E H = some (v, obP ob) := by as_aux_lemma => kernel_rfl) : bodyPost P fn R .ret a w :=
  bodyPost_ret (evResM_run hS he hq.all) hS.defers (hR hS.mem)
end

/-- u64 numbers, told as whole ones. -/
def u64z (wi : Nat → Int) (o x : Nat) : Value := vu (wi (x - o))
theorem u64z_rel (wi : Nat → Int) (o i : Nat) : u64z wi o (o + i * 1) = vu (wi i) := by unfold u64z; rw [Nat.mul_one, Nat.add_sub_cancel_left]
theorem gr_one {f : Nat → Value} {m : Nat} {v : Value} (h : v = f m) : ∀ x, x < (m + 1) * 1 → appF f (m * 1) [v] x = f x := by
  intro x hx
  unfold appF
  by_cases h1 : x < m * 1
  · rw [if_pos h1]
  · rw [if_neg h1]
    obtain rfl : x = m := by omega
    rw [show x - x * 1 = 0 by omega]; exact h

end Go.Proofs.YtdjhdcaanmkblaaDoor.K

/-
  A walk by computing: regions that draw their order, where operations that turn memory may come in one order or another: all are walked.
-/
namespace Go.Proofs.YtdjhdcaanmkblaaDoor.K
set_option linter.unusedSimpArgs false
set_option linter.unusedVariables false

section
variable {P : Program} {ops : Array Oper} {V : World → Prop} {Q : Exit → Act → World → Prop}

/-- How a region is walked: in a row; or, behind a row, one of some comes first. -/
inductive OT where
  | lin (r : List (Nat × Nat))
  | two (p : List (Nat × Nat)) (i : Nat) (t : OT) (j : Nat) (u : OT)
  | three (p : List (Nat × Nat)) (i : Nat) (t : OT) (j : Nat) (u : OT) (k : Nat) (v : OT)

def wpT (P : Program) (ops : Array Oper) (V : World → Prop) (R : Act → World → Prop) : OT → Act → World → Prop
  | .lin r => wpOrd P ops V R r
  | .two p i t j u => wpOrd P ops V (fun a w => wpOrd P ops V (wpT P ops V R t) [(i, 0)] a w ∧ wpOrd P ops V (wpT P ops V R u) [(j, 0)] a w) p
  | .three p i t j u k v => wpOrd P ops V (fun a w => wpOrd P ops V (wpT P ops V R t) [(i, 0)] a w ∧ wpOrd P ops V (wpT P ops V R u) [(j, 0)] a w ∧ wpOrd P ops V (wpT P ops V R v) [(k, 0)] a w) p

def lenT : OT → Nat
  | .lin r => r.length
  | .two p _ t _ _ => p.length + (lenT t + 1)
  | .three p _ t _ _ _ _ => p.length + (lenT t + 1)

def ordP (md : Region.Mode) (ops : Array Oper) : List (Nat × Nat) → Array Bool → Option (Array Bool)
  | [], l => some l
  | (i, 1) :: r, l => match (Region.ready md ops l).contains i && Region.free md ops l i with
    | true => ordP md ops r (l.setIfInBounds i true)
    | false => none
  | (i, 0) :: r, l => match onlyB i (Region.ready md ops l) with
    | true => ordP md ops r (l.setIfInBounds i true)
    | false => none
  | _, _ => none

def inB0 (r0 : List (Nat × Nat)) (r : List (Nat × Nat)) : Bool := r.all fun q => r0.any fun x => Nat.beq x.1 q.1 && Nat.beq x.2 q.2

def ordT (md : Region.Mode) (ops : Array Oper) (r0 : List (Nat × Nat)) : OT → Array Bool → Bool
  | .lin r, l => ordFrom md ops r l && inB0 r0 r
  | .two p i t j u, l => match ordP md ops p l with
    | some l' => inB0 r0 p && !(Region.ready md ops l').isEmpty && (Region.ready md ops l').all (fun x => Nat.beq x i || Nat.beq x j) && Nat.beq (lenT u) (lenT t) && ordT md ops r0 t (l'.setIfInBounds i true) && ordT md ops r0 u (l'.setIfInBounds j true)
    | none => false
  | .three p i t j u k v, l => match ordP md ops p l with
    | some l' => inB0 r0 p && !(Region.ready md ops l').isEmpty && (Region.ready md ops l').all (fun x => Nat.beq x i || Nat.beq x j || Nat.beq x k) && Nat.beq (lenT u) (lenT t) && Nat.beq (lenT v) (lenT t) && ordT md ops r0 t (l'.setIfInBounds i true) && ordT md ops r0 u (l'.setIfInBounds j true) && ordT md ops r0 v (l'.setIfInBounds k true)
    | none => false

theorem inB0_mem {r0 r : List (Nat × Nat)} (h : inB0 r0 r = true) : ∀ q ∈ r, q ∈ r0 := by
  intro q hq
  have h1 := List.all_eq_true.1 h q hq
  obtain ⟨x, hx, hb⟩ := List.any_eq_true.1 h1
  simp only [Bool.and_eq_true] at hb
  have e1 := Nat.eq_of_beq_eq_true hb.1
  have e2 := Nat.eq_of_beq_eq_true hb.2
  rw [show q = x from Prod.ext e1.symm e2.symm]; exact hx

theorem anyV_P {md : Region.Mode} {R R' : Act → World → Prop} (hs : Region.noSelect ops = true) (r0 : List (Nat × Nat)) (hl : lastB md ops r0 = true) {f : Nat} : ∀ (p : List (Nat × Nat)) (listed listed' : Array Bool) (a : Act) (w : World), ordP md ops p listed = some listed' → (∀ q ∈ p, q ∈ r0) → V w → wpOrd P ops V R' p a w →
    (∀ a' w', V w' → R' a' w' → anyV P md ops V (vfOf r0) R f listed' a' w') → anyV P md ops V (vfOf r0) R (p.length + f) listed a w
  | [], listed, listed', a, w, hB, _, hV, h, H => by
    simp only [ordP, Option.some.injEq] at hB
    subst hB
    rw [List.length_nil, Nat.zero_add]
    exact H a w hV h
  | (i, 0) :: r, listed, listed', a, w, hB, hm, hV, h, H => by
    simp only [ordP] at hB
    split at hB
    · rename_i h1
      have e := onlyB_eq h1
      rw [List.length_cons, Nat.add_right_comm]
      refine ⟨fun h0 => (by rw [e] at h0; cases h0), fun j hj => ?_⟩
      rw [e] at hj
      obtain rfl := List.mem_singleton.1 hj
      exact nAt_mono (fun a' w' hh => ⟨fun _ => hh.1, anyV_P hs r0 hl r _ listed' a' w' hB (fun q hq => hm q (List.mem_cons_of_mem _ hq)) hh.1 hh.2 H⟩) h
    · cases hB
  | (i, 1) :: r, listed, listed', a, w, hB, hm, hV, h, H => by
    simp only [ordP] at hB
    split at hB
    · rename_i h1
      simp only [Bool.and_eq_true] at h1
      obtain ⟨hr, hf⟩ := h1
      obtain ⟨o, v, ho, ht, hk⟩ := h
      rw [List.length_cons, Nat.add_right_comm]
      exact anyV_first ho (fun j oj hj hv => lastB_spec hl (mem_flB (hm _ List.mem_cons_self)) j oj hj hv) (Region.noSelect_spec hs) (r.length + f) listed a w (Region.free_spec ho hf) (by simpa using hr) ht hV (anyV_P hs r0 hl r _ listed' _ _ hB (fun q hq => hm q (List.mem_cons_of_mem _ hq)) hV hk H)
    · cases hB
  | (i, k + 2) :: r, listed, listed', a, w, hB, hm, hV, h, H => by simp [ordP] at hB

theorem anyV_T {md : Region.Mode} {R : Act → World → Prop} (hs : Region.noSelect ops = true) (r0 : List (Nat × Nat)) (hl : lastB md ops r0 = true) : ∀ (t : OT) (listed : Array Bool) (a : Act) (w : World), ordT md ops r0 t listed = true → V w → wpT P ops V R t a w → anyV P md ops V (vfOf r0) R (lenT t) listed a w
  | .lin r, listed, a, w, hB, hV, h => by
    simp only [ordT, Bool.and_eq_true] at hB
    exact anyV_ord hs r0 hl r listed a w (inB0_mem hB.2) hB.1 (fun _ => hV) h
  | .two p i t j u, listed, a, w, hB, hV, h => by
    simp only [ordT] at hB
    split at hB
    · rename_i l' hp
      simp only [Bool.and_eq_true, Bool.not_eq_true'] at hB
      obtain ⟨⟨⟨⟨⟨b0, b1⟩, b2⟩, b3⟩, b4⟩, b5⟩ := hB
      have e3 := Nat.eq_of_beq_eq_true b3
      refine anyV_P hs r0 hl (R' := fun a w => wpOrd P ops V (wpT P ops V R t) [(i, 0)] a w ∧ wpOrd P ops V (wpT P ops V R u) [(j, 0)] a w) p listed l' a w hp (inB0_mem b0) hV h fun a' w' hV' hh => ⟨fun h0 => (by rw [h0] at b1; cases b1), fun x hx => ?_⟩
      have hx2 := List.all_eq_true.1 b2 x hx
      simp only [Bool.or_eq_true] at hx2
      rcases hx2 with hx2 | hx2
      · obtain rfl := Nat.eq_of_beq_eq_true hx2
        exact nAt_mono (fun a2 w2 h2 => ⟨fun _ => h2.1, anyV_T hs r0 hl t _ a2 w2 b4 h2.1 h2.2⟩) hh.1
      · obtain rfl := Nat.eq_of_beq_eq_true hx2
        exact nAt_mono (fun a2 w2 h2 => ⟨fun _ => h2.1, e3 ▸ anyV_T hs r0 hl u _ a2 w2 b5 h2.1 h2.2⟩) hh.2
    · cases hB
  | .three p i t j u k v, listed, a, w, hB, hV, h => by
    simp only [ordT] at hB
    split at hB
    · rename_i l' hp
      simp only [Bool.and_eq_true, Bool.not_eq_true'] at hB
      obtain ⟨⟨⟨⟨⟨⟨⟨b0, b1⟩, b2⟩, b3⟩, b33⟩, b4⟩, b5⟩, b6⟩ := hB
      have e3 := Nat.eq_of_beq_eq_true b3
      have e33 := Nat.eq_of_beq_eq_true b33
      refine anyV_P hs r0 hl (R' := fun a w => wpOrd P ops V (wpT P ops V R t) [(i, 0)] a w ∧ wpOrd P ops V (wpT P ops V R u) [(j, 0)] a w ∧ wpOrd P ops V (wpT P ops V R v) [(k, 0)] a w) p listed l' a w hp (inB0_mem b0) hV h fun a' w' hV' hh => ⟨fun h0 => (by rw [h0] at b1; cases b1), fun x hx => ?_⟩
      have hx2 := List.all_eq_true.1 b2 x hx
      simp only [Bool.or_eq_true] at hx2
      rcases hx2 with (hx2 | hx2) | hx2
      · obtain rfl := Nat.eq_of_beq_eq_true hx2
        exact nAt_mono (fun a2 w2 h2 => ⟨fun _ => h2.1, anyV_T hs r0 hl t _ a2 w2 b4 h2.1 h2.2⟩) hh.1
      · obtain rfl := Nat.eq_of_beq_eq_true hx2
        exact nAt_mono (fun a2 w2 h2 => ⟨fun _ => h2.1, e3 ▸ anyV_T hs r0 hl u _ a2 w2 b5 h2.1 h2.2⟩) hh.2.1
      · obtain rfl := Nat.eq_of_beq_eq_true hx2
        exact nAt_mono (fun a2 w2 h2 => ⟨fun _ => h2.1, e33 ▸ anyV_T hs r0 hl v _ a2 w2 b6 h2.1 h2.2⟩) hh.2.2
    · cases hB

def ordTB (md : Region.Mode) (ops : Array Oper) (r0 : List (Nat × Nat)) (t : OT) : Bool := Region.noSelect ops && Nat.beq (lenT t) ops.size && ordT md ops r0 t (Array.replicate ops.size false) && lastB md ops r0

theorem wp_region_T {id : Nat} {a : Act} {w : World} (r0 : List (Nat × Nat)) (t : OT) (hm : P.follows .mixedOrders = true) (hB : ordTB .any ops r0 t = true) (hV : V { w with drawn := w.drawn + 1 })
    (h : wpT P ops V (fun a' w' => Q .normal a' w') t a { w with drawn := w.drawn + 1 }) : (Code.region id ops true).wp P Q a w := by
  simp only [ordTB, Bool.and_eq_true] at hB
  have hl := Nat.eq_of_beq_eq_true hB.1.1.2
  refine wp_region_any hm (wpAny_of_anyV (V := V) (Vf := vfOf r0) (R := fun a' w' => Q .normal a' w') (fun _ _ h => h) _ _ _ _ ?_)
  have := anyV_T (V := V) (P := P) (R := fun a' w' => Q .normal a' w') hB.1.1.1 r0 hB.2 t _ a _ hB.1.2 hV h
  rw [hl] at this
  exact this

variable {c : Cx} {n : Nat} {E : Env} {H Hf : Heap} {A : List Res} {a : Act} {w : World} {R : Act → World → Prop}
theorem St.ordBeginT {id : Nat} {l : List Oper} (r0 : List (Nat × Nat)) (t : OT) (Hf : Heap) (p : List Nat) (hS : St c n E H A a w) (h : ∀ w1, St c n E H A a w1 → wpT P l.toArray (Stay Hf) (fun a' w' => Q .normal a' w') t a w1)
    (hp : pickH H p = some Hf := by as_aux_lemma => kernel_rfl) (hm : P.follows .mixedOrders = true := by as_aux_lemma => kernel_rfl) (hB : ordTB .any l.toArray r0 t = true := by as_aux_lemma => kernel_rfl) : (Code.region id l.toArray true).wp P Q a w :=
  wp_region_T r0 t hm hB (hS.mem.drew.stay hp) (h _ (hS.to hS.mem.drew))
theorem St.ordBeginTS {id : Nat} {l : List Oper} {y : Code} (r0 : List (Nat × Nat)) (t : OT) (Hf : Heap) (p : List Nat) (hS : St c n E H A a w) (h : ∀ w1, St c n E H A a w1 → wpT P l.toArray (Stay Hf) (fun a' w' => y.wp P Q a' w') t a w1)
    (hp : pickH H p = some Hf := by as_aux_lemma => kernel_rfl) (hm : P.follows .mixedOrders = true := by as_aux_lemma => kernel_rfl) (hB : ordTB .any l.toArray r0 t = true := by as_aux_lemma => kernel_rfl) : ((Code.region id l.toArray true).seq y).wp P Q a w :=
  wp_seq (St.ordBeginT r0 t Hf p hS h hp hm hB)
/-- The last step of a row that leads on to what follows. -/
theorem wpT_lin {r : List (Nat × Nat)} {a : Act} {w : World} (h : wpOrd P ops V R r a w) : wpT P ops V R (.lin r) a w := h
theorem wpT_two {p : List (Nat × Nat)} {i j : Nat} {t u : OT} {a : Act} {w : World} (h : wpOrd P ops V (fun a w => wpOrd P ops V (wpT P ops V R t) [(i, 0)] a w ∧ wpOrd P ops V (wpT P ops V R u) [(j, 0)] a w) p a w) : wpT P ops V R (.two p i t j u) a w := h
end
end Go.Proofs.YtdjhdcaanmkblaaDoor.K

/-
  Records of fields, plainly: widths, where a field begins, what fits, what is put and told.
-/
namespace Go.Proofs.YtdjhdcaanmkblaaDoor.K
set_option linter.unusedSimpArgs false
set_option linter.unusedVariables false

def okw (w : Int) : Bool := w == 1 || w == 2 || w == 4 || w == 8
def okW (l : List Int) : Prop := 0 < l.length ∧ l.length ≤ 32 ∧ l.all okw = true
/-- The first n widths together. -/
def sumT (l : List Int) : Nat → Int
  | 0 => 0
  | n + 1 => sumT l n + l.getD n 0

instance (l : List Int) : Decidable (okW l) := by unfold okW; exact inferInstance
theorem okw_in {w : Int} (h : okw w = true) : w = 1 ∨ w = 2 ∨ w = 4 ∨ w = 8 := by
  unfold okw at h; simp at h; omega
theorem okw_yes {w : Int} (h : w = 1 ∨ w = 2 ∨ w = 4 ∨ w = 8) : okw w = true := by
  unfold okw; simp; omega
theorem all_at {l : List Int} (h : l.all okw = true) {i : Nat} (hi : i < l.length) : okw (l.getD i 0) = true := by
  rw [List.getD_eq_getElem?_getD, List.getElem?_eq_getElem hi]
  exact List.all_eq_true.1 h _ (List.getElem_mem hi)
theorem okW_at {l : List Int} (h : okW l) {i : Nat} (hi : i < l.length) : l.getD i 0 = 1 ∨ l.getD i 0 = 2 ∨ l.getD i 0 = 4 ∨ l.getD i 0 = 8 := okw_in (all_at h.2.2 hi)
theorem okW_le {l : List Int} (h : okW l) (i : Nat) : 0 ≤ l.getD i 0 ∧ l.getD i 0 ≤ 8 := by
  rcases Nat.lt_or_ge i l.length with hi | hi
  · have := okW_at h hi; omega
  · rw [List.getD_eq_getElem?_getD, List.getElem?_eq_none hi]; decide
def AllUp (l : List Int) (x : Int) : Prop := ∀ i : Nat, (i : Int) < x → okw (l.getD i 0) = true
theorem allUp_zero (l : List Int) : AllUp l 0 := fun i h => absurd h (by omega)
theorem allUp_step {l : List Int} {x : Int} (h : AllUp l x) (h0 : 0 ≤ x) (hw : okw (l.getD x.toNat 0) = true) : AllUp l (x + 1) := fun i hi => by
  rcases Int.lt_or_le (i : Int) x with h1 | h1
  · exact h i h1
  · rw [show i = x.toNat by omega]; exact hw
theorem sumT_step {l : List Int} {x : Int} (h : 0 ≤ x) : sumT l (x + 1).toNat = sumT l x.toNat + l.getD x.toNat 0 := by
  rw [show (x + 1).toNat = x.toNat + 1 by omega]; rfl
theorem sumT_bd {l : List Int} (h : okW l) : ∀ n : Nat, 0 ≤ sumT l n ∧ sumT l n ≤ 8 * (n : Int)
  | 0 => by unfold sumT; omega
  | n + 1 => by
    have := sumT_bd h n; have := okW_le h n
    unfold sumT; omega
theorem sumT_mono {l : List Int} (h : okW l) {i : Nat} : ∀ {n : Nat}, i + 1 ≤ n → sumT l i + l.getD i 0 ≤ sumT l n
  | 0, hi => by omega
  | n + 1, hi => by
    rcases Nat.lt_or_ge i n with h1 | h1
    · have := sumT_mono h (i := i) (n := n) (by omega); have := okW_le h n; show _ ≤ sumT l n + l.getD n 0; omega
    · obtain rfl : i = n := by omega
      show _ ≤ sumT l i + l.getD i 0; omega
/-- Where a field begins. -/
def atW (l : List Int) (i : Int) : Int := if 0 ≤ i ∧ i < (l.length : Int) then sumT l i.toNat else 0
theorem atW_in {l : List Int} {i : Int} (h : 0 ≤ i ∧ i < (l.length : Int)) : sumT l i.toNat = atW l i := by unfold atW; rw [if_pos h]
theorem atW_out {l : List Int} {i : Int} (h : ¬ (0 ≤ i ∧ i < (l.length : Int))) : 0 = atW l i := by unfold atW; rw [if_neg h]
def hasW (l : List Int) (i : Int) : Bool := decide (0 ≤ i) && decide (i < (l.length : Int))
/-- Has a number no more bytes than a field? -/
def fitW (w x : Int) : Bool := w == 8 || x / 2 ^ (8 * w).toNat == 0
/-- What Set makes of an arena, and answers. -/
def setE (l : List Int) (m : AM) (o z i x : Int) : Int := if hasW l i then (if fitW (l.getD i.toNat 0) x then vstE m o z (atW l i) (l.getD i.toNat 0) else 16) else 2
def setM (l : List Int) (m : AM) (o z i x : Int) : AM := if hasW l i then (if fitW (l.getD i.toNat 0) x then vstM m o z (atW l i) (l.getD i.toNat 0) x else m) else m
theorem set_1 {l : List Int} {m : AM} {o z i x : Int} (h : hasW l i = false) : 2 = setE l m o z i x := by unfold setE; rw [h]; rfl
theorem set_2 {l : List Int} {m : AM} {o z i x : Int} (h : hasW l i = true) (h2 : fitW (l.getD i.toNat 0) x = false) : 16 = setE l m o z i x := by unfold setE; rw [h, h2]; rfl
theorem set_3 {l : List Int} {m : AM} {o z i x : Int} (h : hasW l i = true) (h2 : fitW (l.getD i.toNat 0) x = true) : vstE m o z (atW l i) (l.getD i.toNat 0) = setE l m o z i x := by unfold setE; rw [h, h2]; rfl
theorem set_4 {l : List Int} {m : AM} {o z i x : Int} (h : hasW l i = false) : m = setM l m o z i x := by unfold setM; rw [h]; rfl
theorem set_5 {l : List Int} {m : AM} {o z i x : Int} (h2 : fitW (l.getD i.toNat 0) x = false) : m = setM l m o z i x := by unfold setM; rw [h2]; split <;> rfl
theorem set_6 {l : List Int} {m : AM} {o z i x : Int} (h : hasW l i = true) (h2 : fitW (l.getD i.toNat 0) x = true) : vstM m o z (atW l i) (l.getD i.toNat 0) x = setM l m o z i x := by unfold setM; rw [h, h2]; rfl
def getE (l : List Int) (m : AM) (o z i : Int) : Int := if hasW l i then vldE m o z (atW l i) (l.getD i.toNat 0) else 2
def getW (l : List Int) (m : AM) (o z i : Int) : Int := if hasW l i then vldV m o z (atW l i) (l.getD i.toNat 0) else 0
theorem hasW_in {l : List Int} {i : Int} (h : hasW l i = true) : 0 ≤ i ∧ i < (l.length : Int) := by unfold hasW at h; simpa using h

/-- A view's bytes. -/
def vbyE (m : AM) (o z a n : Int) : Int := if vchE z a n = 0 then chkE m (o + a) n else 3
def vbyS (m : AM) (o z a n : Int) : ByteArray := if vchE z a n = 0 then bytS m (o + a) n else ByteArray.empty
theorem vby_1 {m : AM} {o z a n : Int} (h : vchE z a n ≠ 0) : vchE z a n = vbyE m o z a n := by unfold vbyE; rw [if_neg h]; exact vch_3 h
theorem vby_2 {m : AM} {o z a n : Int} (h : vchE z a n = 0) : chkE m (o + a) n = vbyE m o z a n := by unfold vbyE; rw [if_pos h]
theorem vby_3 {m : AM} {o z a n : Int} (h : vchE z a n ≠ 0) : ByteArray.empty = vbyS m o z a n := by unfold vbyS; rw [if_neg h]
theorem vby_4 {m : AM} {o z a n : Int} (h : vchE z a n = 0) : bytS m (o + a) n = vbyS m o z a n := by unfold vbyS; rw [if_pos h]

/-- All fields are put, one behind the other. -/
def putA (l : List Int) (o z : Int) (nums : Nat → Nat) (m : AM) : Nat → AM
  | 0 => m
  | k + 1 => setM l (putA l o z nums m k) o z (k : Int) ((nums k : Nat) : Int)
def fitA (l : List Int) (nums : Nat → Nat) : Nat → Bool
  | 0 => true
  | k + 1 => fitA l nums k && fitW (l.getD k 0) ((nums k : Nat) : Int)
def pRE (l : List Int) (nn : Nat) (nums : Nat → Nat) (m : AM) (o z : Int) : Int := if nn ≠ l.length then 2 else if fitA l nums l.length then vbyE m o z 0 (sumT l l.length) else 16
def pRM (l : List Int) (nn : Nat) (nums : Nat → Nat) (m : AM) (o z : Int) : AM := if nn ≠ l.length then m else if fitA l nums l.length then (if vbyE m o z 0 (sumT l l.length) = 0 then putA l o z nums m l.length else m) else m
theorem putA_step {l : List Int} {o z : Int} {nums : Nat → Nat} {m mx : AM} {x : Int} (h : mx = putA l o z nums m x.toNat) (h0 : 0 ≤ x) : setM l mx o z x ((nums x.toNat : Nat) : Int) = putA l o z nums m (x + 1).toNat := by
  rw [show (x + 1).toNat = x.toNat + 1 by omega, h]
  show _ = setM _ _ _ _ ((x.toNat : Nat) : Int) _
  rw [show ((x.toNat : Nat) : Int) = x by omega]
theorem fitA_no {l : List Int} {nums : Nat → Nat} {k : Nat} (h : fitW (l.getD k 0) ((nums k : Nat) : Int) = false) : ∀ {n : Nat}, k < n → fitA l nums n = false
  | 0, hk => by omega
  | n + 1, hk => by
    unfold fitA
    rcases Nat.lt_or_ge k n with h1 | h1
    · rw [fitA_no h h1]; rfl
    · rw [show n = k by omega, h, Bool.and_false]
theorem fitA_step {l : List Int} {nums : Nat → Nat} {x : Int} (h : fitA l nums x.toNat = true) (h0 : 0 ≤ x) (h1 : fitW (l.getD x.toNat 0) ((nums x.toNat : Nat) : Int) = true) : fitA l nums (x + 1).toNat = true := by
  rw [show (x + 1).toNat = x.toNat + 1 by omega]
  unfold fitA
  rw [h, h1]; rfl
theorem pR_1 {l : List Int} {nn : Nat} {nums : Nat → Nat} {m : AM} {o z : Int} (h : ((nn : Nat) : Int) ≠ ((l.length : Nat) : Int)) : 2 = pRE l nn nums m o z ∧ m = pRM l nn nums m o z := by
  unfold pRE pRM; rw [if_pos (by omega), if_pos (by omega)]; exact ⟨rfl, rfl⟩
theorem pR_2 {l : List Int} {nn : Nat} {nums : Nat → Nat} {m : AM} {o z x : Int} (h : ((nn : Nat) : Int) = ((l.length : Nat) : Int)) (hx : 0 ≤ x ∧ x < (l.length : Int)) (hf : fitW (l.getD x.toNat 0) ((nums x.toNat : Nat) : Int) = false) : 16 = pRE l nn nums m o z ∧ m = pRM l nn nums m o z := by
  have h1 : ¬ nn ≠ l.length := by omega
  have h2 := fitA_no hf (n := l.length) (by omega)
  unfold pRE pRM; rw [if_neg h1, if_neg h1, h2]; exact ⟨rfl, rfl⟩
theorem pR_3 {l : List Int} {nn : Nat} {nums : Nat → Nat} {m : AM} {o z x : Int} (h : ((nn : Nat) : Int) = ((l.length : Nat) : Int)) (hx : x.toNat = l.length) (hf : fitA l nums x.toNat = true) (hv : vbyE m o z 0 (sumT l l.length) ≠ 0) : vbyE m o z 0 (sumT l l.length) = pRE l nn nums m o z ∧ m = pRM l nn nums m o z := by
  have h1 : ¬ nn ≠ l.length := by omega
  rw [hx] at hf
  unfold pRE pRM; rw [if_neg h1, if_neg h1, hf, if_neg hv]; exact ⟨rfl, rfl⟩
theorem pR_4 {l : List Int} {nn : Nat} {nums : Nat → Nat} {m : AM} {o z x : Int} (h : ((nn : Nat) : Int) = ((l.length : Nat) : Int)) (hx : x.toNat = l.length) (hf : fitA l nums l.length = true) (hv : vbyE m o z 0 (sumT l l.length) = 0) : 0 = pRE l nn nums m o z ∧ putA l o z nums m x.toNat = pRM l nn nums m o z := by
  have h1 : ¬ nn ≠ l.length := by omega
  unfold pRE pRM; rw [if_neg h1, if_neg h1, hf, if_pos rfl, if_pos rfl, if_pos hv, hx]; exact ⟨hv.symm, rfl⟩
theorem page_thr {n : Int} (h : 0 ≤ n ∧ n ≤ 4086) : thr (comM (AM.new 1) 0 1) 10 n = true := by
  have h1 : (comM (AM.new 1) 0 1).cap = 1 := by decide +kernel
  have h2 : cntR (comM (AM.new 1) 0 1).com 0 1 = 1 := by decide +kernel
  unfold thr inB
  rw [h1]
  simp only [Bool.and_eq_true, Bool.or_eq_true, decide_eq_true_eq]
  refine ⟨by omega, ?_⟩
  rcases Int.lt_or_le 0 n with h3 | h3
  · right
    rw [show pg0 10 = 0 by decide, show pgN 10 n = 1 by unfold pgN; omega]; exact h2
  · left; omega
/-- The document's Commit. -/
def rcE (S : Nat → ByteArray) (n : Nat) (f k rf : Int) : Int := if wrgE S n f k false 9 ≠ 0 then wrgE S n f k false 9 else if rf = 0 then 4 else 0
def rcR (S : Nat → ByteArray) (n : Nat) (f k rf : Int) : Int := if wrgE S n f k false 9 ≠ 0 then rf else if rf = 0 then -1 else if 0 < rf then rf - 1 else rf
def rcS (S : Nat → ByteArray) (n : Nat) (f k rf : Int) : Nat → ByteArray := if wrgE S n f k false 9 ≠ 0 then S else if rf = 0 then S else withF S f.toNat k.toNat (fun _ => bs (fun _ => 0) 4096)
theorem rc_1 {S : Nat → ByteArray} {n : Nat} {f k rf : Int} (h : wrgE S n f k false 9 ≠ 0) : S = rcS S n f k rf ∧ rf = rcR S n f k rf ∧ wrgE S n f k false 9 = rcE S n f k rf := by
  unfold rcS rcR rcE; rw [if_pos h, if_pos h, if_pos h]; exact ⟨rfl, rfl, rfl⟩
theorem rc_2 {S : Nat → ByteArray} {n : Nat} {f k rf : Int} (h : wrgE S n f k false 9 = 0) (h2 : rf = 0) : S = rcS S n f k rf ∧ -1 = rcR S n f k rf ∧ 4 = rcE S n f k rf := by
  have h1 : ¬ wrgE S n f k false 9 ≠ 0 := fun q => q h
  unfold rcS rcR rcE; simp only [if_neg h1, if_pos h2, and_self]
theorem rc_3 {S : Nat → ByteArray} {n : Nat} {f k rf : Int} (h : wrgE S n f k false 9 = 0) (h2 : rf ≠ 0) : withF S f.toNat k.toNat (fun _ => bs (fun _ => 0) 4096) = rcS S n f k rf ∧ (0 < rf → rf - 1 = rcR S n f k rf) ∧ (¬ 0 < rf → rf = rcR S n f k rf) ∧ 0 = rcE S n f k rf := by
  have h1 : ¬ wrgE S n f k false 9 ≠ 0 := fun q => q h
  unfold rcS rcR rcE; simp only [if_neg h1, if_neg h2]; exact ⟨trivial, fun h => (if_pos h).symm, fun h => (if_neg h).symm, trivial⟩
end Go.Proofs.YtdjhdcaanmkblaaDoor.K

/-
  Walks, printed by w2.py.
-/
namespace Go.Proofs.YtdjhdcaanmkblaaDoor.K
set_option linter.unusedVariables false
set_option linter.unusedSimpArgs false

set_option maxRecDepth 100000 in
set_option maxHeartbeats 1000000 in
theorem slices_CloneI (g : Nat) (o : Nat) (c : Nat) (l : List Int) (w : World) (hh0 : HE.holds w g (.fn o (o + l.length) (ints l o))) (hb : l.length ≤ 16384) :
    Calls Tryd.prog 138 #[sc g o l.length c] w fun e w' => ∃ (g2 : Nat) (c2 : Nat) (tot2 : Nat), e = .returned (sc g2 0 l.length c2) ∧ l.length ≤ c2 ∧ w.heap.size ≤ g2 ∧ HE.holds w' g2 (.row 3 l.length tot2 (ints l 0)) ∧ Fr w w' no no := by
 refine enter (args := [sc g o l.length c]) (D := no) (A := []) Tryd.func138 rfl 8 rfl [(g, .fn o (o + l.length) (ints l o))] (WS.startL ⟨⟨rfl, hh0⟩, trivial⟩) fun ac hS => ?_
 refine hS.regS [0] [0] fun _ => seg [] [(0, none)] [] trivial fun ac wd hS => ?_
 refine wp_seq ?_
 refine hS.regS [0, 0] [0] fun _ => seg [(4, vb false)] [(0, none)] [] trivial fun ac wd hS => ?_
 refine hS.condF ?_
 refine wp_skip ?_
 refine pop_then ?_
 refine wp_region_seq ?_
 refine hS.opsC 2 [0, 0] [] fun ν3 => seg [(5, sc (ν3 0) 0 0 0), (6, sc g o l.length c)] [(0, none), (1, some ((ν3 0), .cells [] 3))] [] trivial fun ac wd hS => ?_
 obtain ⟨i_, hi_, hz_, hs_, hb_⟩ := info_get (P := Tryd.prog) (e := 3) (z := vi 0) (s := 1) (b := 8) (by kernel_rfl)
 refine St.clone hS (.tmp 5) (.tmp 6) 70 rfl rfl (by as_aux_lemma => kernel_rfl) Tryd.underlying70 hi_ hz_ hs_ (by omega) (f' := ints l 0) (b := (ν3 0)) (g := g) (off := o) (nw := l.length) (cp := c) (f := (ints l o)) 1 0 (by as_aux_lemma => kernel_rfl) (by as_aux_lemma => kernel_rfl) (by as_aux_lemma => kernel_rfl) (by as_aux_lemma => kernel_rfl) (by omega) (fun j _ => by unfold ints; rw [Nat.add_sub_cancel_left, Nat.sub_zero]) [0] (H' := [(g, .fn o (o + l.length) (ints l o))]) (by as_aux_lemma => kernel_rfl) (by decide) (by decide) rfl (by decide) fun g1 c2 t3 wd ac hm4 hc_ hS => ?_
 refine hS.opsC 1 [0] [] fun _ => seg [(2, sc g1 0 l.length c2)] [(1, none)] [] trivial fun ac wd hS => ?_
 refine list_nil_seq ?_
 refine wp_ret ?_
 refine St.retC 0 hS (sc g1 0 l.length c2) [] trivial fun hw => ?_
 refine ⟨g1, c2, t3, retd rfl, ?_, ((hw.getm 0 g1 (.row 3 l.length t3 (ints l 0))).resolve_right (fun h => h)), (hw.get 0 g1 (.row 3 l.length t3 (ints l 0))), hw.fr0⟩
 all_goals (first | rfl | assumption | (simp; done) | (simp; omega) | omega | (simp_all; done) | (simp_all; omega))

set_option maxRecDepth 100000 in
set_option maxHeartbeats 1000000 in
theorem field_Of (g : Nat) (o : Nat) (c : Nat) (l : List Int) (w : World) (hh0 : HE.holds w g (.fn o (o + l.length) (ints l o))) (hW : okW l) :
    Calls Tryd.prog 123 #[sc g o l.length c] w fun e w' => ∃ (g2 : Nat) (c2 : Nat), e = .returned (.tuple #[.agg #[sc g2 0 l.length c2], vi 0]) ∧ l.length ≤ c2 ∧ w.heap.size ≤ g2 ∧ HE.holds w' g2 (.fn 0 (0 + l.length) (ints l 0)) ∧ Fr w w' no no := by
 obtain ⟨hW1, hW2, hW3⟩ := id hW
 have hsb := fun n => sumT_bd hW n
 refine enter (args := [sc g o l.length c]) (D := no) (A := []) Tryd.func123 rfl 41 rfl [(g, .fn o (o + l.length) (ints l o))] (WS.startL ⟨⟨rfl, hh0⟩, trivial⟩) fun ac hS => ?_
 refine hS.regS [0, 0] [0] fun ν1 => seg [(2, pt (ν1 0) 0)] [(0, none), (1, some ((ν1 0), .cells [vnil] 146))] [] trivial fun ac wd hS => ?_
 refine wp_seq ?_
 refine wp_block ?_
 refine hS.regS [0, 0, 0, 0] [0, 2] fun _ => seg [(6, vb ((((l.length : Nat) : Int) : Int) == 0))] [(0, none), (1, none)] [] trivial fun ac wd hS => ?_
 refine hS.condK ((((l.length : Nat) : Int) : Int) == 0) false (by exact beq_false_of_ne (by omega)) ?_
 show Code.wp _ _ _ _ _
 refine hS.regS [0, 0, 0, 0] [0, 2] fun _ => seg [(11, vb (decide ((32 : Int) < ((l.length : Nat) : Int))))] [(0, none), (1, none)] [] trivial fun ac wd hS => ?_
 refine hS.condK (decide ((32 : Int) < ((l.length : Nat) : Int))) false (by exact decide_eq_false (by omega)) ?_
 show Code.wp _ _ _ _ _
 refine wp_skip ?_
 refine pop_block ?_
 refine pop_then ?_
 refine wp_seq ?_
 refine hS.regS [0, 0, 0] [0, 2] fun _ => seg [(16, sc g o l.length c), (17, vi ((l.length : Nat) : Int)), (18, vi 0)] [(0, none), (1, none)] [] trivial fun ac wd hS => ?_
 refine wp_block ?_
 refine St.loopC (σ := Int) (fun (x18 : Int) => ⟨[(0, [], sc g o l.length c), (2, [], pt (ν1 0) 0), (16, [], sc g o l.length c), (17, [], vi ((l.length : Nat) : Int)), (18, [], vi x18)], [(g, .fn o (o + l.length) (ints l o)), ((ν1 0), .cells [vnil] 146)], [], (0 ≤ x18 ∧ x18 ≤ (l.length : Int)) ∧ (AllUp l x18) ∧ True, l.length - Int.toNat x18⟩) 0 ⟨(by first | omega | exact allUp_zero l), (by first | omega | exact allUp_zero l), trivial⟩ hS ?_
 clear hS
 rintro x18 ⟨i0, i1, -⟩ ac wd hS
 replace i0 : 0 ≤ x18 ∧ x18 ≤ (l.length : Int) := i0
 replace i1 : AllUp l x18 := i1
 refine hS.regS [0] [0, 2, 16, 17, 18] fun _ => seg [(19, vb (decide ((x18 : Int) < ((l.length : Nat) : Int))))] [(0, none), (1, none)] [] trivial fun ac wd hS => ?_
 refine wp_seq ?_
 refine hS.condC (decide ((x18 : Int) < ((l.length : Nat) : Int))) (fun hb1o hb1 => ?_) (fun hb1o hb1 => ?_)
 ·
  refine wp_skip ?_
  refine pop_then ?_
  refine wp_seq ?_
  refine wp_block ?_
  refine hS.regS [20, fx 0 (vi (List.getD l (Int.toNat x18) 0)), 0] [0, 2, 16, 17, 18] fun _ => seg [(5, vi (List.getD l (Int.toNat x18) 0))] [(0, none), (1, none)] [.p ((((ints l o) (o + Int.toNat x18 * 1)) : Value) = vi (List.getD l (Int.toNat x18) 0)), .e g, .p (o ≤ o + Int.toNat x18 * 1 ∧ o + Int.toNat x18 * 1 < (o + l.length)), .p ((0 : Int) ≤ x18 ∧ (x18 : Int) < ((l.length : Nat) : Int))] ⟨(ints_rel l o (Int.toNat x18)), (by omega), (by omega), trivial⟩ fun ac wd hS => ?_
  refine hS.regS [0, 0, 0, 3, 3, 80, 0, 3, 3, 80, 0, 3, 3, 80] [0, 2, 16, 17, 18] fun _ => seg [(35, vb ((((((List.getD l (Int.toNat x18) 0) : Int) != 1) && (((List.getD l (Int.toNat x18) 0) : Int) != 2)) && (((List.getD l (Int.toNat x18) 0) : Int) != 4)) && (((List.getD l (Int.toNat x18) 0) : Int) != 8)))] [(0, none), (1, none)] [] trivial fun ac wd hS => ?_
  refine hS.condK ((((((List.getD l (Int.toNat x18) 0) : Int) != 1) && (((List.getD l (Int.toNat x18) 0) : Int) != 2)) && (((List.getD l (Int.toNat x18) 0) : Int) != 4)) && (((List.getD l (Int.toNat x18) 0) : Int) != 8)) false (by (have := okW_at hW (i := Int.toNat x18) (by omega); rcases this with h | h | h | h <;> rw [h] <;> rfl)) ?_
  show Code.wp _ _ _ _ _
  refine wp_skip ?_
  refine pop_block ?_
  refine pop_then ?_
  refine hS.regC [20, 0] [0, 2, 16, 17] fun _ => seg [(18, vi (x18 + 1))] [(0, none), (1, none)] [.p (fit .i64 (x18 + 1))] ⟨fit_i64 (by omega), trivial⟩ fun ac wd hS => ?_
  exact pop_then (hS.next (x18 + 1) ⟨(by first | omega | assumption | (simp; done) | (simp; omega)), (by exact allUp_step i1 i0.1 (okw_yes (by first | omega | (have := okW_at hW (i := Int.toNat x18) (by omega); omega)))), trivial⟩ (by dsimp only; omega))
 ·
  refine wp_exit ?_
  refine pop_then_exit ?_
  refine pop_then_exit ?_
  refine pop_block_hit ?_
  refine pop_then ?_
  refine wp_region_seq ?_
  refine hS.opsC 1 [0] [2] fun _ => seg [(38, sc g o l.length c)] [(0, none), (1, none)] [] trivial fun ac wd hS => ?_
  refine hS.callC 138 #[sc g o l.length c] (slices_CloneI g o c l _ (hS.mem.get 0 g (.fn o (o + l.length) (ints l o))) (by first | assumption | omega | (simp_all; done) | (simp_all; omega))) ?_
  rintro _ wd ⟨g22, c23, tot24, rfl, hc25, hog0, hoh0, hF⟩
  have ho6 : w.heap.size ≤ g22 := Nat.le_trans hS.mem.fr.size hog0
  refine ⟨sc g22 0 l.length c23, rfl, ?_⟩
  replace hS := (hS.to (hS.mem.outR hF hog0 hoh0)).put (d := 39) (v := sc g22 0 l.length c23) (by decide)
  clear hF
  refine hS.opsC 3 [0, 100, 0] [2] fun _ => seg [(3, vi 0)] [(1, some ((ν1 0), .cells [sc g22 0 l.length c23] 146)), (2, none)] [.e (ν1 0)] trivial fun ac wd hS => ?_
  refine list_nil_seq ?_
  refine wp_ret ?_
  refine St.retC 0 hS (.tuple #[.agg #[sc g22 0 l.length c23], vi 0]) [.e (ν1 0)] trivial fun hw => ?_
  refine ⟨g22, c23, retd rfl, ?_, ((hw.getm 1 g22 (.row 3 l.length tot24 (ints l 0))).resolve_right (fun h => h)), (HE.fn_hi (by omega) (HE.of_row (hw.get 1 g22 (.row 3 l.length tot24 (ints l 0))) (fun _ _ => rfl))), hw.fr0⟩
  all_goals (first | rfl | assumption | (simp; done) | (simp; omega) | omega | (simp_all; done) | (simp_all; omega))

set_option maxRecDepth 100000 in
set_option maxHeartbeats 1000000 in
theorem rec_has (g : Nat) (o : Nat) (c : Nat) (l : List Int) (i : Int) (w : World) :
    Calls Tryd.prog 140 #[.agg #[sc g o l.length c], vi i] w fun e w' => e = .returned (vb (hasW l i)) ∧ Fr w w' no no := by
 refine enter (args := [.agg #[sc g o l.length c], vi i]) (D := no) (A := []) Tryd.func140 rfl 14 rfl [] (WS.startL trivial) fun ac hS => ?_
 refine hS.regS [0, 0] [1] fun ν1 => seg [(2, pt (ν1 0) 0)] [(0, some ((ν1 0), .cells [sc g o l.length c] 146))] [] trivial fun ac wd hS => ?_
 refine hS.regS [0, 0, 0, 3, 3, 3, 3, 3, 80, 0] [] fun _ => seg [(4, vb ((decide ((0 : Int) ≤ i)) && (decide ((i : Int) < ((l.length : Nat) : Int)))))] [] [.p ((((decide ((0 : Int) ≤ i)) = true) ∧ True) → AllP [((ν1 0) : Nat) = (ν1 0)])] ⟨(fun ⟨hc0, _⟩ => by replace hc0 := nrm hc0; exact ⟨rfl, trivial⟩), trivial⟩ fun ac wd hS => ?_
 refine wp_ret ?_
 refine St.retC 0 hS (vb ((decide ((0 : Int) ≤ i)) && (decide ((i : Int) < ((l.length : Nat) : Int))))) [] trivial fun hw => ?_
 refine ⟨retd (vbool ?_), hw.fr0⟩
 all_goals (first | rfl | assumption | (simp; done) | (simp; omega) | omega | (simp_all; done) | (simp_all; omega))

set_option maxRecDepth 100000 in
set_option maxHeartbeats 1000000 in
theorem rec_ahead (g : Nat) (o : Nat) (c : Nat) (l : List Int) (i : Int) (w : World) (hh0 : HE.holds w g (.fn o (o + l.length) (ints l o))) (hW : okW l) (hi : 0 ≤ i ∧ i ≤ (l.length : Int)) (hc : l.length ≤ c) :
    Calls Tryd.prog 139 #[.agg #[sc g o l.length c], vi i] w fun e w' => e = .returned (vi (sumT l (Int.toNat i))) ∧ Fr w w' no no := by
 obtain ⟨hW1, hW2, hW3⟩ := id hW
 have hsb := fun n => sumT_bd hW n
 refine enter (args := [.agg #[sc g o l.length c], vi i]) (D := no) (A := []) Tryd.func139 rfl 22 rfl [(g, .fn o (o + l.length) (ints l o))] (WS.startL ⟨⟨rfl, hh0⟩, trivial⟩) fun ac hS => ?_
 refine hS.regS [0, 0] [1] fun ν1 => seg [(2, pt (ν1 0) 0)] [(0, none), (1, some ((ν1 0), .cells [sc g o l.length c] 146))] [] trivial fun ac wd hS => ?_
 refine hS.regS [0] [1, 2] fun _ => seg [(5, vi 0)] [(0, none), (1, none)] [] trivial fun ac wd hS => ?_
 refine wp_seq ?_
 refine hS.regS [0, 100, 0, fx 20 (sc g o (Int.toNat i) c), 0, 0] [5] fun _ => seg [(11, sc g o (Int.toNat i) c), (12, vi (((Int.toNat i) : Nat) : Int)), (13, vi 0)] [(0, none)] [.p ((sc g o (Int.toNat (i : Int)) c : Value) = sc g o (Int.toNat i) c), .p (0 ≤ (i : Int) ∧ (i : Int) ≤ ((c : Nat) : Int) ∧ l.length ≤ c ∧ (0 : Int) = 0), .e (ν1 0)] ⟨(rfl), (by omega), trivial⟩ fun ac wd hS => ?_
 refine wp_block ?_
 refine St.loopC (σ := Int × Int) (fun (x : Int × Int) => match x with | (x5, x13) => ⟨[(5, [], vi x5), (11, [], sc g o (Int.toNat i) c), (12, [], vi (((Int.toNat i) : Nat) : Int)), (13, [], vi x13)], [(g, .fn o (o + l.length) (ints l o))], [], (0 ≤ x13 ∧ x13 ≤ i) ∧ (x5 = sumT l (Int.toNat x13)) ∧ True, Int.toNat (i - x13)⟩) (0, 0) ⟨(by first | omega | rfl), (by first | omega | rfl), trivial⟩ hS ?_
 clear hS
 rintro ⟨x5, x13⟩ ⟨i0, i1, -⟩ ac wd hS
 replace i0 : 0 ≤ x13 ∧ x13 ≤ i := i0
 replace i1 : x5 = sumT l (Int.toNat x13) := i1
 have hs1 := hsb (Int.toNat x13)
 have hs2 := okW_le hW (Int.toNat x13)
 refine hS.regS [0] [5, 11, 12, 13] fun _ => seg [(14, vb (decide ((x13 : Int) < (((Int.toNat i) : Nat) : Int))))] [(0, none)] [] trivial fun ac wd hS => ?_
 refine wp_seq ?_
 refine hS.condC (decide ((x13 : Int) < (((Int.toNat i) : Nat) : Int))) (fun hb1o hb1 => ?_) (fun hb1o hb1 => ?_)
 ·
  refine wp_skip ?_
  refine pop_then ?_
  refine wp_seq ?_
  refine wp_block ?_
  refine hS.regS [20, fx 0 (vi (List.getD l (Int.toNat x13) 0)), 0] [5, 11, 12, 13] fun _ => seg [(7, vi (List.getD l (Int.toNat x13) 0))] [(0, none)] [.p ((((ints l o) (o + Int.toNat x13 * 1)) : Value) = vi (List.getD l (Int.toNat x13) 0)), .e g, .p (o ≤ o + Int.toNat x13 * 1 ∧ o + Int.toNat x13 * 1 < (o + l.length)), .p ((0 : Int) ≤ x13 ∧ (x13 : Int) < (((Int.toNat i) : Nat) : Int))] ⟨(ints_rel l o (Int.toNat x13)), (by omega), (by omega), trivial⟩ fun ac wd hS => ?_
  refine hS.regC [0, 0, 20, 0] [11, 12, 13] fun _ => seg [(5, vi (x5 + (List.getD l (Int.toNat x13) 0)))] [(0, none)] [.p (fit .i64 (x5 + (List.getD l (Int.toNat x13) 0)))] ⟨fit_i64 (by omega), trivial⟩ fun ac wd hS => ?_
  refine pop_block ?_
  refine pop_then ?_
  refine hS.regC [20, 0] [5, 11, 12] fun _ => seg [(13, vi (x13 + 1))] [(0, none)] [.p (fit .i64 (x13 + 1))] ⟨fit_i64 (by omega), trivial⟩ fun ac wd hS => ?_
  exact pop_then (hS.next ((x5 + (List.getD l (Int.toNat x13) 0)), (x13 + 1)) ⟨(by first | omega | assumption | (simp; done) | (simp; omega)), (by rw [i1]; exact (sumT_step i0.1).symm), trivial⟩ (by dsimp only; omega))
 ·
  refine wp_exit ?_
  refine pop_then_exit ?_
  refine pop_then_exit ?_
  refine pop_block_hit ?_
  refine pop_then ?_
  refine hS.regS [0, 0] [] fun _ => seg [(4, vi x5)] [] [] trivial fun ac wd hS => ?_
  refine wp_ret ?_
  refine St.retC 0 hS (vi x5) [] trivial fun hw => ?_
  refine ⟨retd (vint ?_), hw.fr0⟩
  all_goals (first | rfl | (rw [i1, show Int.toNat x13 = Int.toNat i by omega]))

set_option maxRecDepth 100000 in
set_option maxHeartbeats 1000000 in
theorem rec_Size (g : Nat) (o : Nat) (c : Nat) (l : List Int) (w : World) (hh0 : HE.holds w g (.fn o (o + l.length) (ints l o))) (hW : okW l) (hc : l.length ≤ c) :
    Calls Tryd.prog 125 #[.agg #[sc g o l.length c]] w fun e w' => e = .returned (vi (sumT l l.length)) ∧ Fr w w' no no := by
 refine enter (args := [.agg #[sc g o l.length c]]) (D := no) (A := []) Tryd.func125 rfl 8 rfl [(g, .fn o (o + l.length) (ints l o))] (WS.startL ⟨⟨rfl, hh0⟩, trivial⟩) fun ac hS => ?_
 refine hS.regS [0, 0] [] fun ν1 => seg [(1, pt (ν1 0) 0)] [(0, none), (1, some ((ν1 0), .cells [sc g o l.length c] 146))] [] trivial fun ac wd hS => ?_
 refine wp_region_seq ?_
 refine hS.opsC 4 [100, 0, 100, 0] [] fun _ => seg [(3, .agg #[sc g o l.length c]), (6, vi ((l.length : Nat) : Int))] [(0, none)] [.e (ν1 0), .e (ν1 0)] trivial fun ac wd hS => ?_
 refine hS.call0 139 #[.agg #[sc g o l.length c], vi ((l.length : Nat) : Int)] 7 (rec_ahead g o c l ((l.length : Nat) : Int) _ (hS.mem.get 0 g (.fn o (o + l.length) (ints l o))) (by first | assumption | omega | (simp_all; done) | (simp_all; omega)) (by first | assumption | omega | (simp_all; done) | (simp_all; omega)) (by first | assumption | omega | (simp_all; done) | (simp_all; omega))) fun ac wd hS => ?_
 refine hS.opsC 1 [0] [] fun _ => seg [(2, vi (sumT l (Int.toNat ((l.length : Nat) : Int))))] [] [] trivial fun ac wd hS => ?_
 refine list_nil_seq ?_
 refine wp_ret ?_
 refine St.retC 0 hS (vi (sumT l (Int.toNat ((l.length : Nat) : Int)))) [] trivial fun hw => ?_
 refine ⟨retd (vint ?_), hw.fr0⟩
 all_goals (rfl)

set_option maxRecDepth 100000 in
set_option maxHeartbeats 1000000 in
theorem rec_At (g : Nat) (o : Nat) (c : Nat) (l : List Int) (i : Int) (w : World) (hh0 : HE.holds w g (.fn o (o + l.length) (ints l o))) (hW : okW l) (hc : l.length ≤ c) :
    Calls Tryd.prog 141 #[.agg #[sc g o l.length c], vi i] w fun e w' => e = .returned (vi (atW l i)) ∧ Fr w w' no no := by
 refine enter (args := [.agg #[sc g o l.length c], vi i]) (D := no) (A := []) Tryd.func141 rfl 12 rfl [(g, .fn o (o + l.length) (ints l o))] (WS.startL ⟨⟨rfl, hh0⟩, trivial⟩) fun ac hS => ?_
 refine hS.regS [0, 0] [1] fun ν1 => seg [(2, pt (ν1 0) 0)] [(0, none), (1, some ((ν1 0), .cells [sc g o l.length c] 146))] [] trivial fun ac wd hS => ?_
 refine wp_seq ?_
 refine wp_region_seq ?_
 refine hS.opsC 2 [100, 0] [1, 2] fun _ => seg [(5, .agg #[sc g o l.length c]), (6, vi i)] [(0, none), (1, none)] [.e (ν1 0)] trivial fun ac wd hS => ?_
 refine hS.call0 140 #[.agg #[sc g o l.length c], vi i] 7 (rec_has g o c l i _  ) fun ac wd hS => ?_
 refine hS.opsC 1 [0] [1, 2] fun _ => seg [(8, vb (!(hasW l i)))] [(0, none), (1, none)] [] trivial fun ac wd hS => ?_
 refine list_nil_seq ?_
 refine hS.condC (!(hasW l i)) (fun hb1o hb1 => ?_) (fun hb1o hb1 => ?_)
 ·
  have hha : hasW l i = false := by simpa using hb1
  refine hS.regS [0] [] fun _ => seg [(4, vi 0)] [] [] trivial fun ac wd hS => ?_
  refine wp_ret ?_
  refine pop_then_ret ?_
  refine St.retC 0 hS (vi 0) [] trivial fun hw => ?_
  refine ⟨retd (vint ?_), hw.fr0⟩
  all_goals (first | exact atW_in ⟨hi0, hi1⟩ | exact atW_out (fun h => by unfold hasW at hha; simp at hha; omega))
 ·
  have hha : hasW l i = true := by simpa using hb1
  obtain ⟨hi0, hi1⟩ := hasW_in hha
  refine wp_skip ?_
  refine pop_then ?_
  refine wp_region_seq ?_
  refine hS.opsC 2 [100, 0] [] fun _ => seg [(9, .agg #[sc g o l.length c]), (10, vi i)] [(0, none)] [.e (ν1 0)] trivial fun ac wd hS => ?_
  refine hS.call0 139 #[.agg #[sc g o l.length c], vi i] 11 (rec_ahead g o c l i _ (hS.mem.get 0 g (.fn o (o + l.length) (ints l o))) (by first | assumption | omega | (simp_all; done) | (simp_all; omega)) (by first | assumption | omega | (simp_all; done) | (simp_all; omega)) (by first | assumption | omega | (simp_all; done) | (simp_all; omega))) fun ac wd hS => ?_
  refine hS.opsC 1 [0] [] fun _ => seg [(4, vi (sumT l (Int.toNat i)))] [] [] trivial fun ac wd hS => ?_
  refine list_nil_seq ?_
  refine wp_ret ?_
  refine St.retC 0 hS (vi (sumT l (Int.toNat i))) [] trivial fun hw => ?_
  refine ⟨retd (vint ?_), hw.fr0⟩
  all_goals (first | exact atW_in ⟨hi0, hi1⟩ | exact atW_out (fun h => by unfold hasW at hha; simp at hha; omega))

set_option maxRecDepth 100000 in
set_option maxHeartbeats 1000000 in
theorem rec_fits (g : Nat) (o : Nat) (c : Nat) (l : List Int) (i : Int) (x_ : Int) (w : World) (hh0 : HE.holds w g (.fn o (o + l.length) (ints l o))) (hW : okW l) (hi : 0 ≤ i ∧ i < (l.length : Int)) :
    Calls Tryd.prog 124 #[.agg #[sc g o l.length c], vi i, vu x_] w fun e w' => e = .returned (vb (fitW (List.getD l (Int.toNat i) 0) x_)) ∧ Fr w w' no no := by
 obtain ⟨hW1, hW2, hW3⟩ := id hW
 have hsb := fun n => sumT_bd hW n
 have hw8 := okW_le hW (Int.toNat i)
 refine enter (args := [.agg #[sc g o l.length c], vi i, vu x_]) (D := no) (A := []) Tryd.func124 rfl 24 rfl [(g, .fn o (o + l.length) (ints l o))] (WS.startL ⟨⟨rfl, hh0⟩, trivial⟩) fun ac hS => ?_
 refine hS.regS [0, 0] [1, 2] fun ν1 => seg [(3, pt (ν1 0) 0)] [(0, none), (1, some ((ν1 0), .cells [sc g o l.length c] 146))] [] trivial fun ac wd hS => ?_
 refine hS.regS [0, 100, 0, 20, fx 0 (vi (List.getD l (Int.toNat i) 0)), 0, 0, 3, 3, 103, 3, 23, fx 3 (vi (List.getD l (Int.toNat i) 0)), 23, 23, 3, 80, 0] [] fun _ => seg [(6, vb ((((List.getD l (Int.toNat i) 0) : Int) == 8) || (((x_ / (2 ^ Int.toNat (8 * (List.getD l (Int.toNat i) 0)))) : Int) == 0)))] [] [.p ((((((List.getD l (Int.toNat i) 0) : Int) == 8) = false) ∧ True) → AllP [0 ≤ (8 * (List.getD l (Int.toNat i) 0)) ∧ Int.fdiv x_ (2 ^ (min (Int.toNat (8 * (List.getD l (Int.toNat i) 0))) 64)) = (x_ / (2 ^ Int.toNat (8 * (List.getD l (Int.toNat i) 0))))]), .p ((((((List.getD l (Int.toNat i) 0) : Int) == 8) = false) ∧ True) → AllP [fit .i64 (8 * (List.getD l (Int.toNat i) 0))]), .p ((((((List.getD l (Int.toNat i) 0) : Int) == 8) = false) ∧ True) → AllP [(((ints l o) (o + Int.toNat i * 1)) : Value) = vi (List.getD l (Int.toNat i) 0), (g : Nat) = g, o ≤ o + Int.toNat i * 1 ∧ o + Int.toNat i * 1 < (o + l.length)]), .p ((((((List.getD l (Int.toNat i) 0) : Int) == 8) = false) ∧ True) → AllP [(0 : Int) ≤ i ∧ (i : Int) < ((l.length : Nat) : Int)]), .p ((((((List.getD l (Int.toNat i) 0) : Int) == 8) = false) ∧ True) → AllP [((ν1 0) : Nat) = (ν1 0)]), .p ((((ints l o) (o + Int.toNat i * 1)) : Value) = vi (List.getD l (Int.toNat i) 0)), .e g, .p (o ≤ o + Int.toNat i * 1 ∧ o + Int.toNat i * 1 < (o + l.length)), .p ((0 : Int) ≤ i ∧ (i : Int) < ((l.length : Nat) : Int)), .e (ν1 0)] ⟨(fun ⟨hc0, _⟩ => by replace hc0 := nrm hc0; exact ⟨shr2_u64 (by omega) (by omega) (by omega), trivial⟩), (fun ⟨hc0, _⟩ => by replace hc0 := nrm hc0; exact ⟨fit_i64 (by omega), trivial⟩), (fun ⟨hc0, _⟩ => by replace hc0 := nrm hc0; exact ⟨(ints_rel l o (Int.toNat i)), rfl, (by omega), trivial⟩), (fun ⟨hc0, _⟩ => by replace hc0 := nrm hc0; exact ⟨(by omega), trivial⟩), (fun ⟨hc0, _⟩ => by replace hc0 := nrm hc0; exact ⟨rfl, trivial⟩), (ints_rel l o (Int.toNat i)), (by omega), (by omega), trivial⟩ fun ac wd hS => ?_
 refine wp_ret ?_
 refine St.retC 0 hS (vb ((((List.getD l (Int.toNat i) 0) : Int) == 8) || (((x_ / (2 ^ Int.toNat (8 * (List.getD l (Int.toNat i) 0)))) : Int) == 0))) [] trivial fun hw => ?_
 refine ⟨retd (vbool ?_), hw.fr0⟩
 all_goals (rfl)

end Go.Proofs.YtdjhdcaanmkblaaDoor.K

/-
  Walks, printed by w2.py.
-/
namespace Go.Proofs.YtdjhdcaanmkblaaDoor.K
set_option linter.unusedVariables false
set_option linter.unusedSimpArgs false

set_option maxRecDepth 100000 in
set_option maxHeartbeats 1000000 in
theorem vw_Of_no (b : Nat) (F : Nat → Prop) (m : AM) (a : Int) (n : Int) (w : World) (hr : (arR b F m).R w) (hN : chkE m a n ≠ 0) :
    Calls Tryd.prog 23 #[pt b 0, vi a, vi n] w fun e w' => e = .returned (.tuple #[.agg #[pnil, vi 0, vi 0], vi (chkE m a n)]) ∧ Fr w w' no no := by
 refine enter (args := [pt b 0, vi a, vi n]) (D := no) (A := []) Tryd.func23 rfl 25 rfl [] (WS.startL trivial) fun ac hS => ?_
 refine hS.regS [0, 0] [0, 1, 2] fun ν1 => seg [(6, pt (ν1 0) 0)] [(0, some ((ν1 0), .cells [pnil, vi 0, vi 0] 55))] [] trivial fun ac wd hS => ?_
 refine wp_seq ?_
 refine wp_region_seq ?_
 refine hS.opsC 3 [0, 0, 0] [0, 1, 2, 6] fun _ => seg [(11, pt b 0), (12, vi a), (13, vi n)] [(0, none)] [] trivial fun ac wd hS => ?_
 refine hS.call0 47 #[pt b 0, vi a, vi n] 14 (ar_Bytes b F m a n _ (Res.keep hr hS.mem.fr) ) fun ac wd hS => ?_
 refine hS.opsC 5 [0, 0, 0, 0, 0] [0, 1, 2, 6] fun _ => seg [(9, vi (chkE m a n))] [(0, none)] [] trivial fun ac wd hS => ?_
 refine list_nil_seq ?_
 refine hS.regS [0, 0] [0, 1, 2, 6, 9] fun _ => seg [(18, vb (((chkE m a n) : Int) != 0))] [(0, none)] [] trivial fun ac wd hS => ?_
 refine hS.condK (((chkE m a n) : Int) != 0) true (by simpa using hN) ?_
 show Code.wp _ _ _ _ _
 refine hS.regS [0, 0, 0, 0] [6] fun _ => seg [(7, vi (chkE m a n))] [(0, none)] [.e (ν1 0), .e (ν1 0), .e (ν1 0)] trivial fun ac wd hS => ?_
 refine wp_ret ?_
 refine pop_then_ret ?_
 refine St.retC 0 hS (.tuple #[.agg #[pnil, vi 0, vi 0], vi (chkE m a n)]) [.e (ν1 0), .e (ν1 0), .e (ν1 0)] trivial fun hw => ?_
 refine ⟨retd rfl, hw.fr0⟩

set_option maxRecDepth 100000 in
set_option maxHeartbeats 1000000 in
theorem vw_Bytes (b : Nat) (F : Nat → Prop) (m : AM) (o_ : Int) (z : Int) (a : Int) (n : Int) (w : World) (hr : (arR b F m).R w) (ho : 0 ≤ o_ ∧ 0 ≤ z ∧ o_ + z ≤ 4294967296) :
    Calls Tryd.prog 78 #[.agg #[pt b 0, vi o_, vi z], vi a, vi n] w fun e w' => e = .returned (.tuple #[.string (vbyS m o_ z a n), vi (vbyE m o_ z a n)]) ∧ Fr w w' no no := by
 refine enter (args := [.agg #[pt b 0, vi o_, vi z], vi a, vi n]) (D := no) (A := []) Tryd.func78 rfl 26 rfl [] (WS.startL trivial) fun ac hS => ?_
 refine hS.regS [0, 0, 0] [1, 2] fun ν1 => seg [(3, pt (ν1 0) 0)] [(0, some ((ν1 0), .cells [pt b 0, vi o_, vi z] 55))] [] trivial fun ac wd hS => ?_
 refine wp_seq ?_
 refine wp_region_seq ?_
 refine hS.opsC 3 [0, 0, 0] [1, 2, 3] fun _ => seg [(9, .agg #[pt b 0, vi o_, vi z]), (10, vi a), (11, vi n)] [(0, none)] [.e (ν1 0), .e (ν1 0), .e (ν1 0)] trivial fun ac wd hS => ?_
 refine hS.call0 116 #[.agg #[pt b 0, vi o_, vi z], vi a, vi n] 12 (vw_check b a n o_ z _  (by first | assumption | omega | (simp_all; done) | (simp_all; omega))) fun ac wd hS => ?_
 refine hS.opsC 1 [0] [1, 2, 3] fun _ => seg [(8, vi (vchE z a n))] [(0, none)] [] trivial fun ac wd hS => ?_
 refine list_nil_seq ?_
 refine hS.regS [0, 0] [1, 2, 3, 8] fun _ => seg [(14, vb (((vchE z a n) : Int) != 0))] [(0, none)] [] trivial fun ac wd hS => ?_
 refine hS.condC (((vchE z a n) : Int) != 0) (fun hb1o hb1 => ?_) (fun hb1o hb1 => ?_)
 ·
  have hcn := hb1
  refine hS.regS [0, 0, 0] [] fun _ => seg [(6, .string (⟨#[]⟩ : ByteArray)), (7, vi (vchE z a n))] [] [] trivial fun ac wd hS => ?_
  refine wp_ret ?_
  refine pop_then_ret ?_
  refine St.retC 0 hS (.tuple #[.string (⟨#[]⟩ : ByteArray), vi (vchE z a n)]) [] trivial fun hw => ?_
  refine ⟨retd (tuple2 (vstr ?_) (vint ?_)), hw.fr0⟩
  all_goals (first | exact vby_1 hcn | exact vby_2 hc0 | exact vby_3 hcn | exact vby_4 hc0)
 ·
  have hc0 := hb1
  obtain ⟨hc1, hc2, hc3, hc4⟩ := vch_in hc0
  refine wp_skip ?_
  refine pop_then ?_
  refine wp_region_seq ?_
  refine hS.opsC 7 [0, 0, 0, 0, 0, 20, 0] [] fun _ => seg [(17, pt b 0), (21, vi (o_ + a)), (22, vi n)] [] [.p (fit .i64 (o_ + a)), .e (ν1 0), .e (ν1 0)] ⟨fit_i64 (by omega), trivial⟩ fun ac wd hS => ?_
  refine hS.call0 47 #[pt b 0, vi (o_ + a), vi n] 23 (ar_Bytes b F m (o_ + a) n _ (Res.keep hr hS.mem.fr) ) fun ac wd hS => ?_
  refine hS.opsC 4 [0, 0, 0, 0] [] fun _ => seg [(6, .string (bytS m (o_ + a) n)), (7, vi (chkE m (o_ + a) n))] [] [] trivial fun ac wd hS => ?_
  refine list_nil_seq ?_
  refine wp_ret ?_
  refine St.retC 0 hS (.tuple #[.string (bytS m (o_ + a) n), vi (chkE m (o_ + a) n)]) [] trivial fun hw => ?_
  refine ⟨retd (tuple2 (vstr ?_) (vint ?_)), hw.fr0⟩
  all_goals (first | exact vby_1 hcn | exact vby_2 hc0 | exact vby_3 hcn | exact vby_4 hc0)

set_option maxRecDepth 100000 in
set_option maxHeartbeats 1000000 in
theorem rec_Get (b : Nat) (F : Nat → Prop) (m : AM) (g : Nat) (o : Nat) (c : Nat) (l : List Int) (o_ : Int) (z : Int) (i : Int) (w : World) (hr : (arR b F m).R w) (hh0 : HE.holds w g (.fn o (o + l.length) (ints l o))) (hW : okW l) (hc : l.length ≤ c) (ho : 0 ≤ o_ ∧ 0 ≤ z ∧ o_ + z ≤ 4294967296) :
    Calls Tryd.prog 127 #[.agg #[sc g o l.length c], .agg #[pt b 0, vi o_, vi z], vi i] w fun e w' => e = .returned (.tuple #[vu (getW l m o_ z i), vi (getE l m o_ z i)]) ∧ Fr w w' no no := by
 refine enter (args := [.agg #[sc g o l.length c], .agg #[pt b 0, vi o_, vi z], vi i]) (D := no) (A := []) Tryd.func127 rfl 24 rfl [(g, .fn o (o + l.length) (ints l o))] (WS.startL ⟨⟨rfl, hh0⟩, trivial⟩) fun ac hS => ?_
 refine hS.regS [0, 0, 0, 0] [2] fun ν1 => seg [(3, pt (ν1 0) 0), (4, pt (ν1 1) 0)] [(0, none), (1, some ((ν1 0), .cells [sc g o l.length c] 146)), (2, some ((ν1 1), .cells [pt b 0, vi o_, vi z] 55))] [] trivial fun ac wd hS => ?_
 refine wp_seq ?_
 refine wp_region_seq ?_
 refine hS.opsC 2 [100, 0] [2, 3, 4] fun _ => seg [(8, .agg #[sc g o l.length c]), (9, vi i)] [(0, none), (1, none), (2, none)] [.e (ν1 0)] trivial fun ac wd hS => ?_
 refine hS.call0 140 #[.agg #[sc g o l.length c], vi i] 10 (rec_has g o c l i _  ) fun ac wd hS => ?_
 refine hS.opsC 1 [0] [2, 3, 4] fun _ => seg [(11, vb (!(hasW l i)))] [(0, none), (1, none), (2, none)] [] trivial fun ac wd hS => ?_
 refine list_nil_seq ?_
 refine hS.condC (!(hasW l i)) (fun hb1o hb1 => ?_) (fun hb1o hb1 => ?_)
 ·
  have hha : hasW l i = false := by simpa using hb1
  refine hS.regS [0, 0] [] fun _ => seg [(6, vu 0), (7, vi 2)] [] [] trivial fun ac wd hS => ?_
  refine wp_ret ?_
  refine pop_then_ret ?_
  refine St.retC 0 hS (.tuple #[vu 0, vi 2]) [] trivial fun hw => ?_
  refine ⟨retd (tuple2 (vint ?_) (vint ?_)), hw.fr0⟩
  all_goals (first | (unfold getE; rw [hha]; rfl) | (unfold getW; rw [hha]; rfl))
 ·
  have hha : hasW l i = true := by simpa using hb1
  obtain ⟨hi0, hi1⟩ := hasW_in hha
  refine wp_skip ?_
  refine pop_then ?_
  refine St.ordBeginS [(0, 1), (1, 1), (2, 1), (4, 1), (5, 1), (6, 1), (7, 1), (8, 1), (3, 0), (9, 0), (10, 1), (11, 1), (12, 1), (13, 1)] [(g, .fn o (o + l.length) (ints l o)), ((ν1 0), .cells [sc g o l.length c] 146), ((ν1 1), .cells [pt b 0, vi o_, vi z] 55)] [0, 1, 2] hS fun wd hS => ?_
  have hap := hS.mem.pairs (Hf := [(g, .fn o (o + l.length) (ints l o)), ((ν1 0), .cells [sc g o l.length c] 146), ((ν1 1), .cells [pt b 0, vi o_, vi z] 55)]) (l := [0, 1, 2])
  refine St.ordF [200, 100, 0, 0, 100, 0, 20, fx 0 (vi (List.getD l (Int.toNat i) 0))] [0, 1, 2, 4, 5, 6, 7, 8] [] (rest := [(3, 0), (9, 0), (10, 1), (11, 1), (12, 1), (13, 1)]) hS hap <| segF [(12, .agg #[pt b 0, vi o_, vi z]), (13, .agg #[sc g o l.length c]), (14, vi i), (20, vi (List.getD l (Int.toNat i) 0))] [.p ((((ints l o) (o + Int.toNat i * 1)) : Value) = vi (List.getD l (Int.toNat i) 0)), .e g, .p (o ≤ o + Int.toNat i * 1 ∧ o + Int.toNat i * 1 < (o + l.length)), .p ((0 : Int) ≤ i ∧ (i : Int) < ((l.length : Nat) : Int)), .e (ν1 0), .e (ν1 0), .e (ν1 1), .e (ν1 1), .e (ν1 1)] ⟨(ints_rel l o (Int.toNat i)), (by omega), (by omega), trivial⟩ fun ac hS => ?_
  refine hS.ordC 3 141 #[.agg #[sc g o l.length c], vi i] (rec_At g o c l i _ (hS.mem.get 0 g (.fn o (o + l.length) (ints l o))) (by first | assumption | omega | (simp_all; done) | (simp_all; omega)) (by first | assumption | omega | (simp_all; done) | (simp_all; omega))) ?_
  rintro _ wd ⟨rfl, hF⟩
  refine ⟨vi (atW l i), rfl, ?_⟩
  replace hS := (hS.to (hS.mem.keep0 hF)).put (d := 15) (v := vi (atW l i)) (by decide)
  clear hF
  refine hS.ordV (l := [0, 1, 2]) ?_
  refine hS.ordC 9 67 #[.agg #[pt b 0, vi o_, vi z], vi (atW l i), vi (List.getD l (Int.toNat i) 0)] (vw_Load b F m o_ z (atW l i) (List.getD l (Int.toNat i) 0) _ (Res.keep hr hS.mem.fr) (by first | assumption | omega | (simp_all; done) | (simp_all; omega))) ?_
  rintro _ wd ⟨rfl, hF⟩
  refine ⟨.tuple #[vu (vldV m o_ z (atW l i) (List.getD l (Int.toNat i) 0)), vi (vldE m o_ z (atW l i) (List.getD l (Int.toNat i) 0))], rfl, ?_⟩
  replace hS := (hS.to (hS.mem.keep0 hF)).put (d := 21) (v := .tuple #[vu (vldV m o_ z (atW l i) (List.getD l (Int.toNat i) 0)), vi (vldE m o_ z (atW l i) (List.getD l (Int.toNat i) 0))]) (by decide)
  clear hF
  refine hS.ordV (l := [0, 1, 2]) ?_
  refine St.ordF [0, 0, 0, 0] [10, 11, 12, 13] [] (rest := []) hS hap <| segF [(6, vu (vldV m o_ z (atW l i) (List.getD l (Int.toNat i) 0))), (7, vi (vldE m o_ z (atW l i) (List.getD l (Int.toNat i) 0)))] [] trivial fun ac hS => ?_
  refine ord_nil ?_
  refine wp_ret ?_
  refine St.retC 0 hS (.tuple #[vu (vldV m o_ z (atW l i) (List.getD l (Int.toNat i) 0)), vi (vldE m o_ z (atW l i) (List.getD l (Int.toNat i) 0))]) [] trivial fun hw => ?_
  refine ⟨retd (tuple2 (vint ?_) (vint ?_)), hw.fr0⟩
  all_goals (first | (unfold getE; rw [hha]; rfl) | (unfold getW; rw [hha]; rfl))

set_option maxRecDepth 100000 in
set_option maxHeartbeats 1000000 in
theorem rec_Set (b : Nat) (F : Nat → Prop) (m : AM) (g : Nat) (o : Nat) (c : Nat) (l : List Int) (o_ : Int) (z : Int) (i : Int) (x_ : Int) (w : World) (hr : (arR b F m).R w) (hh0 : HE.holds w g (.fn o (o + l.length) (ints l o))) (hf0 : ¬ F g) (hW : okW l) (hc : l.length ≤ c) (ho : 0 ≤ o_ ∧ 0 ≤ z ∧ o_ + z ≤ 4294967296) :
    Calls Tryd.prog 126 #[.agg #[sc g o l.length c], .agg #[pt b 0, vi o_, vi z], vi i, vu x_] w fun e w' => ∃ (F' : Nat → Prop), e = .returned (vi (setE l m o_ z i x_)) ∧ (arR b F' (setM l m o_ z i x_)).R w' ∧ Fr w w' F F' := by
 refine enter (args := [.agg #[sc g o l.length c], .agg #[pt b 0, vi o_, vi z], vi i, vu x_]) (D := F) (A := [arR b F m]) Tryd.func126 rfl 31 rfl [(g, .fn o (o + l.length) (ints l o))] (WS.startA (r := arR b F m) hr ⟨⟨rfl, hh0⟩, trivial⟩ ⟨hf0, trivial⟩) fun ac hS => ?_
 refine hS.regS [0, 0, 0] [2, 3] fun ν1 => seg [(4, pt (ν1 0) 0), (5, pt (ν1 1) 0)] [(0, none), (1, some ((ν1 0), .cells [sc g o l.length c] 146)), (2, some ((ν1 1), .cells [pt b 0, vi o_, vi z] 55))] [] trivial fun ac wd hS => ?_
 refine wp_seq ?_
 refine wp_block ?_
 refine wp_region_seq ?_
 refine hS.opsC 2 [100, 0] [2, 3, 4, 5] fun _ => seg [(10, .agg #[sc g o l.length c]), (11, vi i)] [(0, none), (1, none), (2, none)] [.e (ν1 0)] trivial fun ac wd hS => ?_
 refine hS.call0 140 #[.agg #[sc g o l.length c], vi i] 12 (rec_has g o c l i _  ) fun ac wd hS => ?_
 refine hS.opsC 2 [0, 0] [2, 3, 4, 5] fun _ => seg [(9, vb (!(hasW l i)))] [(0, none), (1, none), (2, none)] [] trivial fun ac wd hS => ?_
 refine list_nil_seq ?_
 refine hS.condC (!(hasW l i)) (fun hb1o hb1 => ?_) (fun hb1o hb1 => ?_)
 ·
  have hha : hasW l i = false := by simpa using hb1
  have hE : 2 = setE l m o_ z i x_ := set_1 hha
  have hM : m = setM l m o_ z i x_ := set_4 hha
  refine hS.regS [0] [] fun _ => seg [(8, vi 2)] [] [] trivial fun ac wd hS => ?_
  refine wp_ret ?_
  refine pop_block_ret ?_
  refine pop_then_ret ?_
  refine St.retC 0 hS (vi 2) [] trivial fun hw => ?_
  refine ⟨F, retd (vint ?_), (res_eq (r := arR b F m) (by exact congrArg _ hM) (hw.res 0)), hw.frA⟩
  all_goals (exact hE)
 ·
  have hha : hasW l i = true := by simpa using hb1
  obtain ⟨hi0, hi1⟩ := hasW_in hha
  refine wp_region_seq ?_
  refine hS.opsC 3 [100, 0, 0] [2, 3, 4, 5] fun _ => seg [(15, .agg #[sc g o l.length c]), (16, vi i), (17, vu x_)] [(0, none), (1, none), (2, none)] [.e (ν1 0)] trivial fun ac wd hS => ?_
  refine hS.call0 124 #[.agg #[sc g o l.length c], vi i, vu x_] 18 (rec_fits g o c l i x_ _ (hS.mem.get 0 g (.fn o (o + l.length) (ints l o))) (by first | assumption | omega | (simp_all; done) | (simp_all; omega)) (by first | assumption | omega | (simp_all; done) | (simp_all; omega))) fun ac wd hS => ?_
  refine hS.opsC 2 [0, 0] [2, 3, 4, 5] fun _ => seg [(14, vb (!(fitW (List.getD l (Int.toNat i) 0) x_)))] [(0, none), (1, none), (2, none)] [] trivial fun ac wd hS => ?_
  refine list_nil_seq ?_
  refine hS.condC (!(fitW (List.getD l (Int.toNat i) 0) x_)) (fun hb2o hb2 => ?_) (fun hb2o hb2 => ?_)
  ·
   have hfi : fitW (List.getD l (Int.toNat i) 0) x_ = false := by simpa using hb2
   have hE : 16 = setE l m o_ z i x_ := set_2 hha hfi
   have hM : m = setM l m o_ z i x_ := set_5 hfi
   refine hS.regS [0] [] fun _ => seg [(8, vi 16)] [] [] trivial fun ac wd hS => ?_
   refine wp_ret ?_
   refine pop_block_ret ?_
   refine pop_then_ret ?_
   refine St.retC 0 hS (vi 16) [] trivial fun hw => ?_
   refine ⟨F, retd (vint ?_), (res_eq (r := arR b F m) (by exact congrArg _ hM) (hw.res 0)), hw.frA⟩
   all_goals (exact hE)
  ·
   have hfi : fitW (List.getD l (Int.toNat i) 0) x_ = true := by simpa using hb2
   have hE : vstE m o_ z (atW l i) (List.getD l (Int.toNat i) 0) = setE l m o_ z i x_ := set_3 hha hfi
   have hM : vstM m o_ z (atW l i) (List.getD l (Int.toNat i) 0) x_ = setM l m o_ z i x_ := set_6 hha hfi
   refine wp_skip ?_
   refine pop_block ?_
   refine pop_then ?_
   refine St.ordBeginS [(0, 1), (1, 1), (2, 1), (4, 1), (5, 1), (6, 1), (7, 1), (8, 1), (9, 1), (3, 0), (10, 0), (11, 1)] [(g, .fn o (o + l.length) (ints l o)), ((ν1 0), .cells [sc g o l.length c] 146), ((ν1 1), .cells [pt b 0, vi o_, vi z] 55)] [0, 1, 2] hS fun wd hS => ?_
   have hap := hS.mem.pairs (Hf := [(g, .fn o (o + l.length) (ints l o)), ((ν1 0), .cells [sc g o l.length c] 146), ((ν1 1), .cells [pt b 0, vi o_, vi z] 55)]) (l := [0, 1, 2])
   refine St.ordF [200, 100, 0, 0, 100, 0, 20, fx 0 (vi (List.getD l (Int.toNat i) 0)), 0] [0, 1, 2, 4, 5, 6, 7, 8, 9] [] (rest := [(3, 0), (10, 0), (11, 1)]) hS hap <| segF [(20, .agg #[pt b 0, vi o_, vi z]), (21, .agg #[sc g o l.length c]), (22, vi i), (28, vi (List.getD l (Int.toNat i) 0)), (29, vu x_)] [.p ((((ints l o) (o + Int.toNat i * 1)) : Value) = vi (List.getD l (Int.toNat i) 0)), .e g, .p (o ≤ o + Int.toNat i * 1 ∧ o + Int.toNat i * 1 < (o + l.length)), .p ((0 : Int) ≤ i ∧ (i : Int) < ((l.length : Nat) : Int)), .e (ν1 0), .e (ν1 0), .e (ν1 1), .e (ν1 1), .e (ν1 1)] ⟨(ints_rel l o (Int.toNat i)), (by omega), (by omega), trivial⟩ fun ac hS => ?_
   refine hS.ordC 3 141 #[.agg #[sc g o l.length c], vi i] (rec_At g o c l i _ (hS.mem.get 0 g (.fn o (o + l.length) (ints l o))) (by first | assumption | omega | (simp_all; done) | (simp_all; omega)) (by first | assumption | omega | (simp_all; done) | (simp_all; omega))) ?_
   rintro _ wd ⟨rfl, hF⟩
   refine ⟨vi (atW l i), rfl, ?_⟩
   replace hS := (hS.to (hS.mem.keep0 hF)).put (d := 23) (v := vi (atW l i)) (by decide)
   clear hF
   refine hS.ordV (l := [0, 1, 2]) ?_
   refine hS.ordC 10 66 #[.agg #[pt b 0, vi o_, vi z], vi (atW l i), vi (List.getD l (Int.toNat i) 0), vu x_] (vw_Store b F m o_ z (atW l i) (List.getD l (Int.toNat i) 0) x_ _ (hS.mem.res 0) (by first | assumption | omega | (simp_all; done) | (simp_all; omega))) ?_
   rintro _ wd ⟨F3, rfl, hA, hF⟩
   refine ⟨vi (vstE m o_ z (atW l i) (List.getD l (Int.toNat i) 0)), rfl, ?_⟩
   replace hS := (hS.to (hS.mem.stepA 0 rfl hA hF)).put (d := 30) (v := vi (vstE m o_ z (atW l i) (List.getD l (Int.toNat i) 0))) (by decide)
   clear hF
   refine hS.ordV (l := [0, 1, 2]) ?_
   refine St.ordF [0] [11] [] (rest := []) hS hap <| segF [(8, vi (vstE m o_ z (atW l i) (List.getD l (Int.toNat i) 0)))] [] trivial fun ac hS => ?_
   refine ord_nil ?_
   refine wp_ret ?_
   refine St.retC 0 hS (vi (vstE m o_ z (atW l i) (List.getD l (Int.toNat i) 0))) [] trivial fun hw => ?_
   refine ⟨F3, retd (vint ?_), (res_eq (r := arR b F3 (vstM m o_ z (atW l i) (List.getD l (Int.toNat i) 0) x_)) (by exact congrArg _ hM) (hw.res 0)), hw.frA⟩
   all_goals (exact hE)

set_option maxRecDepth 100000 in
set_option maxHeartbeats 1000000 in
theorem rec_Put (b : Nat) (F : Nat → Prop) (m : AM) (g : Nat) (o : Nat) (c : Nat) (l : List Int) (o_ : Int) (z : Int) (q : Nat) (u : Nat) (k : Nat) (cq : Nat) (ws : Nat → Nat) (w : World) (hr : (arR b F m).R w) (hh0 : HE.holds w g (.fn o (o + l.length) (ints l o))) (hh1 : HE.holds w q (.fn u (u + k) (u64s ws u))) (hf0 : ¬ F g) (hf1 : ¬ F q) (hW : okW l) (hc : l.length ≤ c) (hk : k ≤ 4611686018427387904) (ho : 0 ≤ o_ ∧ 0 ≤ z ∧ o_ + z ≤ 4294967296) :
    Calls Tryd.prog 91 #[.agg #[sc g o l.length c], .agg #[pt b 0, vi o_, vi z], sc q u k cq] w fun e w' => ∃ (F' : Nat → Prop), e = .returned (vi (pRE l k ws m o_ z)) ∧ (arR b F' (pRM l k ws m o_ z)).R w' ∧ Fr w w' F F' := by
 obtain ⟨hW1, hW2, hW3⟩ := id hW
 have hsb := fun n => sumT_bd hW n
 refine enter (args := [.agg #[sc g o l.length c], .agg #[pt b 0, vi o_, vi z], sc q u k cq]) (D := F) (A := [arR b F m]) Tryd.func91 rfl 55 rfl [(g, .fn o (o + l.length) (ints l o)), (q, .fn u (u + k) (u64s ws u))] (WS.startA (r := arR b F m) hr ⟨⟨rfl, hh0⟩, ⟨rfl, hh1⟩, trivial⟩ ⟨hf0, hf1, trivial⟩) fun ac hS => ?_
 refine hS.regS [0, 0, 0] [2] fun ν1 => seg [(3, pt (ν1 0) 0), (4, pt (ν1 1) 0)] [(0, none), (1, none), (2, some ((ν1 0), .cells [sc g o l.length c] 146)), (3, some ((ν1 1), .cells [pt b 0, vi o_, vi z] 55))] [] trivial fun ac wd hS => ?_
 refine wp_seq ?_
 refine hS.regS [0, 0, 0, 200, 0, 0] [2, 3, 4] fun _ => seg [(18, vb ((((k : Nat) : Int) : Int) != ((l.length : Nat) : Int)))] [(0, none), (1, none), (2, none), (3, none)] [.e (ν1 0)] trivial fun ac wd hS => ?_
 refine hS.condC ((((k : Nat) : Int) : Int) != ((l.length : Nat) : Int)) (fun hb1o hb1 => ?_) (fun hb1o hb1 => ?_)
 ·
  have hE : 2 = pRE l k ws m o_ z := (pR_1 (by omega)).1
  have hM : m = pRM l k ws m o_ z := (pR_1 (by omega)).2
  refine hS.regS [0] [] fun _ => seg [(6, vi 2)] [] [] trivial fun ac wd hS => ?_
  refine wp_ret ?_
  refine pop_then_ret ?_
  refine St.retC 0 hS (vi 2) [] trivial fun hw => ?_
  refine ⟨F, retd (vint ?_), (res_eq (r := arR b F m) (by first | exact congrArg _ hM | (rw [i1]; exact congrArg _ (pR_4 hkl (x := x44) (by omega) hfa hvb).2)) (hw.res 0)), hw.frA⟩
  all_goals (first | exact hE | exact (pR_4 hkl (x := x44) (by omega) hfa hvb).1)
 ·
  have hkl : ((k : Nat) : Int) = ((l.length : Nat) : Int) := by omega
  refine wp_skip ?_
  refine pop_then ?_
  refine wp_seq ?_
  refine hS.regS [0, 0, 0] [2, 3, 4] fun _ => seg [(19, sc q u k cq), (20, vi ((k : Nat) : Int)), (21, vi 0)] [(0, none), (1, none), (2, none), (3, none)] [] trivial fun ac wd hS => ?_
  refine wp_block ?_
  refine St.loopC (σ := Int) (fun (x21 : Int) => ⟨[(2, [], sc q u k cq), (3, [], pt (ν1 0) 0), (4, [], pt (ν1 1) 0), (19, [], sc q u k cq), (20, [], vi ((k : Nat) : Int)), (21, [], vi x21)], [(g, .fn o (o + l.length) (ints l o)), (q, .fn u (u + k) (u64s ws u)), ((ν1 0), .cells [sc g o l.length c] 146), ((ν1 1), .cells [pt b 0, vi o_, vi z] 55)], [arR b F m], (0 ≤ x21 ∧ x21 ≤ (k : Int)) ∧ (fitA l ws (Int.toNat x21) = true) ∧ True, k - Int.toNat x21⟩) 0 ⟨(by first | omega | rfl), (by first | omega | rfl), trivial⟩ hS ?_
  clear hS
  rintro x21 ⟨i0, i1, -⟩ ac wd hS
  replace i0 : 0 ≤ x21 ∧ x21 ≤ (k : Int) := i0
  replace i1 : fitA l ws (Int.toNat x21) = true := i1
  refine hS.regS [0] [2, 3, 4, 19, 20, 21] fun _ => seg [(22, vb (decide ((x21 : Int) < ((k : Nat) : Int))))] [(0, none), (1, none), (2, none), (3, none)] [] trivial fun ac wd hS => ?_
  refine wp_seq ?_
  refine hS.condC (decide ((x21 : Int) < ((k : Nat) : Int))) (fun hb2o hb2 => ?_) (fun hb2o hb2 => ?_)
  ·
   refine wp_skip ?_
   refine pop_then ?_
   refine wp_seq ?_
   refine wp_block ?_
   refine hS.regS [0, 20, fx 100 (vu ((ws (Int.toNat x21) : Nat) : Int)), 0, 0] [2, 3, 4, 19, 20, 21] fun _ => seg [(7, vi x21), (8, vu ((ws (Int.toNat x21) : Nat) : Int))] [(0, none), (1, none), (2, none), (3, none)] [.p ((((u64s ws u) (u + Int.toNat x21 * 1)) : Value) = vu ((ws (Int.toNat x21) : Nat) : Int)), .e q, .p (u ≤ u + Int.toNat x21 * 1 ∧ u + Int.toNat x21 * 1 < (u + k)), .p ((0 : Int) ≤ x21 ∧ (x21 : Int) < ((k : Nat) : Int))] ⟨(u64s_rel ws u (Int.toNat x21)), (by omega), (by omega), trivial⟩ fun ac wd hS => ?_
   refine wp_region_seq ?_
   refine hS.opsC 3 [200, 0, 0] [2, 3, 4, 19, 20, 21] fun _ => seg [(26, .agg #[sc g o l.length c]), (27, vi x21), (28, vu ((ws (Int.toNat x21) : Nat) : Int))] [(0, none), (1, none), (2, none), (3, none)] [.e (ν1 0)] trivial fun ac wd hS => ?_
   refine hS.call0 124 #[.agg #[sc g o l.length c], vi x21, vu ((ws (Int.toNat x21) : Nat) : Int)] 29 (rec_fits g o c l x21 ((ws (Int.toNat x21) : Nat) : Int) _ (hS.mem.get 0 g (.fn o (o + l.length) (ints l o))) (by first | assumption | omega | (simp_all; done) | (simp_all; omega)) (by first | assumption | omega | (simp_all; done) | (simp_all; omega))) fun ac wd hS => ?_
   refine hS.opsC 1 [0] [2, 3, 4, 19, 20, 21] fun _ => seg [(30, vb (!(fitW (List.getD l (Int.toNat x21) 0) ((ws (Int.toNat x21) : Nat) : Int))))] [(0, none), (1, none), (2, none), (3, none)] [] trivial fun ac wd hS => ?_
   refine list_nil_seq ?_
   refine hS.condC (!(fitW (List.getD l (Int.toNat x21) 0) ((ws (Int.toNat x21) : Nat) : Int))) (fun hb3o hb3 => ?_) (fun hb3o hb3 => ?_)
   ·
    have hft : fitW (List.getD l (Int.toNat x21) 0) ((ws (Int.toNat x21) : Nat) : Int) = false := by simpa using hb3
    have hE : 16 = pRE l k ws m o_ z := (pR_2 hkl (by omega) hft).1
    have hM : m = pRM l k ws m o_ z := (pR_2 hkl (by omega) hft).2
    refine hS.regS [0] [] fun _ => seg [(6, vi 16)] [] [] trivial fun ac wd hS => ?_
    refine wp_ret ?_
    refine pop_block_ret ?_
    refine pop_then_ret ?_
    refine pop_then_ret ?_
    refine pop_block_ret ?_
    refine pop_then_ret ?_
    refine St.retC 0 hS (vi 16) [] trivial fun hw => ?_
    refine ⟨F, retd (vint ?_), (res_eq (r := arR b F m) (by first | exact congrArg _ hM | (rw [i1]; exact congrArg _ (pR_4 hkl (x := x44) (by omega) hfa hvb).2)) (hw.res 0)), hw.frA⟩
    all_goals (first | exact hE | exact (pR_4 hkl (x := x44) (by omega) hfa hvb).1)
   ·
    have hft : fitW (List.getD l (Int.toNat x21) 0) ((ws (Int.toNat x21) : Nat) : Int) = true := by simpa using hb3
    refine wp_skip ?_
    refine pop_block ?_
    refine pop_then ?_
    refine hS.regC [20, 0] [2, 3, 4, 19, 20] fun _ => seg [(21, vi (x21 + 1))] [(0, none), (1, none), (2, none), (3, none)] [.p (fit .i64 (x21 + 1))] ⟨fit_i64 (by omega), trivial⟩ fun ac wd hS => ?_
    exact pop_then (hS.next (x21 + 1) ⟨(by first | omega | assumption | (simp; done) | (simp; omega)), (by exact fitA_step i1 i0.1 hft), trivial⟩ (by dsimp only; omega))
  ·
   refine wp_exit ?_
   refine pop_then_exit ?_
   refine pop_then_exit ?_
   refine pop_block_hit ?_
   refine pop_then ?_
   refine wp_seq ?_
   refine St.ordBeginS [(0, 1), (1, 1), (2, 0), (3, 0), (4, 1), (5, 1), (6, 1), (7, 1), (8, 1)] [(g, .fn o (o + l.length) (ints l o)), (q, .fn u (u + k) (u64s ws u)), ((ν1 0), .cells [sc g o l.length c] 146), ((ν1 1), .cells [pt b 0, vi o_, vi z] 55)] [0, 1, 2, 3] hS fun wd hS => ?_
   have hap := hS.mem.pairs (Hf := [(g, .fn o (o + l.length) (ints l o)), (q, .fn u (u + k) (u64s ws u)), ((ν1 0), .cells [sc g o l.length c] 146), ((ν1 1), .cells [pt b 0, vi o_, vi z] 55)]) (l := [0, 1, 2, 3])
   refine St.ordF [300, 200] [0, 1] [2, 3, 4] (rest := [(2, 0), (3, 0), (4, 1), (5, 1), (6, 1), (7, 1), (8, 1)]) hS hap <| segF [(33, .agg #[pt b 0, vi o_, vi z]), (34, .agg #[sc g o l.length c])] [.e (ν1 0), .e (ν1 1), .e (ν1 1), .e (ν1 1)] trivial fun ac hS => ?_
   refine hS.ordC 2 125 #[.agg #[sc g o l.length c]] (rec_Size g o c l _ (hS.mem.get 0 g (.fn o (o + l.length) (ints l o))) (by first | assumption | omega | (simp_all; done) | (simp_all; omega)) (by first | assumption | omega | (simp_all; done) | (simp_all; omega))) ?_
   rintro _ wd ⟨rfl, hF⟩
   refine ⟨vi (sumT l l.length), rfl, ?_⟩
   replace hS := (hS.to (hS.mem.keep0 hF)).put (d := 35) (v := vi (sumT l l.length)) (by decide)
   clear hF
   refine hS.ordV (l := [0, 1, 2, 3]) ?_
   refine hS.ordC 3 78 #[.agg #[pt b 0, vi o_, vi z], vi 0, vi (sumT l l.length)] (vw_Bytes b F m o_ z 0 (sumT l l.length) _ (hS.mem.res 0) (by first | assumption | omega | (simp_all; done) | (simp_all; omega))) ?_
   rintro _ wd ⟨rfl, hF⟩
   refine ⟨.tuple #[.string (vbyS m o_ z 0 (sumT l l.length)), vi (vbyE m o_ z 0 (sumT l l.length))], rfl, ?_⟩
   replace hS := (hS.to (hS.mem.keep0 hF)).put (d := 36) (v := .tuple #[.string (vbyS m o_ z 0 (sumT l l.length)), vi (vbyE m o_ z 0 (sumT l l.length))]) (by decide)
   clear hF
   refine hS.ordV (l := [0, 1, 2, 3]) ?_
   refine St.ordF [0, 0, 0, 0, 0] [4, 5, 6, 7, 8] [2, 3, 4] (rest := []) hS hap <| segF [(10, vi (vbyE m o_ z 0 (sumT l l.length)))] [] trivial fun ac hS => ?_
   refine ord_nil ?_
   refine hS.regS [0, 0] [2, 3, 4, 10] fun _ => seg [(40, vb (((vbyE m o_ z 0 (sumT l l.length)) : Int) != 0))] [(0, none), (1, none), (2, none), (3, none)] [] trivial fun ac wd hS => ?_
   refine hS.condC (((vbyE m o_ z 0 (sumT l l.length)) : Int) != 0) (fun hb4o hb4 => ?_) (fun hb4o hb4 => ?_)
   ·
    have hvb : vbyE m o_ z 0 (sumT l l.length) ≠ 0 := hb4
    have hE : vbyE m o_ z 0 (sumT l l.length) = pRE l k ws m o_ z := (pR_3 hkl (x := x21) (by omega) i1 hvb).1
    have hM : m = pRM l k ws m o_ z := (pR_3 hkl (x := x21) (by omega) i1 hvb).2
    refine hS.regS [0, 0] [] fun _ => seg [(6, vi (vbyE m o_ z 0 (sumT l l.length)))] [] [] trivial fun ac wd hS => ?_
    refine wp_ret ?_
    refine pop_then_ret ?_
    refine St.retC 0 hS (vi (vbyE m o_ z 0 (sumT l l.length))) [] trivial fun hw => ?_
    refine ⟨F, retd (vint ?_), (res_eq (r := arR b F m) (by first | exact congrArg _ hM | (rw [i1]; exact congrArg _ (pR_4 hkl (x := x44) (by omega) hfa hvb).2)) (hw.res 0)), hw.frA⟩
    all_goals (first | exact hE | exact (pR_4 hkl (x := x44) (by omega) hfa hvb).1)
   ·
    have hvb : vbyE m o_ z 0 (sumT l l.length) = 0 := hb4
    refine wp_skip ?_
    refine pop_then ?_
    refine wp_seq ?_
    refine hS.regS [0, 0, 0] [3, 4] fun _ => seg [(42, sc q u k cq), (43, vi ((k : Nat) : Int)), (44, vi 0)] [(0, none), (1, none), (2, none), (3, none)] [] trivial fun ac wd hS => ?_
    refine wp_block ?_
    have hfa : fitA l ws l.length = true := by rw [show l.length = Int.toNat x21 by omega]; exact i1
    clear i0 i1
    refine St.loopC (σ := Int × (Nat → Prop) × AM) (fun (x : Int × (Nat → Prop) × AM) => match x with | (x44, Fx, mx) => ⟨[(3, [], pt (ν1 0) 0), (4, [], pt (ν1 1) 0), (42, [], sc q u k cq), (43, [], vi ((k : Nat) : Int)), (44, [], vi x44)], [(g, .fn o (o + l.length) (ints l o)), (q, .fn u (u + k) (u64s ws u)), ((ν1 0), .cells [sc g o l.length c] 146), ((ν1 1), .cells [pt b 0, vi o_, vi z] 55)], [arR b Fx mx], (0 ≤ x44 ∧ x44 ≤ (k : Int)) ∧ (mx = putA l o_ z ws m (Int.toNat x44)) ∧ True, k - Int.toNat x44⟩) (0, F, m) ⟨(by first | omega | rfl), (by first | omega | rfl), trivial⟩ hS ?_
    clear hS
    rintro ⟨x44, Fx, mx⟩ ⟨i0, i1, -⟩ ac wd hS
    replace i0 : 0 ≤ x44 ∧ x44 ≤ (k : Int) := i0
    replace i1 : mx = putA l o_ z ws m (Int.toNat x44) := i1
    refine hS.regS [0] [3, 4, 42, 43, 44] fun _ => seg [(45, vb (decide ((x44 : Int) < ((k : Nat) : Int))))] [(0, none), (1, none), (2, none), (3, none)] [] trivial fun ac wd hS => ?_
    refine wp_seq ?_
    refine hS.condC (decide ((x44 : Int) < ((k : Nat) : Int))) (fun hb5o hb5 => ?_) (fun hb5o hb5 => ?_)
    ·
     refine wp_skip ?_
     refine pop_then ?_
     refine wp_seq ?_
     refine wp_block ?_
     refine hS.regS [0, 20, fx 100 (vu ((ws (Int.toNat x44) : Nat) : Int)), 0, 0] [3, 4, 42, 43, 44] fun _ => seg [(11, vi x44), (12, vu ((ws (Int.toNat x44) : Nat) : Int))] [(0, none), (1, none), (2, none), (3, none)] [.p ((((u64s ws u) (u + Int.toNat x44 * 1)) : Value) = vu ((ws (Int.toNat x44) : Nat) : Int)), .e q, .p (u ≤ u + Int.toNat x44 * 1 ∧ u + Int.toNat x44 * 1 < (u + k)), .p ((0 : Int) ≤ x44 ∧ (x44 : Int) < ((k : Nat) : Int))] ⟨(u64s_rel ws u (Int.toNat x44)), (by omega), (by omega), trivial⟩ fun ac wd hS => ?_
     refine wp_region_lit ?_
     refine hS.opsC 4 [200, 300, 0, 0] [3, 4, 42, 43, 44] fun _ => seg [(49, .agg #[sc g o l.length c]), (50, .agg #[pt b 0, vi o_, vi z]), (51, vi x44), (52, vu ((ws (Int.toNat x44) : Nat) : Int))] [(0, none), (1, none), (2, none), (3, none)] [.e (ν1 1), .e (ν1 1), .e (ν1 1), .e (ν1 0)] trivial fun ac wd hS => ?_
     refine hS.callC 126 #[.agg #[sc g o l.length c], .agg #[pt b 0, vi o_, vi z], vi x44, vu ((ws (Int.toNat x44) : Nat) : Int)] (rec_Set b Fx mx g o c l o_ z x44 ((ws (Int.toNat x44) : Nat) : Int) _ (hS.mem.res 0) (hS.mem.get 0 g (.fn o (o + l.length) (ints l o))) (hS.mem.nF (g := g) (r := arR b Fx mx) 0 0) (by first | assumption | omega | (simp_all; done) | (simp_all; omega)) (by first | assumption | omega | (simp_all; done) | (simp_all; omega)) (by first | assumption | omega | (simp_all; done) | (simp_all; omega))) ?_
     rintro _ wd ⟨F6, rfl, hA, hF⟩
     refine ⟨vi (setE l mx o_ z x44 ((ws (Int.toNat x44) : Nat) : Int)), rfl, ?_⟩
     replace hS := (hS.to (hS.mem.stepA 0 rfl hA hF)).put (d := 53) (v := vi (setE l mx o_ z x44 ((ws (Int.toNat x44) : Nat) : Int))) (by decide)
     clear hF
     refine list_nil ?_
     refine pop_block ?_
     refine pop_then ?_
     refine hS.regC [20, 0] [3, 4, 42, 43] fun _ => seg [(44, vi (x44 + 1))] [(0, none), (1, none), (2, none), (3, none)] [.p (fit .i64 (x44 + 1))] ⟨fit_i64 (by omega), trivial⟩ fun ac wd hS => ?_
     exact pop_then (hS.next ((x44 + 1), F6, (setM l mx o_ z x44 ((ws (Int.toNat x44) : Nat) : Int))) ⟨(by first | omega | assumption | (simp; done) | (simp; omega)), (by exact putA_step i1 i0.1), trivial⟩ (by dsimp only; omega))
    ·
     refine wp_exit ?_
     refine pop_then_exit ?_
     refine pop_then_exit ?_
     refine pop_block_hit ?_
     refine pop_then ?_
     refine hS.regS [0] [] fun _ => seg [(6, vi 0)] [] [] trivial fun ac wd hS => ?_
     refine wp_ret ?_
     refine St.retC 0 hS (vi 0) [] trivial fun hw => ?_
     refine ⟨Fx, retd (vint ?_), (res_eq (r := arR b Fx mx) (by first | exact congrArg _ hM | (rw [i1]; exact congrArg _ (pR_4 hkl (x := x44) (by omega) hfa hvb).2)) (hw.res 0)), hw.frA⟩
     all_goals (first | exact hE | exact (pR_4 hkl (x := x44) (by omega) hfa hvb).1)

set_option maxRecDepth 100000 in
set_option maxHeartbeats 1000000 in
theorem rec_All (b : Nat) (F : Nat → Prop) (m : AM) (g : Nat) (o : Nat) (c : Nat) (l : List Int) (o_ : Int) (z : Int) (w : World) (hr : (arR b F m).R w) (hh0 : HE.holds w g (.fn o (o + l.length) (ints l o))) (hW : okW l) (hc : l.length ≤ c) (ho : 0 ≤ o_ ∧ 0 ≤ z ∧ o_ + z ≤ 4294967296) (hv : vbyE m o_ z 0 (sumT l l.length) = 0) :
    Calls Tryd.prog 92 #[.agg #[sc g o l.length c], .agg #[pt b 0, vi o_, vi z]] w fun e w' => ∃ (g2 : Nat) (c2 : Nat), e = .returned (.tuple #[sc g2 0 l.length c2, vi 0]) ∧ l.length ≤ c2 ∧ w.heap.size ≤ g2 ∧ HE.holds w' g2 (.fn 0 (0 + l.length) (u64z (fun i => getW l m o_ z (i : Int)) 0)) ∧ Fr w w' no no := by
 obtain ⟨hW1, hW2, hW3⟩ := id hW
 have hsb := fun n => sumT_bd hW n
 refine enter (args := [.agg #[sc g o l.length c], .agg #[pt b 0, vi o_, vi z]]) (D := no) (A := []) Tryd.func92 rfl 41 rfl [(g, .fn o (o + l.length) (ints l o))] (WS.startL ⟨⟨rfl, hh0⟩, trivial⟩) fun ac hS => ?_
 refine hS.regS [0, 0, 0, 0] [] fun ν1 => seg [(2, pt (ν1 0) 0), (3, pt (ν1 1) 0)] [(0, none), (1, some ((ν1 0), .cells [sc g o l.length c] 146)), (2, some ((ν1 1), .cells [pt b 0, vi o_, vi z] 55))] [] trivial fun ac wd hS => ?_
 refine wp_seq ?_
 refine St.ordBeginS [(0, 1), (1, 1), (2, 0), (3, 0), (4, 1), (5, 1), (6, 1), (7, 1), (8, 1)] [(g, .fn o (o + l.length) (ints l o)), ((ν1 0), .cells [sc g o l.length c] 146), ((ν1 1), .cells [pt b 0, vi o_, vi z] 55)] [0, 1, 2] hS fun wd hS => ?_
 have hap := hS.mem.pairs (Hf := [(g, .fn o (o + l.length) (ints l o)), ((ν1 0), .cells [sc g o l.length c] 146), ((ν1 1), .cells [pt b 0, vi o_, vi z] 55)]) (l := [0, 1, 2])
 refine St.ordF [200, 100] [0, 1] [2, 3] (rest := [(2, 0), (3, 0), (4, 1), (5, 1), (6, 1), (7, 1), (8, 1)]) hS hap <| segF [(13, .agg #[pt b 0, vi o_, vi z]), (14, .agg #[sc g o l.length c])] [.e (ν1 0), .e (ν1 1), .e (ν1 1), .e (ν1 1)] trivial fun ac hS => ?_
 refine hS.ordC 2 125 #[.agg #[sc g o l.length c]] (rec_Size g o c l _ (hS.mem.get 0 g (.fn o (o + l.length) (ints l o))) (by first | assumption | omega | (simp_all; done) | (simp_all; omega)) (by first | assumption | omega | (simp_all; done) | (simp_all; omega))) ?_
 rintro _ wd ⟨rfl, hF⟩
 refine ⟨vi (sumT l l.length), rfl, ?_⟩
 replace hS := (hS.to (hS.mem.keep0 hF)).put (d := 15) (v := vi (sumT l l.length)) (by decide)
 clear hF
 refine hS.ordV (l := [0, 1, 2]) ?_
 refine hS.ordC 3 78 #[.agg #[pt b 0, vi o_, vi z], vi 0, vi (sumT l l.length)] (vw_Bytes b F m o_ z 0 (sumT l l.length) _ (Res.keep hr hS.mem.fr) (by first | assumption | omega | (simp_all; done) | (simp_all; omega))) ?_
 rintro _ wd ⟨rfl, hF⟩
 refine ⟨.tuple #[.string (vbyS m o_ z 0 (sumT l l.length)), vi (vbyE m o_ z 0 (sumT l l.length))], rfl, ?_⟩
 replace hS := (hS.to (hS.mem.keep0 hF)).put (d := 16) (v := .tuple #[.string (vbyS m o_ z 0 (sumT l l.length)), vi (vbyE m o_ z 0 (sumT l l.length))]) (by decide)
 clear hF
 refine hS.ordV (l := [0, 1, 2]) ?_
 refine St.ordF [0, 0, 0, 0, 0] [4, 5, 6, 7, 8] [2, 3] (rest := []) hS hap <| segF [(7, vi (vbyE m o_ z 0 (sumT l l.length)))] [] trivial fun ac hS => ?_
 refine ord_nil ?_
 refine hS.regS [0, 0] [2, 3, 7] fun _ => seg [(20, vb (((vbyE m o_ z 0 (sumT l l.length)) : Int) != 0))] [(0, none), (1, none), (2, none)] [] trivial fun ac wd hS => ?_
 refine hS.condK (((vbyE m o_ z 0 (sumT l l.length)) : Int) != 0) false (by rw [hv]; rfl) ?_
 show Code.wp _ _ _ _ _
 refine wp_skip ?_
 refine pop_then ?_
 refine hS.regS [0] [2, 3] fun _ => seg [(8, vnil)] [(0, none), (1, none), (2, none)] [] trivial fun ac wd hS => ?_
 refine wp_seq ?_
 replace hS := hS.to (hS.mem.grNew 34 1 (u64z (fun i => getW l m o_ z (i : Int)) 0))
 refine hS.regS [0, 100, 0, 0] [2, 3, 8] fun _ => seg [(24, vi ((l.length : Nat) : Int)), (25, vi 0)] [(0, none), (1, none), (2, none)] [.e (ν1 0)] trivial fun ac wd hS => ?_
 refine wp_block ?_
 refine St.loopC (σ := Int × Option Addr × Nat × (Nat → Prop)) (fun (x : Int × Option Addr × Nat × (Nat → Prop)) => match x with | (x25, xo, xc, Fx) => ⟨[(2, [], pt (ν1 0) 0), (3, [], pt (ν1 1) 0), (8, [], .slice xo (Int.toNat x25) xc), (24, [], vi ((l.length : Nat) : Int)), (25, [], vi x25)], [(g, .fn o (o + l.length) (ints l o)), ((ν1 0), .cells [sc g o l.length c] 146), ((ν1 1), .cells [pt b 0, vi o_, vi z] 55)], [grR 34 1 (.slice xo (Int.toNat x25) xc) Fx ((Int.toNat x25), (u64z (fun i => getW l m o_ z (i : Int)) 0))], (0 ≤ x25 ∧ x25 ≤ (l.length : Int)) ∧ True, l.length - Int.toNat x25⟩) (0, none, 0, no) ⟨(by omega), trivial⟩ hS ?_
 clear hS
 rintro ⟨x25, xo, xc, Fx⟩ ⟨i0, -⟩ ac wd hS
 replace i0 : 0 ≤ x25 ∧ x25 ≤ (l.length : Int) := i0
 refine hS.regS [0] [2, 3, 8, 24, 25] fun _ => seg [(26, vb (decide ((x25 : Int) < ((l.length : Nat) : Int))))] [(0, none), (1, none), (2, none)] [] trivial fun ac wd hS => ?_
 refine wp_seq ?_
 refine hS.condC (decide ((x25 : Int) < ((l.length : Nat) : Int))) (fun hb1o hb1 => ?_) (fun hb1o hb1 => ?_)
 ·
  refine wp_skip ?_
  refine pop_then ?_
  refine wp_seq ?_
  refine wp_block ?_
  refine hS.regS [0, 0] [2, 3, 8, 24, 25] fun _ => seg [(9, vi x25)] [(0, none), (1, none), (2, none)] [] trivial fun ac wd hS => ?_
  refine wp_region_seq ?_
  refine hS.opsC 3 [100, 200, 0] [2, 3, 8, 24, 25] fun _ => seg [(29, .agg #[sc g o l.length c]), (30, .agg #[pt b 0, vi o_, vi z]), (31, vi x25)] [(0, none), (1, none), (2, none)] [.e (ν1 1), .e (ν1 1), .e (ν1 1), .e (ν1 0)] trivial fun ac wd hS => ?_
  refine hS.call0 127 #[.agg #[sc g o l.length c], .agg #[pt b 0, vi o_, vi z], vi x25] 32 (rec_Get b F m g o c l o_ z x25 _ (Res.keep hr hS.mem.fr) (hS.mem.get 0 g (.fn o (o + l.length) (ints l o))) (by first | assumption | omega | (simp_all; done) | (simp_all; omega)) (by first | assumption | omega | (simp_all; done) | (simp_all; omega)) (by first | assumption | omega | (simp_all; done) | (simp_all; omega))) fun ac wd hS => ?_
  refine hS.opsC 5 [0, 0, 0, 0, 0] [2, 3, 8, 24, 25] fun _ => seg [(10, vu (getW l m o_ z x25))] [(0, none), (1, none), (2, none)] [] trivial fun ac wd hS => ?_
  refine list_nil_seq ?_
  refine wp_region_lit ?_
  refine hS.opsC 3 [0, 0, 0] [2, 3, 8, 24, 25] fun ν9 => seg [(35, .slice xo (Int.toNat x25) xc), (37, sc (ν9 0) 0 1 1)] [(0, none), (1, none), (2, none), (3, some ((ν9 0), .cells [vu (getW l m o_ z x25)] 34))] [] trivial fun ac wd hS => ?_
  obtain ⟨i_, hi_, hz_, hs_, hb_⟩ := info_get (P := Tryd.prog) (e := 34) (z := vu 0) (s := 1) (b := 8) (by kernel_rfl)
  refine Runs1.list ?_
  refine St.appV (m := (Int.toNat x25)) (f := (u64z (fun i => getW l m o_ z (i : Int)) 0)) (news := [vu (getW l m o_ z x25)]) (bx := (ν9 0)) (cx := 1) (Tx := 34) 0 hS (.tmp 35) (.tmp 37) 44 rfl rfl (by decide) Tryd.underlying44 hi_ hz_ hs_ (by omega) rfl (by decide) 3 rfl rfl (by omega) fun ac wd v2_ F4 hB5 hS => ?_
  obtain ⟨xo2, xc3, rfl⟩ := hB5.slice
  refine hS.opsC 1 [0] [2, 3, 24, 25] fun _ => seg [(8, .slice xo2 ((Int.toNat x25) + 1) xc3)] [(0, none), (1, none), (2, none)] [] trivial fun ac wd hS => ?_
  refine list_nil ?_
  refine pop_block ?_
  refine pop_then ?_
  refine hS.regC [20, 0] [2, 3, 8, 24] fun _ => seg [(25, vi (x25 + 1))] [(0, none), (1, none), (2, none)] [.p (fit .i64 (x25 + 1))] ⟨fit_i64 (by omega), trivial⟩ fun ac wd hS => ?_
  replace hS := hS.to (hS.mem.grTell (m := ((Int.toNat x25) + 1)) 0 (u64z (fun i => getW l m o_ z (i : Int)) 0) (gr_one (by show _ = vu (getW l m o_ z ((Int.toNat x25 : Nat) : Int)); rw [Int.toNat_of_nonneg i0.1])))
  have hm_ : (Int.toNat x25) + 1 = (Int.toNat (x25 + 1)) := by omega
  replace hS := hS.to (hS.mem.grRe (v := .slice xo2 ((Int.toNat x25) + 1) xc3) (v' := .slice xo2 (Int.toNat (x25 + 1)) xc3) (m := ((Int.toNat x25) + 1)) (m' := (Int.toNat (x25 + 1))) (f := (u64z (fun i => getW l m o_ z (i : Int)) 0)) 0 (by rw [hm_]) hm_)
  replace hS := hS.fix 8 (.slice xo2 (Int.toNat (x25 + 1)) xc3) (show (.slice xo2 ((Int.toNat x25) + 1) xc3 : Value) = .slice xo2 (Int.toNat (x25 + 1)) xc3 by rw [hm_])
  exact pop_then (hS.next ((x25 + 1), xo2, xc3, F4) ⟨(by first | omega | assumption | (simp; done) | (simp; omega)), trivial⟩ (by dsimp only; omega))
 ·
  refine wp_exit ?_
  refine pop_then_exit ?_
  refine pop_then_exit ?_
  refine pop_block_hit ?_
  refine pop_then ?_
  refine hS.regS [0, 0, 0] [] fun _ => seg [(4, .slice xo (Int.toNat x25) xc), (5, vi 0)] [] [] trivial fun ac wd hS => ?_
  refine wp_ret ?_
  have hm_ : (Int.toNat x25) = l.length := by omega
  replace hS := hS.to (hS.mem.grRe (v := .slice xo (Int.toNat x25) xc) (v' := .slice xo l.length xc) (m := (Int.toNat x25)) (m' := l.length) (f := (u64z (fun i => getW l m o_ z (i : Int)) 0)) 0 (by rw [hm_]) hm_)
  replace hS := hS.fix 4 (.slice xo l.length xc) (show (.slice xo (Int.toNat x25) xc : Value) = .slice xo l.length xc by rw [hm_])
  obtain ⟨gg6, cp7, hv_, hcp_, hO⟩ := WS.grOpen (e := 34) (sz := 1) (m := l.length) (f := (u64z (fun i => getW l m o_ z (i : Int)) 0)) hS.mem (by omega)
  simp only [Nat.mul_one] at hO
  obtain ⟨rfl, rfl⟩ : some (⟨gg6, 0, none⟩ : Addr) = xo ∧ cp7 = xc := by cases hv_; exact ⟨rfl, rfl⟩
  clear hv_
  replace hS := hS.to hO
  clear hO
  refine St.retC 0 hS (.tuple #[sc gg6 0 l.length cp7, vi 0]) [] trivial fun hw => ?_
  refine ⟨gg6, cp7, retd rfl, ?_, ((hw.getm 0 gg6 (.row 34 l.length cp7 (u64z (fun i => getW l m o_ z (i : Int)) 0))).resolve_right (fun h => h)), (HE.fn_hi (by omega) (HE.of_row (hw.get 0 gg6 (.row 34 l.length cp7 (u64z (fun i => getW l m o_ z (i : Int)) 0))) (fun _ _ => rfl))), hw.fr0⟩
  all_goals (first | rfl | omega)

set_option maxRecDepth 100000 in
set_option maxHeartbeats 1000000 in
theorem ref03_Commit (g : Nat) (u : Nat) (n : Nat) (cp : Nat) (rf : Int) (f : Int) (k : Int) (S : Nat → ByteArray) (w : World) (hh0 : HE.holds w g (.fn u (u + n) (strs S u))) (hn : n ≤ 1048576) (hrf : -1 ≤ rf ∧ rf ≤ 9223372036854775807) :
    Calls Tryd.prog 22 #[.agg #[sc g u n cp, vi rf], vi f, vi k] w fun e w' => ∃ (g2 : Nat) (u2 : Nat) (cp2 : Nat) (rf2 : Int) (S2 : Nat → ByteArray), e = .returned (.tuple #[.agg #[sc g2 u2 n cp2, vi rf2], vi (rcE S n f k rf)]) ∧ S2 = rcS S n f k rf ∧ rf2 = rcR S n f k rf ∧ (g2 = g ∨ w.heap.size ≤ g2) ∧ HE.holds w' g2 (.fn u2 (u2 + n) (strs S2 u2)) ∧ Fr w w' no no := by
 refine enter (args := [.agg #[sc g u n cp, vi rf], vi f, vi k]) (D := no) (A := []) Tryd.func22 rfl 44 rfl [(g, .fn u (u + n) (strs S u))] (WS.startL ⟨⟨rfl, hh0⟩, trivial⟩) fun ac hS => ?_
 refine hS.regS [0, 0, 0] [1, 2] fun ν1 => seg [(3, pt (ν1 0) 0), (6, pt (ν1 1) 0)] [(0, none), (1, some ((ν1 0), .cells [sc g u n cp, vi rf] 30)), (2, some ((ν1 1), .cells [vnil, vi 0] 30))] [] trivial fun ac wd hS => ?_
 refine wp_region_seq ?_
 refine hS.opsC 3 [100, 0, 0] [1, 2, 3, 6] fun _ => seg [(11, .agg #[sc g u n cp, vi rf]), (12, vi f), (13, vi k)] [(0, none), (1, none), (2, none)] [.e (ν1 0), .e (ν1 0)] trivial fun ac wd hS => ?_
 refine hS.call0 71 #[.agg #[sc g u n cp, vi rf], vi f, vi k, vb false, vi 9] 14 (ref03_wrong g u n cp rf f k false 9 S _ (hS.mem.get 0 g (.fn u (u + n) (strs S u))) (by first | assumption | omega | (simp_all; done) | (simp_all; omega))) fun ac wd hS => ?_
 refine hS.opsC 1 [0] [1, 2, 3, 6] fun _ => seg [(8, vi (wrgE S n f k false 9))] [(0, none), (1, none), (2, none)] [] trivial fun ac wd hS => ?_
 refine list_nil_seq ?_
 refine wp_seq ?_
 refine hS.regS [0, 0] [1, 2, 3, 6, 8] fun _ => seg [(16, vb (((wrgE S n f k false 9) : Int) != 0))] [(0, none), (1, none), (2, none)] [] trivial fun ac wd hS => ?_
 refine hS.condC (((wrgE S n f k false 9) : Int) != 0) (fun hb1o hb1 => ?_) (fun hb1o hb1 => ?_)
 ·
  have hen := hb1
  refine hS.regS [100, 0, 200, 0] [6] fun _ => seg [(7, vi (wrgE S n f k false 9))] [(0, none), (2, some ((ν1 1), .cells [sc g u n cp, vi rf] 30))] [.e (ν1 1), .e (ν1 1), .e (ν1 0), .e (ν1 0)] trivial fun ac wd hS => ?_
  refine wp_ret ?_
  refine pop_then_ret ?_
  refine St.retC 1 hS (.tuple #[.agg #[sc g u n cp, vi rf], vi (wrgE S n f k false 9)]) [.e (ν1 1), .e (ν1 1)] trivial fun hw => ?_
  refine ⟨g, u, cp, rf, S, retd (tuple2 rfl (vint ?_)), ?_, ?_, (.inl rfl), (hw.get 0 g (.fn u (u + n) (strs S u))), hw.fr0⟩
  all_goals (first | rfl | exact (rc_1 hen).1 | exact (rc_1 hen).2.1 | exact (rc_1 hen).2.2 | exact (rc_2 he0 (by omega)).1 | exact (rc_2 he0 (by omega)).2.1 | exact (rc_2 he0 (by omega)).2.2 | exact (rc_3 he0 (by omega)).1 | exact (rc_3 he0 (by omega)).2.1 (by omega) | exact (rc_3 he0 (by omega)).2.2.1 (by omega) | exact (rc_3 he0 (by omega)).2.2.2 | omega)
 ·
  have he0 := hb1
  obtain ⟨hw1, hw2, hw3, hw4⟩ := wrg_in he0 (by omega)
  refine wp_skip ?_
  refine pop_then ?_
  refine wp_seq ?_
  refine hS.regS [0, 100, 0] [1, 2, 3, 6] fun _ => seg [(21, vb ((rf : Int) == 0))] [(0, none), (1, none), (2, none)] [.e (ν1 0)] trivial fun ac wd hS => ?_
  refine hS.condC ((rf : Int) == 0) (fun hb2o hb2 => ?_) (fun hb2o hb2 => ?_)
  ·
   refine hS.regS [0, 100] [3, 6] fun _ => seg [] [(0, none), (1, some ((ν1 0), .cells [sc g u n cp, vi (-1)] 30)), (2, none)] [.e (ν1 0)] trivial fun ac wd hS => ?_
   refine hS.regS [100, 200, 0] [6] fun _ => seg [(7, vi 4)] [(0, none), (2, some ((ν1 1), .cells [sc g u n cp, vi (-1)] 30))] [.e (ν1 1), .e (ν1 1), .e (ν1 0), .e (ν1 0)] trivial fun ac wd hS => ?_
   refine wp_ret ?_
   refine pop_then_ret ?_
   refine St.retC 1 hS (.tuple #[.agg #[sc g u n cp, vi (-1)], vi 4]) [.e (ν1 1), .e (ν1 1)] trivial fun hw => ?_
   refine ⟨g, u, cp, (-1), S, retd (tuple2 rfl (vint ?_)), ?_, ?_, (.inl rfl), (hw.get 0 g (.fn u (u + n) (strs S u))), hw.fr0⟩
   all_goals (first | rfl | exact (rc_1 hen).1 | exact (rc_1 hen).2.1 | exact (rc_1 hen).2.2 | exact (rc_2 he0 (by omega)).1 | exact (rc_2 he0 (by omega)).2.1 | exact (rc_2 he0 (by omega)).2.2 | exact (rc_3 he0 (by omega)).1 | exact (rc_3 he0 (by omega)).2.1 (by omega) | exact (rc_3 he0 (by omega)).2.2.1 (by omega) | exact (rc_3 he0 (by omega)).2.2.2 | omega)
  ·
   refine wp_skip ?_
   refine pop_then ?_
   refine wp_seq ?_
   refine hS.regS [0, 100, 0] [1, 2, 3, 6] fun _ => seg [(26, vb (decide ((0 : Int) < rf)))] [(0, none), (1, none), (2, none)] [.e (ν1 0)] trivial fun ac wd hS => ?_
   refine hS.condC (decide ((0 : Int) < rf)) (fun hb3o hb3 => ?_) (fun hb3o hb3 => ?_)
   ·
    refine hS.regC [0, 100, 20, 0, 100] [1, 2, 3, 6] fun _ => seg [] [(0, none), (1, some ((ν1 0), .cells [sc g u n cp, vi (rf - 1)] 30)), (2, none)] [.e (ν1 0), .p (fit .i64 (rf - 1)), .e (ν1 0)] ⟨fit_i64 (by omega), trivial⟩ fun ac wd hS => ?_
    refine pop_then ?_
    refine hS.regS [0] [1, 2, 3, 6] fun _ => seg [(9, vnil)] [(0, none), (1, none), (2, none)] [] trivial fun ac wd hS => ?_
    refine wp_seq ?_
    replace hS := hS.to (hS.mem.grNew 9 1 (strs (fun _ => bs (fun _ => 0) 4096) 0))
    refine hS.regS [0] [1, 2, 3, 6, 9] fun _ => seg [(10, vi 0)] [(0, none), (1, none), (2, none)] [] trivial fun ac wd hS => ?_
    refine wp_block ?_
    refine St.loopC (σ := Int × Option Addr × Nat × (Nat → Prop)) (fun (x : Int × Option Addr × Nat × (Nat → Prop)) => match x with | (x10, xo, xc, Fx) => ⟨[(1, [], vi f), (2, [], vi k), (3, [], pt (ν1 0) 0), (6, [], pt (ν1 1) 0), (9, [], .slice xo (Int.toNat x10) xc), (10, [], vi x10)], [(g, .fn u (u + n) (strs S u)), ((ν1 0), .cells [sc g u n cp, vi (rf - 1)] 30), ((ν1 1), .cells [vnil, vi 0] 30)], [grR 9 1 (.slice xo (Int.toNat x10) xc) Fx ((Int.toNat x10), (strs (fun _ => bs (fun _ => 0) 4096) 0))], (0 ≤ x10 ∧ x10 ≤ k) ∧ True, Int.toNat (k - x10)⟩) (0, none, 0, no) ⟨(by omega), trivial⟩ hS ?_
    clear hS
    rintro ⟨x10, xo, xc, Fx⟩ ⟨i0, -⟩ ac wd hS
    replace i0 : 0 ≤ x10 ∧ x10 ≤ k := i0
    refine wp_seq ?_
    refine hS.regS [0, 0, 0] [1, 2, 3, 6, 9, 10] fun _ => seg [(33, vb (decide ((x10 : Int) < k)))] [(0, none), (1, none), (2, none)] [] trivial fun ac wd hS => ?_
    refine hS.condC (decide ((x10 : Int) < k)) (fun hb4o hb4 => ?_) (fun hb4o hb4 => ?_)
    ·
     refine wp_skip ?_
     refine pop_then ?_
     refine wp_seq ?_
     refine wp_block ?_
     refine wp_region_lit ?_
     refine hS.opsC 1 [0] [1, 2, 3, 6, 9, 10] fun _ => seg [(36, .slice xo (Int.toNat x10) xc)] [(0, none), (1, none), (2, none)] [] trivial fun ac wd hS => ?_
     refine hS.call0 72 #[vi 4096] 37 (ref03_Noughts 4096 _  (by first | assumption | omega | (simp_all; done) | (simp_all; omega))) fun ac wd hS => ?_
     refine hS.opsC 1 [0] [1, 2, 3, 6, 9, 10, 36] fun ν15 => seg [(38, sc (ν15 0) 0 1 1)] [(0, none), (1, none), (2, none), (3, some ((ν15 0), .cells [.string (bs (fun _ => 0) (Int.toNat 4096))] 9))] [] trivial fun ac wd hS => ?_
     obtain ⟨i_, hi_, hz_, hs_, hb_⟩ := info_get (P := Tryd.prog) (e := 9) (z := .string (ByteArray.empty)) (s := 1) (b := 16) (by kernel_rfl)
     refine Runs1.list ?_
     refine St.appV (m := (Int.toNat x10)) (f := (strs (fun _ => bs (fun _ => 0) 4096) 0)) (news := [.string (bs (fun _ => 0) (Int.toNat 4096))]) (bx := (ν15 0)) (cx := 1) (Tx := 9) 0 hS (.tmp 36) (.tmp 38) 28 rfl rfl (by decide) Tryd.underlying28 hi_ hz_ hs_ (by omega) rfl (by decide) 3 rfl rfl (by omega) fun ac wd v2_ F7 hB8 hS => ?_
     obtain ⟨xo5, xc6, rfl⟩ := hB8.slice
     refine hS.opsC 1 [0] [1, 2, 3, 6, 10] fun _ => seg [(9, .slice xo5 ((Int.toNat x10) + 1) xc6)] [(0, none), (1, none), (2, none)] [] trivial fun ac wd hS => ?_
     refine list_nil ?_
     refine pop_block ?_
     refine pop_then ?_
     refine hS.regC [0, 20, 0] [1, 2, 3, 6, 9] fun _ => seg [(10, vi (x10 + 1))] [(0, none), (1, none), (2, none)] [.p (fit .i64 (x10 + 1))] ⟨fit_i64 (by omega), trivial⟩ fun ac wd hS => ?_
     replace hS := hS.to (hS.mem.grTell (m := ((Int.toNat x10) + 1)) 0 (strs (fun _ => bs (fun _ => 0) 4096) 0) (gr_one rfl))
     have hm_ : (Int.toNat x10) + 1 = (Int.toNat (x10 + 1)) := by omega
     replace hS := hS.to (hS.mem.grRe (v := .slice xo5 ((Int.toNat x10) + 1) xc6) (v' := .slice xo5 (Int.toNat (x10 + 1)) xc6) (m := ((Int.toNat x10) + 1)) (m' := (Int.toNat (x10 + 1))) (f := (strs (fun _ => bs (fun _ => 0) 4096) 0)) 0 (by rw [hm_]) hm_)
     replace hS := hS.fix 9 (.slice xo5 (Int.toNat (x10 + 1)) xc6) (show (.slice xo5 ((Int.toNat x10) + 1) xc6 : Value) = .slice xo5 (Int.toNat (x10 + 1)) xc6 by rw [hm_])
     exact pop_then (hS.next ((x10 + 1), xo5, xc6, F7) ⟨(by first | omega | assumption | (simp; done) | (simp; omega)), trivial⟩ (by dsimp only; omega))
    ·
     refine wp_exit ?_
     refine pop_then_exit ?_
     refine pop_then_exit ?_
     refine pop_block_hit ?_
     refine pop_then ?_
     have hm_ : (Int.toNat x10) = (Int.toNat k) := by omega
     replace hS := hS.to (hS.mem.grRe (v := .slice xo (Int.toNat x10) xc) (v' := .slice xo (Int.toNat k) xc) (m := (Int.toNat x10)) (m' := (Int.toNat k)) (f := (strs (fun _ => bs (fun _ => 0) 4096) 0)) 0 (by rw [hm_]) hm_)
     replace hS := hS.fix 9 (.slice xo (Int.toNat k) xc) (show (.slice xo (Int.toNat x10) xc : Value) = .slice xo (Int.toNat k) xc by rw [hm_])
     obtain ⟨gg9, cp10, hv_, hcp_, hO⟩ := WS.grOpen (e := 9) (sz := 1) (m := (Int.toNat k)) (f := (strs (fun _ => bs (fun _ => 0) 4096) 0)) hS.mem (by omega)
     simp only [Nat.mul_one] at hO
     obtain ⟨rfl, rfl⟩ : some (⟨gg9, 0, none⟩ : Addr) = xo ∧ cp10 = xc := by cases hv_; exact ⟨rfl, rfl⟩
     clear hv_
     replace hS := hS.to hO
     clear hO
     refine wp_region_seq ?_
     refine hS.opsC 3 [100, 0, 0] [6] fun _ => seg [(40, .agg #[sc g u n cp, vi (rf - 1)]), (41, vi f), (42, sc gg9 0 (Int.toNat k) cp10)] [(0, none), (2, none), (3, none)] [.e (ν1 0), .e (ν1 0)] trivial fun ac wd hS => ?_
     refine hS.callC 73 #[.agg #[sc g u n cp, vi (rf - 1)], vi f, sc gg9 0 (Int.toNat k) cp10] (ref03_with g u n cp (rf - 1) f gg9 0 (Int.toNat k) cp10 S (fun _ => bs (fun _ => 0) 4096) _ (hS.mem.get 0 g (.fn u (u + n) (strs S u))) (HE.fn_hi (by omega) (HE.of_row (hS.mem.get 2 gg9 (.row 9 (Int.toNat k) cp10 (strs (fun _ => bs (fun _ => 0) 4096) 0))) (fun _ _ => rfl))) (by first | assumption | omega | (simp_all; done) | (simp_all; omega)) (by first | assumption | omega | (simp_all; done) | (simp_all; omega)) (by first | assumption | omega | (simp_all; done) | (simp_all; omega))) ?_
     rintro _ wd ⟨g211, rfl, hog0, hoh0, hF⟩
     have ho12 : w.heap.size ≤ g211 := Nat.le_trans hS.mem.fr.size hog0
     refine ⟨.agg #[sc g211 0 n n, vi (rf - 1)], rfl, ?_⟩
     replace hS := (hS.to (hS.mem.outs hF [(g211, .fn 0 (0 + n) (strs (withF S (Int.toNat f) (Int.toNat k) (fun _ => bs (fun _ => 0) 4096)) 0))] ⟨⟨rfl, hoh0, .inr hog0⟩, trivial⟩)).put (d := 43) (v := .agg #[sc g211 0 n n, vi (rf - 1)]) (by decide)
     clear hF
     refine hS.opsC 2 [100, 0] [6] fun _ => seg [(7, vi 0)] [(1, some ((ν1 1), .cells [sc g211 0 n n, vi (rf - 1)] 30)), (3, none)] [.e (ν1 1), .e (ν1 1)] trivial fun ac wd hS => ?_
     refine list_nil_seq ?_
     refine wp_ret ?_
     refine St.retC 0 hS (.tuple #[.agg #[sc g211 0 n n, vi (rf - 1)], vi 0]) [.e (ν1 1), .e (ν1 1)] trivial fun hw => ?_
     refine ⟨g211, 0, n, (rf - 1), (withF S (Int.toNat f) (Int.toNat k) (fun _ => bs (fun _ => 0) 4096)), retd (tuple2 rfl (vint ?_)), ?_, ?_, (.inr ho12), (hw.get 1 g211 (.fn 0 (0 + n) (strs (withF S (Int.toNat f) (Int.toNat k) (fun _ => bs (fun _ => 0) 4096)) 0))), hw.fr0⟩
     all_goals (first | rfl | exact (rc_1 hen).1 | exact (rc_1 hen).2.1 | exact (rc_1 hen).2.2 | exact (rc_2 he0 (by omega)).1 | exact (rc_2 he0 (by omega)).2.1 | exact (rc_2 he0 (by omega)).2.2 | exact (rc_3 he0 (by omega)).1 | exact (rc_3 he0 (by omega)).2.1 (by omega) | exact (rc_3 he0 (by omega)).2.2.1 (by omega) | exact (rc_3 he0 (by omega)).2.2.2 | omega)
   ·
    refine wp_skip ?_
    refine pop_then ?_
    refine hS.regS [0] [1, 2, 3, 6] fun _ => seg [(9, vnil)] [(0, none), (1, none), (2, none)] [] trivial fun ac wd hS => ?_
    refine wp_seq ?_
    replace hS := hS.to (hS.mem.grNew 9 1 (strs (fun _ => bs (fun _ => 0) 4096) 0))
    refine hS.regS [0] [1, 2, 3, 6, 9] fun _ => seg [(10, vi 0)] [(0, none), (1, none), (2, none)] [] trivial fun ac wd hS => ?_
    refine wp_block ?_
    refine St.loopC (σ := Int × Option Addr × Nat × (Nat → Prop)) (fun (x : Int × Option Addr × Nat × (Nat → Prop)) => match x with | (x10, xo, xc, Fx) => ⟨[(1, [], vi f), (2, [], vi k), (3, [], pt (ν1 0) 0), (6, [], pt (ν1 1) 0), (9, [], .slice xo (Int.toNat x10) xc), (10, [], vi x10)], [(g, .fn u (u + n) (strs S u)), ((ν1 0), .cells [sc g u n cp, vi rf] 30), ((ν1 1), .cells [vnil, vi 0] 30)], [grR 9 1 (.slice xo (Int.toNat x10) xc) Fx ((Int.toNat x10), (strs (fun _ => bs (fun _ => 0) 4096) 0))], (0 ≤ x10 ∧ x10 ≤ k) ∧ True, Int.toNat (k - x10)⟩) (0, none, 0, no) ⟨(by omega), trivial⟩ hS ?_
    clear hS
    rintro ⟨x10, xo, xc, Fx⟩ ⟨i0, -⟩ ac wd hS
    replace i0 : 0 ≤ x10 ∧ x10 ≤ k := i0
    refine wp_seq ?_
    refine hS.regS [0, 0, 0] [1, 2, 3, 6, 9, 10] fun _ => seg [(33, vb (decide ((x10 : Int) < k)))] [(0, none), (1, none), (2, none)] [] trivial fun ac wd hS => ?_
    refine hS.condC (decide ((x10 : Int) < k)) (fun hb13o hb13 => ?_) (fun hb13o hb13 => ?_)
    ·
     refine wp_skip ?_
     refine pop_then ?_
     refine wp_seq ?_
     refine wp_block ?_
     refine wp_region_lit ?_
     refine hS.opsC 1 [0] [1, 2, 3, 6, 9, 10] fun _ => seg [(36, .slice xo (Int.toNat x10) xc)] [(0, none), (1, none), (2, none)] [] trivial fun ac wd hS => ?_
     refine hS.call0 72 #[vi 4096] 37 (ref03_Noughts 4096 _  (by first | assumption | omega | (simp_all; done) | (simp_all; omega))) fun ac wd hS => ?_
     refine hS.opsC 1 [0] [1, 2, 3, 6, 9, 10, 36] fun ν24 => seg [(38, sc (ν24 0) 0 1 1)] [(0, none), (1, none), (2, none), (3, some ((ν24 0), .cells [.string (bs (fun _ => 0) (Int.toNat 4096))] 9))] [] trivial fun ac wd hS => ?_
     obtain ⟨i_, hi_, hz_, hs_, hb_⟩ := info_get (P := Tryd.prog) (e := 9) (z := .string (ByteArray.empty)) (s := 1) (b := 16) (by kernel_rfl)
     refine Runs1.list ?_
     refine St.appV (m := (Int.toNat x10)) (f := (strs (fun _ => bs (fun _ => 0) 4096) 0)) (news := [.string (bs (fun _ => 0) (Int.toNat 4096))]) (bx := (ν24 0)) (cx := 1) (Tx := 9) 0 hS (.tmp 36) (.tmp 38) 28 rfl rfl (by decide) Tryd.underlying28 hi_ hz_ hs_ (by omega) rfl (by decide) 3 rfl rfl (by omega) fun ac wd v2_ F16 hB17 hS => ?_
     obtain ⟨xo14, xc15, rfl⟩ := hB17.slice
     refine hS.opsC 1 [0] [1, 2, 3, 6, 10] fun _ => seg [(9, .slice xo14 ((Int.toNat x10) + 1) xc15)] [(0, none), (1, none), (2, none)] [] trivial fun ac wd hS => ?_
     refine list_nil ?_
     refine pop_block ?_
     refine pop_then ?_
     refine hS.regC [0, 20, 0] [1, 2, 3, 6, 9] fun _ => seg [(10, vi (x10 + 1))] [(0, none), (1, none), (2, none)] [.p (fit .i64 (x10 + 1))] ⟨fit_i64 (by omega), trivial⟩ fun ac wd hS => ?_
     replace hS := hS.to (hS.mem.grTell (m := ((Int.toNat x10) + 1)) 0 (strs (fun _ => bs (fun _ => 0) 4096) 0) (gr_one rfl))
     have hm_ : (Int.toNat x10) + 1 = (Int.toNat (x10 + 1)) := by omega
     replace hS := hS.to (hS.mem.grRe (v := .slice xo14 ((Int.toNat x10) + 1) xc15) (v' := .slice xo14 (Int.toNat (x10 + 1)) xc15) (m := ((Int.toNat x10) + 1)) (m' := (Int.toNat (x10 + 1))) (f := (strs (fun _ => bs (fun _ => 0) 4096) 0)) 0 (by rw [hm_]) hm_)
     replace hS := hS.fix 9 (.slice xo14 (Int.toNat (x10 + 1)) xc15) (show (.slice xo14 ((Int.toNat x10) + 1) xc15 : Value) = .slice xo14 (Int.toNat (x10 + 1)) xc15 by rw [hm_])
     exact pop_then (hS.next ((x10 + 1), xo14, xc15, F16) ⟨(by first | omega | assumption | (simp; done) | (simp; omega)), trivial⟩ (by dsimp only; omega))
    ·
     refine wp_exit ?_
     refine pop_then_exit ?_
     refine pop_then_exit ?_
     refine pop_block_hit ?_
     refine pop_then ?_
     have hm_ : (Int.toNat x10) = (Int.toNat k) := by omega
     replace hS := hS.to (hS.mem.grRe (v := .slice xo (Int.toNat x10) xc) (v' := .slice xo (Int.toNat k) xc) (m := (Int.toNat x10)) (m' := (Int.toNat k)) (f := (strs (fun _ => bs (fun _ => 0) 4096) 0)) 0 (by rw [hm_]) hm_)
     replace hS := hS.fix 9 (.slice xo (Int.toNat k) xc) (show (.slice xo (Int.toNat x10) xc : Value) = .slice xo (Int.toNat k) xc by rw [hm_])
     obtain ⟨gg18, cp19, hv_, hcp_, hO⟩ := WS.grOpen (e := 9) (sz := 1) (m := (Int.toNat k)) (f := (strs (fun _ => bs (fun _ => 0) 4096) 0)) hS.mem (by omega)
     simp only [Nat.mul_one] at hO
     obtain ⟨rfl, rfl⟩ : some (⟨gg18, 0, none⟩ : Addr) = xo ∧ cp19 = xc := by cases hv_; exact ⟨rfl, rfl⟩
     clear hv_
     replace hS := hS.to hO
     clear hO
     refine wp_region_seq ?_
     refine hS.opsC 3 [100, 0, 0] [6] fun _ => seg [(40, .agg #[sc g u n cp, vi rf]), (41, vi f), (42, sc gg18 0 (Int.toNat k) cp19)] [(0, none), (2, none), (3, none)] [.e (ν1 0), .e (ν1 0)] trivial fun ac wd hS => ?_
     refine hS.callC 73 #[.agg #[sc g u n cp, vi rf], vi f, sc gg18 0 (Int.toNat k) cp19] (ref03_with g u n cp rf f gg18 0 (Int.toNat k) cp19 S (fun _ => bs (fun _ => 0) 4096) _ (hS.mem.get 0 g (.fn u (u + n) (strs S u))) (HE.fn_hi (by omega) (HE.of_row (hS.mem.get 2 gg18 (.row 9 (Int.toNat k) cp19 (strs (fun _ => bs (fun _ => 0) 4096) 0))) (fun _ _ => rfl))) (by first | assumption | omega | (simp_all; done) | (simp_all; omega)) (by first | assumption | omega | (simp_all; done) | (simp_all; omega)) (by first | assumption | omega | (simp_all; done) | (simp_all; omega))) ?_
     rintro _ wd ⟨g220, rfl, hog0, hoh0, hF⟩
     have ho21 : w.heap.size ≤ g220 := Nat.le_trans hS.mem.fr.size hog0
     refine ⟨.agg #[sc g220 0 n n, vi rf], rfl, ?_⟩
     replace hS := (hS.to (hS.mem.outs hF [(g220, .fn 0 (0 + n) (strs (withF S (Int.toNat f) (Int.toNat k) (fun _ => bs (fun _ => 0) 4096)) 0))] ⟨⟨rfl, hoh0, .inr hog0⟩, trivial⟩)).put (d := 43) (v := .agg #[sc g220 0 n n, vi rf]) (by decide)
     clear hF
     refine hS.opsC 2 [100, 0] [6] fun _ => seg [(7, vi 0)] [(1, some ((ν1 1), .cells [sc g220 0 n n, vi rf] 30)), (3, none)] [.e (ν1 1), .e (ν1 1)] trivial fun ac wd hS => ?_
     refine list_nil_seq ?_
     refine wp_ret ?_
     refine St.retC 0 hS (.tuple #[.agg #[sc g220 0 n n, vi rf], vi 0]) [.e (ν1 1), .e (ν1 1)] trivial fun hw => ?_
     refine ⟨g220, 0, n, rf, (withF S (Int.toNat f) (Int.toNat k) (fun _ => bs (fun _ => 0) 4096)), retd (tuple2 rfl (vint ?_)), ?_, ?_, (.inr ho21), (hw.get 1 g220 (.fn 0 (0 + n) (strs (withF S (Int.toNat f) (Int.toNat k) (fun _ => bs (fun _ => 0) 4096)) 0))), hw.fr0⟩
     all_goals (first | rfl | exact (rc_1 hen).1 | exact (rc_1 hen).2.1 | exact (rc_1 hen).2.2 | exact (rc_2 he0 (by omega)).1 | exact (rc_2 he0 (by omega)).2.1 | exact (rc_2 he0 (by omega)).2.2 | exact (rc_3 he0 (by omega)).1 | exact (rc_3 he0 (by omega)).2.1 (by omega) | exact (rc_3 he0 (by omega)).2.2.1 (by omega) | exact (rc_3 he0 (by omega)).2.2.2 | omega)

end Go.Proofs.YtdjhdcaanmkblaaDoor.K

/-
  Walks, printed by w2.py.
-/
namespace Go.Proofs.YtdjhdcaanmkblaaDoor.K
set_option linter.unusedVariables false
set_option linter.unusedSimpArgs false

set_option maxRecDepth 100000 in
set_option maxHeartbeats 1000000 in
theorem law04_Awake (w : World) (hh0 : HE.holds w 0 (.fn 0 64 dbT)) :
    Calls Tryd.prog 147 #[] w fun e w' => e = .returned (vb true) ∧ Fr w w' no no := by
 refine enter (args := []) (D := no) (A := []) Tryd.func147 rfl 2 rfl [(0, .fn 0 64 dbT)] (WS.startL ⟨⟨rfl, hh0⟩, trivial⟩) fun ac hS => ?_
 refine hS.regS [0] [] fun _ => seg [] [(0, none)] [] trivial fun ac wd hS => ?_
 refine wp_region_seq ?_
 refine hS.call0 20 #[] 1 (law04_awake  _ (hS.mem.get 0 0 (.fn 0 64 dbT)) ) fun ac wd hS => ?_
 refine hS.opsC 1 [0] [] fun _ => seg [(0, vb true)] [(0, none)] [] trivial fun ac wd hS => ?_
 refine list_nil_seq ?_
 refine wp_ret ?_
 refine St.retC 0 hS (vb true) [] trivial fun hw => ?_
 refine ⟨retd rfl, hw.fr0⟩

set_option maxRecDepth 100000 in
set_option maxHeartbeats 1000000 in
theorem law05_page (n : Int) (w : World) (hn : 0 ≤ n ∧ n ≤ 4086) :
    Calls Tryd.prog 146 #[vi n] w fun e w' => ∃ (b' : Nat) (g2 : Nat) (u2 : Nat) (cp2 : Nat) (rf2 : Int) (F' : Nat → Prop), e = .returned (.tuple #[pt b' 0, .agg #[pt b' 0, vi 10, vi n], .agg #[sc g2 u2 1 cp2, vi rf2], .agg #[vi 10, vi n], vb true]) ∧ (arR b' F' (comM (AM.new 1) 0 1)).R w' ∧ Fr w w' no F' := by
 refine enter (args := [vi n]) (D := no) (A := []) Tryd.func146 rfl 38 rfl [] (WS.startL trivial) fun ac hS => ?_
 refine hS.regS [0, 0, 0, 0, 0] [0] fun ν1 => seg [(3, pt (ν1 0) 0), (4, pt (ν1 1) 0), (5, pt (ν1 2) 0)] [(0, some ((ν1 0), .cells [pnil, vi 0, vi 0] 55)), (1, some ((ν1 1), .cells [vnil, vi 0] 30)), (2, some ((ν1 2), .cells [vi 0, vi 0] 61))] [] trivial fun ac wd hS => ?_
 refine wp_region_seq ?_
 refine hS.callC 9 #[vi 1] (ar_New 1 _  ) ?_
 rintro _ wd ⟨b'1, F2, rfl, hN, hF⟩
 refine ⟨pt b'1 0, rfl, ?_⟩
 replace hS := (hS.to (hS.mem.newA hN hF)).put (d := 12) (v := pt b'1 0) (by decide)
 clear hF
 refine hS.callC 10 #[vi 1] (ref03_New 1 _  ) ?_
 rintro _ wd ⟨g23, rfl, hog0, hoh0, hF⟩
 have ho4 : w.heap.size ≤ g23 := Nat.le_trans hS.mem.fr.size hog0
 refine ⟨.agg #[sc g23 0 (capN 1) (capN 1), vi (-1)], rfl, ?_⟩
 replace hS := (hS.to (hS.mem.outs hF [(g23, .fn 0 (0 + (capN 1)) (strs (fun _ => ⟨#[]⟩) 0))] ⟨⟨rfl, hoh0, .inr hog0⟩, trivial⟩)).put (d := 13) (v := .agg #[sc g23 0 (capN 1) (capN 1), vi (-1)]) (by decide)
 clear hF
 refine hS.opsC 3 [0, 0, 400] [0, 3, 4, 5] fun ν2 => seg [(7, pt b'1 0), (8, pt (ν2 0) 0)] [(0, none), (1, none), (2, none), (3, none), (4, some ((ν2 0), .cells [sc g23 0 (capN 1) (capN 1), vi (-1)] 30))] [.e (ν2 0), .e (ν2 0)] trivial fun ac wd hS => ?_
 refine list_nil_seq ?_
 refine wp_region_seq ?_
 refine hS.opsC 1 [0] [0, 3, 4, 5, 7, 8] fun _ => seg [(14, pt b'1 0)] [(0, none), (1, none), (2, none), (3, none), (4, none)] [] trivial fun ac wd hS => ?_
 refine hS.callC 21 #[pt b'1 0, vi 0, vi 1] (ar_Commit b'1 F2 (AM.new 1) 0 1 _ (hS.mem.res 0) ) ?_
 rintro _ wd ⟨F5, rfl, hA, hF⟩
 refine ⟨vi (comE (AM.new 1) 0 1), rfl, ?_⟩
 replace hS := (hS.to (hS.mem.stepA 0 rfl hA hF)).put (d := 15) (v := vi (comE (AM.new 1) 0 1)) (by decide)
 clear hF
 refine hS.opsC 1 [0] [0, 3, 4, 5, 7, 8] fun _ => seg [(9, vi (comE (AM.new 1) 0 1))] [(0, none), (1, none), (2, none), (3, none), (4, none)] [] trivial fun ac wd hS => ?_
 refine list_nil_seq ?_
 refine wp_region_seq ?_
 refine hS.opsC 1 [400] [0, 3, 4, 5, 7, 8, 9] fun _ => seg [(17, .agg #[sc g23 0 (capN 1) (capN 1), vi (-1)])] [(0, none), (1, none), (2, none), (3, none), (4, none)] [.e (ν2 0), .e (ν2 0)] trivial fun ac wd hS => ?_
 refine hS.callC 22 #[.agg #[sc g23 0 (capN 1) (capN 1), vi (-1)], vi 0, vi 1] (ref03_Commit g23 0 (capN 1) (capN 1) (-1) 0 1 (fun _ => ⟨#[]⟩) _ (hS.mem.get 3 g23 (.fn 0 (0 + (capN 1)) (strs (fun _ => ⟨#[]⟩) 0))) (by decide +kernel) (by first | assumption | omega | (simp_all; done) | (simp_all; omega))) ?_
 rintro _ wd ⟨g26, u27, cp28, rf29, S210, rfl, hS211, hR212, hog0, hoh0, hF⟩
 have ho13 : w.heap.size ≤ g26 := by rcases hog0 with hx | hx; rw [hx]; exact ho4; exact Nat.le_trans hS.mem.fr.size hx
 refine ⟨.tuple #[.agg #[sc g26 u27 (capN 1) cp28, vi rf29], vi (rcE (fun _ => ⟨#[]⟩) (capN 1) 0 1 (-1))], rfl, ?_⟩
 replace hS := (hS.to (hS.mem.outs hF [(g26, .fn u27 (u27 + (capN 1)) (strs S210 u27))] ⟨⟨rfl, hoh0, hog0.imp (fun e => ⟨3, .fn 0 (0 + (capN 1)) (strs (fun _ => ⟨#[]⟩) 0), by rw [e]; rfl, rfl⟩) id⟩, trivial⟩)).put (d := 18) (v := .tuple #[.agg #[sc g26 u27 (capN 1) cp28, vi rf29], vi (rcE (fun _ => ⟨#[]⟩) (capN 1) 0 1 (-1))]) (by decide)
 clear hF
 refine hS.opsC 4 [0, 0, 0, 400] [0, 3, 4, 5, 7, 8, 9] fun _ => seg [] [(0, none), (1, none), (2, none), (4, some ((ν2 0), .cells [sc g26 u27 (capN 1) cp28, vi rf29] 30)), (5, none)] [.e (ν2 0), .e (ν2 0)] trivial fun ac wd hS => ?_
 refine list_nil_seq ?_
 refine wp_region_seq ?_
 refine hS.opsC 2 [0, 0] [0, 3, 4, 5, 7, 8, 9] fun _ => seg [(22, pt b'1 0), (23, vi n)] [(0, none), (1, none), (2, none), (3, none), (4, none)] [] trivial fun ac wd hS => ?_
 refine hS.call0 23 #[pt b'1 0, vi 10, vi n] 24 (vw_Of b'1 F5 (comM (AM.new 1) 0 1) 10 n _ (hS.mem.res 0) (by exact page_thr hn)) fun ac wd hS => ?_
 refine hS.opsC 6 [0, 0, 0, 0, 500, 0] [0, 3, 4, 5, 7, 8, 9] fun ν8 => seg [(10, pt (ν8 0) 0), (11, vi 0)] [(0, none), (1, none), (2, none), (3, none), (4, none), (5, some ((ν8 0), .cells [pt b'1 0, vi 10, vi n] 55))] [.e (ν8 0), .e (ν8 0), .e (ν8 0)] trivial fun ac wd hS => ?_
 refine list_nil_seq ?_
 refine St.ordBeginS [(0, 1), (1, 1), (2, 1), (3, 1), (4, 1), (5, 1), (6, 1), (7, 1), (8, 1), (9, 1), (10, 1), (11, 1), (12, 0), (13, 0), (14, 0), (15, 1)] [((ν2 0), .cells [sc g26 u27 (capN 1) cp28, vi rf29] 30), (g26, .fn u27 (u27 + (capN 1)) (strs S210 u27)), ((ν8 0), .cells [pt b'1 0, vi 10, vi n] 55)] [3, 4, 5] hS fun wd hS => ?_
 have hap := hS.mem.pairs (Hf := [((ν2 0), .cells [sc g26 u27 (capN 1) cp28, vi rf29] 30), (g26, .fn u27 (u27 + (capN 1)) (strs S210 u27)), ((ν8 0), .cells [pt b'1 0, vi 10, vi n] 55)]) (l := [3, 4, 5])
 refine St.ordF [0, 200, 0, 0, 0, 0, 0, 0, 3, 3, 80, 0] [0, 1, 2, 3, 4, 5, 6, 7, 8, 9, 10, 11] [3, 4, 5] (rest := [(12, 0), (13, 0), (14, 0), (15, 1)]) hS hap <| segF [(2, pt b'1 0), (28, .agg #[pt b'1 0, vi 10, vi n]), (29, .agg #[sc g26 u27 (capN 1) cp28, vi rf29]), (31, .agg #[vi 10, vi n]), (37, vb ((((comE (AM.new 1) 0 1) : Int) == 0) && true))] [.e (ν2 0), .e (ν2 0), .e (ν8 0), .e (ν8 0), .e (ν8 0)] trivial fun ac hS => ?_
 refine St.ord1 12 [0] [2, 3, 4, 5, 29, 31, 37] [3, 4, 5] hS rfl fun _ => seg [] [(0, some ((ν1 0), .cells [pt b'1 0, vi 10, vi n] 55)), (1, none), (2, none), (3, none), (4, none), (5, none)] [.e (ν1 0), .e (ν1 0), .e (ν1 0)] trivial ⟨by as_aux_lemma => kernel_rfl, fun ac wd hS => ?_⟩
 refine St.ord1 13 [100] [2, 3, 4, 5, 31, 37] [3, 4, 5] hS rfl fun _ => seg [] [(0, none), (1, some ((ν1 1), .cells [sc g26 u27 (capN 1) cp28, vi rf29] 30)), (2, none), (3, none), (4, none), (5, none)] [.e (ν1 1), .e (ν1 1)] trivial ⟨by as_aux_lemma => kernel_rfl, fun ac wd hS => ?_⟩
 refine St.ord1 14 [200] [2, 3, 4, 5, 37] [3, 4, 5] hS rfl fun _ => seg [] [(0, none), (1, none), (2, some ((ν1 2), .cells [vi 10, vi n] 61)), (3, none), (4, none), (5, none)] [.e (ν1 2), .e (ν1 2)] trivial ⟨by as_aux_lemma => kernel_rfl, fun ac wd hS => ?_⟩
 refine St.ordF [0] [15] [2, 3, 4, 5] (rest := []) hS hap <| segF [(6, vb ((((comE (AM.new 1) 0 1) : Int) == 0) && true))] [] trivial fun ac hS => ?_
 refine ord_nil ?_
 refine wp_ret ?_
 refine St.retM [0, 1, 2] hS (.tuple #[pt b'1 0, .agg #[pt b'1 0, vi 10, vi n], .agg #[sc g26 u27 (capN 1) cp28, vi rf29], .agg #[vi 10, vi n], vb ((((comE (AM.new 1) 0 1) : Int) == 0) && true)]) [.e (ν1 0), .e (ν1 0), .e (ν1 0), .e (ν1 1), .e (ν1 1), .e (ν1 2), .e (ν1 2)] trivial fun hw => ?_
 refine ⟨b'1, g26, u27, cp28, rf29, F5, retd (tuple5 rfl rfl (agg2 ?_ rfl) rfl (vbool ?_)), (hw.res 0), hw.frA⟩
 all_goals (first | rfl | decide +kernel)

set_option maxRecDepth 100000 in
set_option maxHeartbeats 1000000 in
theorem law05_awake (w : World) (hh0 : HE.holds w 0 (.fn 0 64 dbT)) :
    Calls Tryd.prog 144 #[] w fun e w' => e = .returned (vb true) ∧ Fr w w' no no := by
 refine enter (args := []) (D := no) (A := []) Tryd.func144 rfl 45 rfl [(0, .fn 0 64 dbT)] (WS.startL ⟨⟨rfl, hh0⟩, trivial⟩) fun ac hS => ?_
 refine hS.regS [0] [] fun _ => seg [] [(0, none)] [] trivial fun ac wd hS => ?_
 refine wp_region_seq ?_
 refine hS.opsC 1 [0] [] fun ν2 => seg [(9, sc (ν2 0) 0 3 3)] [(0, none), (1, some ((ν2 0), .cells [vi 1, vi 2, vi 8] 3))] [] trivial fun ac wd hS => ?_
 refine hS.callC 123 #[sc (ν2 0) 0 3 3] (field_Of (ν2 0) 0 3 ([1, 2, 8]) _ (HE.of_cells (hS.mem.get 1 (ν2 0) (.cells [vi 1, vi 2, vi 8] 3)) (fun o_ ho => by have ho : o_ < 3 := ho; rcases (by omega : o_ = 0 ∨ o_ = 1 ∨ o_ = 2) with rfl | rfl | rfl <;> rfl)) (by decide +kernel)) ?_
 rintro _ wd ⟨g21, c22, rfl, hc23, hog0, hoh0, hF⟩
 have ho4 : w.heap.size ≤ g21 := Nat.le_trans hS.mem.fr.size hog0
 refine ⟨.tuple #[.agg #[sc g21 0 (([1, 2, 8]).length) c22], vi 0], rfl, ?_⟩
 replace hS := (hS.to (hS.mem.outs hF [(g21, .fn 0 (0 + ([1, 2, 8]).length) (ints ([1, 2, 8]) 0))] ⟨⟨rfl, hoh0, .inr hog0⟩, trivial⟩)).put (d := 10) (v := .tuple #[.agg #[sc g21 0 (([1, 2, 8]).length) c22], vi 0]) (by decide)
 clear hF
 refine hS.opsC 6 [0, 0, 0, 0, 300, 0] [] fun ν3 => seg [(1, pt (ν3 0) 0), (2, vi 0)] [(0, none), (2, none), (3, some ((ν3 0), .cells [sc g21 0 (([1, 2, 8]).length) c22] 146))] [.e (ν3 0)] trivial fun ac wd hS => ?_
 refine list_nil_seq ?_
 refine wp_region_seq ?_
 refine hS.callC 146 #[vi 20] (law05_page 20 _  (by first | assumption | omega | (simp_all; done) | (simp_all; omega))) ?_
 rintro _ wd ⟨b'5, g26, u27, cp28, rf29, F10, rfl, hN, hF⟩
 refine ⟨.tuple #[pt b'5 0, .agg #[pt b'5 0, vi 10, vi 20], .agg #[sc g26 u27 1 cp28, vi rf29], .agg #[vi 10, vi 20], vb true], rfl, ?_⟩
 replace hS := (hS.to (hS.mem.newA hN hF)).put (d := 14) (v := .tuple #[pt b'5 0, .agg #[pt b'5 0, vi 10, vi 20], .agg #[sc g26 u27 1 cp28, vi rf29], .agg #[vi 10, vi 20], vb true]) (by decide)
 clear hF
 refine hS.opsC 14 [0, 0, 0, 0, 0, 0, 0, 0, 0, 0, 300, 400, 500, 0] [1, 2] fun ν4 => seg [(4, pt (ν4 0) 0), (7, vb true)] [(0, none), (1, none), (2, none), (3, some ((ν4 0), .cells [pt b'5 0, vi 10, vi 20] 55))] [.e (ν4 2), .e (ν4 2), .e (ν4 1), .e (ν4 1), .e (ν4 0), .e (ν4 0), .e (ν4 0)] trivial fun ac wd hS => ?_
 refine list_nil_seq ?_
 refine wp_region_seq ?_
 refine hS.call0 147 #[] 20 (law04_Awake  _ (hS.mem.get 0 0 (.fn 0 64 dbT)) ) fun ac wd hS => ?_
 refine hS.opsC 8 [0, 1, 70, 0, 1, 1, 70, 0] [1, 4] fun _ => seg [(28, vb true)] [(0, none), (1, none), (2, none), (3, none)] [.t true, .t true, .t true, .t true, .t true] trivial fun ac wd hS => ?_
 refine hS.opsC 1 [201] [1, 4, 28] fun _ => seg [(29, .agg #[sc g21 0 (([1, 2, 8]).length) c22])] [(0, none), (1, none), (2, none), (3, none)] [.t true, .e (ν3 0)] trivial fun ac wd hS => ?_
 refine hS.callG true 141 #[.agg #[sc g21 0 (([1, 2, 8]).length) c22], vi 2] (rec_At g21 0 c22 ([1, 2, 8]) 2 _ (hS.mem.get 1 g21 (.fn 0 (0 + ([1, 2, 8]).length) (ints ([1, 2, 8]) 0))) (by first | assumption | decide +kernel) (by first | assumption | decide +kernel)) ?_
 rintro _ wd ⟨rfl, hF⟩
 refine ⟨vi (atW ([1, 2, 8]) 2), rfl, ?_⟩
 replace hS := (hS.to (hS.mem.keep0 hF)).put (d := 30) (v := vi (atW ([1, 2, 8]) 2)) (by decide)
 clear hF
 refine hS.opsC 3 [1, 70, 0] [1, 4] fun _ => seg [(33, vb (((atW ([1, 2, 8]) 2) : Int) == 3))] [(0, none), (1, none), (2, none), (3, none)] [.t true, .t true] trivial fun ac wd hS => ?_
 have hg11o : (((atW ([1, 2, 8]) 2) : Int) == 3) = true := by decide +kernel
 replace hS := hS.fix 33 (vb true) (congrArg Value.bool hg11o)
 refine hS.opsC 2 [201, 301] [1, 4, 33] fun _ => seg [(34, .agg #[sc g21 0 (([1, 2, 8]).length) c22]), (35, .agg #[pt b'5 0, vi 10, vi 20])] [(0, none), (1, none), (2, none), (3, none)] [.t true, .e (ν4 0), .e (ν4 0), .e (ν4 0), .t true, .e (ν3 0)] trivial fun ac wd hS => ?_
 refine hS.callG true 126 #[.agg #[sc g21 0 (([1, 2, 8]).length) c22], .agg #[pt b'5 0, vi 10, vi 20], vi 1, vu 65536] (rec_Set b'5 F10 (comM (AM.new 1) 0 1) g21 0 c22 ([1, 2, 8]) 10 20 1 65536 _ (hS.mem.res 0) (hS.mem.get 1 g21 (.fn 0 (0 + ([1, 2, 8]).length) (ints ([1, 2, 8]) 0))) (hS.mem.nF (g := g21) (r := arR b'5 F10 (comM (AM.new 1) 0 1)) 1 0) (by first | assumption | decide +kernel) (by first | assumption | decide +kernel) (by first | assumption | decide +kernel)) ?_
 rintro _ wd ⟨F12, rfl, hA, hF⟩
 refine ⟨vi (setE ([1, 2, 8]) (comM (AM.new 1) 0 1) 10 20 1 65536), rfl, ?_⟩
 replace hS := (hS.to (hS.mem.stepA 0 rfl hA hF)).put (d := 36) (v := vi (setE ([1, 2, 8]) (comM (AM.new 1) 0 1) 10 20 1 65536)) (by decide)
 clear hF
 refine hS.opsC 3 [1, 70, 0] [1, 4] fun _ => seg [(39, vb (((setE ([1, 2, 8]) (comM (AM.new 1) 0 1) 10 20 1 65536) : Int) == 16))] [(0, none), (1, none), (2, none), (3, none)] [.t true, .t true] trivial fun ac wd hS => ?_
 have hg13o : (((setE ([1, 2, 8]) (comM (AM.new 1) 0 1) 10 20 1 65536) : Int) == 16) = true := by decide +kernel
 replace hS := hS.fix 39 (vb true) (congrArg Value.bool hg13o)
 refine hS.opsC 2 [201, 301] [39] fun _ => seg [(40, .agg #[sc g21 0 (([1, 2, 8]).length) c22]), (41, .agg #[pt b'5 0, vi 10, vi 20])] [(0, none), (1, none)] [.t true, .e (ν4 0), .e (ν4 0), .e (ν4 0), .t true, .e (ν3 0)] trivial fun ac wd hS => ?_
 refine hS.callG true 126 #[.agg #[sc g21 0 (([1, 2, 8]).length) c22], .agg #[pt b'5 0, vi 10, vi 20], vi 1, vu 65535] (rec_Set b'5 F12 (setM ([1, 2, 8]) (comM (AM.new 1) 0 1) 10 20 1 65536) g21 0 c22 ([1, 2, 8]) 10 20 1 65535 _ (hS.mem.res 0) (hS.mem.get 1 g21 (.fn 0 (0 + ([1, 2, 8]).length) (ints ([1, 2, 8]) 0))) (hS.mem.nF (g := g21) (r := arR b'5 F12 (setM ([1, 2, 8]) (comM (AM.new 1) 0 1) 10 20 1 65536)) 1 0) (by first | assumption | decide +kernel) (by first | assumption | decide +kernel) (by first | assumption | decide +kernel)) ?_
 rintro _ wd ⟨F14, rfl, hA, hF⟩
 refine ⟨vi (setE ([1, 2, 8]) (setM ([1, 2, 8]) (comM (AM.new 1) 0 1) 10 20 1 65536) 10 20 1 65535), rfl, ?_⟩
 replace hS := (hS.to (hS.mem.stepA 0 rfl hA hF)).put (d := 42) (v := vi (setE ([1, 2, 8]) (setM ([1, 2, 8]) (comM (AM.new 1) 0 1) 10 20 1 65536) 10 20 1 65535)) (by decide)
 clear hF
 refine hS.opsC 3 [1, 70, 0] [] fun _ => seg [(0, vb (((setE ([1, 2, 8]) (setM ([1, 2, 8]) (comM (AM.new 1) 0 1) 10 20 1 65536) 10 20 1 65535) : Int) == 0))] [(0, none)] [.t true, .t true] trivial fun ac wd hS => ?_
 refine list_nil_seq ?_
 refine wp_ret ?_
 refine St.retC 0 hS (vb (((setE ([1, 2, 8]) (setM ([1, 2, 8]) (comM (AM.new 1) 0 1) 10 20 1 65536) 10 20 1 65535) : Int) == 0)) [] trivial fun hw => ?_
 refine ⟨retd (vbool ?_), hw.fr0⟩
 all_goals (first | rfl | decide +kernel)

set_option maxRecDepth 100000 in
set_option maxHeartbeats 1000000 in
theorem law05_Awake (w : World) (hh0 : HE.holds w 0 (.fn 0 64 dbT)) :
    Calls Tryd.prog 135 #[] w fun e w' => e = .returned (vb true) ∧ Fr w w' no no := by
 refine enter (args := []) (D := no) (A := []) Tryd.func135 rfl 2 rfl [(0, .fn 0 64 dbT)] (WS.startL ⟨⟨rfl, hh0⟩, trivial⟩) fun ac hS => ?_
 refine hS.regS [0] [] fun _ => seg [] [(0, none)] [] trivial fun ac wd hS => ?_
 refine wp_region_seq ?_
 refine hS.call0 144 #[] 1 (law05_awake  _ (hS.mem.get 0 0 (.fn 0 64 dbT)) ) fun ac wd hS => ?_
 refine hS.opsC 1 [0] [] fun _ => seg [(0, vb true)] [(0, none)] [] trivial fun ac wd hS => ?_
 refine list_nil_seq ?_
 refine wp_ret ?_
 refine St.retC 0 hS (vb true) [] trivial fun hw => ?_
 refine ⟨retd rfl, hw.fr0⟩

end Go.Proofs.YtdjhdcaanmkblaaDoor.K
