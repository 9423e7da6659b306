/-
  A walk by computing, seventh part: what comes in, what comes out; rows of operations that leave the world as it is.
-/
import Derived.Test.YtlnecfdbmoilbaaDoorKf
import Derived.Laws.Append
namespace Go.Proofs.YtlnecfdbmoilbaaDoor.K
set_option linter.unusedSimpArgs false
set_option linter.unusedVariables false

section
variable {c : Cx} {n : Nat} {E : Env} {H : Heap} {A : List Res} {a : Act} {w w' : World}

/-- A call's answer holds blocks that are read alone: ones that came in, or new ones. -/
def Outs (w w' : World) (H : Heap) : Heap → Prop
  | [] => True
  | e :: l => (e.2.own = false ∧ e.2.holds w' e.1 ∧ ((∃ (i : Nat) (x : HE), H[i]? = some (e.1, x) ∧ x.own = false) ∨ w.heap.size ≤ e.1)) ∧ Outs w w' H l

theorem Outs.mem {w w' : World} {H : Heap} : ∀ {L : Heap}, Outs w w' H L → ∀ e ∈ L, e.2.own = false ∧ e.2.holds w' e.1 ∧ ((∃ (i : Nat) (x : HE), H[i]? = some (e.1, x) ∧ x.own = false) ∨ w.heap.size ≤ e.1)
  | [], _, e, he => nomatch he
  | x :: l, h, e, he => by
    rcases List.mem_cons.1 he with rfl | he
    · exact h.1
    · exact Outs.mem h.2 e he

theorem WS.outs (h : WS c H A w) (hf : Fr w w' no no) (L : Heap) (hL : Outs w w' H L) : WS c (H ++ L) A w' := by
  have hk := h.keep0 hf
  have hm := hL.mem
  refine ⟨fun e he => ?_, ?_, fun e he ho => ?_, fun e he hin => ?_, hk.ars, hk.fr⟩
  · rcases List.mem_append.1 he with he | he
    · exact hk.heap e he
    · exact (hm e he).2.1
  · rw [List.pairwise_append]
    refine ⟨hk.apart, pairwise_of_get fun i j p q hij hp hq ho => ?_, fun p hp q hq ho e => ?_⟩
    · have h1 := (hm p (List.mem_of_getElem? hp)).1
      have h2 := (hm q (List.mem_of_getElem? hq)).1
      rw [h1, h2] at ho
      simp at ho
    · obtain ⟨q1, q2, q3⟩ := hm q hq
      rcases ho with ho | ho
      · rcases q3 with ⟨i, x, hi, hx⟩ | q3
        · obtain ⟨j, hj⟩ := List.mem_iff_getElem?.1 hp
          have hne : j ≠ i := by
            rintro rfl
            rw [hi] at hj
            obtain rfl := Option.some.inj hj
            have : x.own = true := ho
            rw [hx] at this; cases this
          exact pairwise_get h.apart hne hj hi (.inl ho) e
        · have h3 := (h.heap p hp).lt
          have e : p.1 = q.1 := e
          omega
      · rw [q1] at ho; cases ho
  · rcases List.mem_append.1 he with he | he
    · exact hk.mine e he ho
    · rw [(hm e he).1] at ho; cases ho
  · rcases List.mem_append.1 he with he | he
    · exact hk.free e he hin
    · obtain ⟨q1, q2, q3⟩ := hm e he
      rcases q3 with ⟨i, x, hi, hx⟩ | q3
      · exact h.free _ (List.mem_of_getElem? hi) hin
      · have := h.ars.lt hin; omega

/-- A call's answer holds a new row, for us to write. -/
theorem WS.outR (h : WS c H A w) (hf : Fr w w' no no) {g' : Nat} {e : TypeId} {m tot : Nat} {f : Nat → Value} (hg : w.heap.size ≤ g') (ho : HE.holds w' g' (.row e m tot f)) :
    WS c (H ++ [(g', .row e m tot f)]) A w' :=
  (h.keep0 hf).add ho (fun _ => .inl (Nat.le_trans h.fr.size hg)) (fun hn => by have := h.ars.lt hn; omega) (fun e he _ => by have := (h.heap e he).lt; omega)

def distinct : List Nat → Bool
  | [] => true
  | i :: l => l.all (fun j => !Nat.beq i j) && distinct l

theorem distinct_ne : ∀ {l : List Nat}, distinct l = true → ∀ (i j x y : Nat), i < j → l[i]? = some x → l[j]? = some y → x ≠ y
  | [], _, i, j, x, y, _, hx, _ => by simp at hx
  | z :: l, h, i, j, x, y, hij, hx, hy => by
    simp only [distinct, Bool.and_eq_true, List.all_eq_true] at h
    cases j with
    | zero => omega
    | succ j =>
      have hy' : l[j]? = some y := by simpa using hy
      cases i with
      | zero =>
        have hx : z = x := by simpa using hx
        subst hx
        have := h.1 y (List.mem_of_getElem? hy')
        intro e
        subst e
        simp at this
      | succ i => exact distinct_ne h.2 i j x y (by omega) (by simpa using hx) hy'

/-- The blocks in another order, or some of them. -/
theorem WS.perm {H' : Heap} (l : List Nat) (h : WS c H A w) (hp : pickH H l = some H') (hd : distinct l = true) : WS c H' A w := by
  refine ⟨fun e he => h.heap e (pickH_mem hp e he), ?_, fun e he => h.mine e (pickH_mem hp e he), fun e he => h.free e (pickH_mem hp e he), h.ars, h.fr⟩
  refine pairwise_of_get fun i j x y hij hx hy => ?_
  obtain ⟨i', h1, h2⟩ := pickH_spec hp i x hx
  obtain ⟨j', k1, k2⟩ := pickH_spec hp j y hy
  exact pairwise_get h.apart (distinct_ne hd i j i' j' hij h1 k1) h2 k2

theorem St.perm {H' : Heap} (l : List Nat) (h : St c n E H A a w) (hp : pickH H l = some H') (hd : distinct l = true) : St c n E H' A a w := h.to (h.mem.perm l hp hd)

end

/-! ## Rows that leave the world as it is -/

theorem wpList_of_quiet {P : Program} {ops : Array Oper} {w : World} {K : Act → Prop} {Q : Exit → Act → World → Prop} (hQ : ∀ a', K a' → Q .normal a' w) : ∀ (l : List Oper) (a : Act), wpQuiet P ops (fun w' => w' = w) K l a → wpList P ops Q l a w
  | [], a, h => hQ a h
  | o :: l, a, h => by
    unfold wpQuiet at h
    unfold wpList
    split
    · rename_i hw
      rw [if_pos hw] at h
      obtain ⟨v, h1, h2⟩ := h
      have h1 := h1 w rfl
      unfold Oper.quietAt at h1
      refine .inl ?_
      unfold Oper.wp
      generalize (execOp a.eval o).run P w = r at *
      cases r with
      | ok x w' =>
        cases x <;> simp only [Oper.quietUpon] at h1
        case value u => obtain ⟨e1, e2⟩ := h1; subst e1; subst e2; exact wpList_of_quiet hQ l _ h2
        case skip => obtain ⟨e1, e2⟩ := h1; subst e2; subst e1; exact wpList_of_quiet hQ l _ h2
        case enter f args => 
          obtain ⟨e0, h1⟩ := h1
          subst e0
          refine h1.mono fun e w' hh => ?_
          obtain ⟨rfl, e2⟩ := hh
          subst e2
          exact wpList_of_quiet hQ l _ h2
      | halt x w' => simp only [Oper.quietUpon] at h1
    · rename_i hw
      rw [if_neg hw] at h
      exact wpList_of_quiet hQ l _ h

theorem St.still {P : Program} {c : Cx} {n : Nat} {E : Env} {H : Heap} {A : List Res} {a : Act} {w : World} {Q : Exit → Act → World → Prop} {id : Nat} {l : List Oper} (hs : List Hint) (kE kH : List Nat) (hS : St c n E H A a w) {E' : Env} {H' : Heap} {obs : List Prop}
    (he : evSeg P n true l.toArray (fun _ => 0) hs l E H kE kH = some (E', H', obs)) (hob : AllP obs) (h : ∀ a', St c n E' H' A a' w → Q .normal a' w) : (Code.region id l.toArray false).wp P Q a w := by
  refine wp_region_lit (wpList_of_quiet (K := fun a' => St c n E' H' A a' w) (fun a' k => h a' k) _ _ ?_)
  have := quiet_seg (K := fun a' => St c n E' H' A a' w) (rest := []) hs kE kH he hob hS.env hS.size hS.defers (C := fun w' => w' = w) (fun w' e => e ▸ hS.mem) fun a' h1 h2 h3 => wpQuiet_nil (by
    obtain ⟨g1, g2, E1, s1, g3, g4, g5, _⟩ := evSeg_spec he
    have hh : s1.heap = H := evOps_heap _ _ _ _ _ _ g3
    exact ⟨h3, h2, h1, hS.mem.pick (by rw [← hh]; exact g5) g2⟩)
  rw [List.append_nil] at this
  exact this

theorem St.still_seq {P : Program} {c : Cx} {n : Nat} {E : Env} {H : Heap} {A : List Res} {a : Act} {w : World} {Q : Exit → Act → World → Prop} {id : Nat} {l : List Oper} {y : Code} (hs : List Hint) (kE kH : List Nat) (hS : St c n E H A a w) {E' : Env} {H' : Heap} {obs : List Prop}
    (he : evSeg P n true l.toArray (fun _ => 0) hs l E H kE kH = some (E', H', obs)) (hob : AllP obs) (h : ∀ a', St c n E' H' A a' w → y.wp P Q a' w) : ((Code.region id l.toArray false).seq y).wp P Q a w :=
  wp_seq (hS.still hs kE kH he hob h)

theorem agg2 {a b c d : Value} (h : a = c) (k : b = d) : Value.agg #[a, b] = .agg #[c, d] := by rw [h, k]

/-! ## Append -/

theorem Fr.alloc (w : World) (o : Obj) : Fr w (w.drew.alloc o) no no := by
  refine ⟨rfl, rfl, rfl, ?_, fun k hk _ => ?_, fun k h => .inl h⟩
  · show w.heap.size ≤ (w.heap.push o).size
    rw [Array.size_push]; omega
  · show (w.heap.push o)[k]? = w.heap[k]?
    rw [Array.getElem?_push, if_neg (by omega)]

theorem Fr.drew (w : World) : Fr w w.drew no no := ⟨rfl, rfl, rfl, Nat.le_refl _, fun _ _ _ => rfl, fun _ h => .inl h⟩

theorem alloc_at (w : World) (o : Obj) : (w.drew.alloc o).heap[w.heap.size]? = some o := by
  show (w.heap.push o)[w.heap.size]? = some o
  rw [Array.getElem?_push, if_pos rfl]

theorem St.append {P : Program} {c : Cx} {n : Nat} {E : Env} {H : Heap} {A : List Res} {a : Act} {w : World} {Q : Exit → Act → World → Prop} {ops : Array Oper} {o : Oper} {rest : List Oper} (hS : St c n E H A a w) (s x : Operand) (t t2 : TypeId)
    (ho : o.op = .call { callee := .builtin .append, args := #[s, x], argTypes := #[t, t2] }) (hg : o.guard = none) (hok : okAll E [] [s, x] = true) {v : Value} {w' : World}
    (hr : (Builtin.append_ #[t, t2] o.type #[rho E s, rho E x]).run P w = .ok v w') (h : wpList P ops Q rest (a.put o.dst v) w') : wpList P ops Q (o :: rest) a w := by
  unfold wpList
  rw [if_pos (by simp [Region.wanted, hg])]
  refine .inl ?_
  have e1 : a.eval s = rho E s := agree_eval (C := []) hS.env (fun p hp => by cases hp) (okAll_mem hok s (by simp))
  have e2 : a.eval x = rho E x := agree_eval (C := []) hS.env (fun p hp => by cases hp) (okAll_mem hok x (by simp))
  unfold Oper.wp execOp
  simp only [ho, resolve, invoke, builtin, Sem.run_bind, Sem.run_pure, Result.andThen_ok, List.map_toArray, List.map_cons, List.map_nil, e1, e2, hr]
  exact h

theorem quiet_put {E : Env} {a : Act} {n d : Nat} {v : Value} (h : Agree E a) (hs : n ≤ a.tmps.size) (hd : d < n) : Agree (putE E d [] v) (a.put (some d) v) :=
  agree_put h (Nat.lt_of_lt_of_le hd hs) rfl (.inl ⟨(fun p hp => nomatch hp), rfl⟩)

theorem info_get {P : Program} {e : TypeId} {z : Value} {s b : Nat} (h : (P.info? e).map (fun i => (i.zero, i.size, i.bytes)) = some (some z, s, b)) : ∃ i, P.info? e = some i ∧ i.zero = some z ∧ i.size = s ∧ i.bytes = b := by
  cases hi : P.info? e with
  | none => rw [hi] at h; cases h
  | some i =>
    rw [hi] at h
    simp only [Option.map_some, Option.some.injEq, Prod.mk.injEq] at h
    exact ⟨i, rfl, h.1, h.2.1, h.2.2⟩

theorem HE.fn_hi {w : World} {g lo hi hi' : Nat} {f : Nat → Value} (hh : hi' ≤ hi) (h : HE.holds w g (.fn lo hi f)) : HE.holds w g (.fn lo hi' f) := by
  obtain ⟨c, T, fz, h1, h2⟩ := h
  exact ⟨c, T, fz, h1, fun o a b => h2 o a (by omega)⟩

theorem pick_ne {c : Cx} {H H' : Heap} {A : List Res} {w : World} {l : List Nat} (h : WS c H A w) (hp : pickH H l = some H') {i b : Nat} {x : HE} (hi : H[i]? = some (b, x)) (hx : x.own = true) (hn : l.all (fun j => !Nat.beq j i) = true) : ∀ e ∈ H', e.1 ≠ b := by
  intro e he
  obtain ⟨j, hj⟩ := List.mem_iff_getElem?.1 he
  obtain ⟨k, h1, h2⟩ := pickH_spec hp j e hj
  have : k ≠ i := by
    have := List.all_eq_true.1 hn k (List.mem_of_getElem? h1)
    rintro rfl
    simp at this
  exact pairwise_get h.apart this h2 hi (.inr hx)

/-- A row copied behind an empty slice. -/
theorem run_clone {P : Program} {w : World} {t e : TypeId} (ty : TypeId) {i : TypeInfo} {z : Value} (ht : P.underlying t = some (.slice e)) (hi : P.info? e = some i) (hz : i.zero = some z) (h1 : i.size = 1) (hb : i.bytes ≤ 64) {b g o nw c : Nat} {f : Nat → Value}
    (hg : HE.holds w g (.fn o (o + nw) f)) (hbb : HE.holds w b (.cells [] e)) (hn : nw ≤ 2 ^ 32) :
    ∃ g' c' tot w', (Builtin.append_ #[t, t] ty #[.slice (some ⟨b, 0, none⟩) 0 0, .slice (some ⟨g, o, none⟩) nw c]).run P w = .ok (.slice (some ⟨g', 0, none⟩) nw c') w' ∧ Fr w w' no no ∧ (g' = b ∨ w.heap.size = g') ∧ HE.holds w' g' (.row e nw tot (fun x => f (o + x))) := by
  obtain ⟨cc, T, fz, hc, hf⟩ := hg
  have hnl : ((List.range nw).map fun j => f (o + j)).length = nw * i.size := by simp [h1]
  have hne : ∀ j v, ((List.range nw).map fun j => f (o + j))[j]? = some v → w.cell? ((⟨g, o, none⟩ : Addr).add j) = some v := by
    intro j v hj
    have hjn : j < nw := by
      have := (List.getElem?_eq_some_iff.1 hj).1
      simpa using this
    rw [List.getElem?_map, List.getElem?_range hjn] at hj
    simp only [Option.map_some, Option.some.injEq] at hj
    subst hj
    rw [addr_add _ rfl]
    unfold World.cell?
    simp only [hc]
    exact hf _ (by omega) (by omega)
  rcases Nat.eq_zero_or_pos nw with h0 | h0
  · subst h0
    have hcell : w.heap[b]? = some (.cells #[] e (0, 0)) := hbb
    refine ⟨b, 0, 0, w, ?_, Fr.refl w no, .inl rfl, #[], hcell, rfl, Nat.le_refl _, fun o ho => by omega⟩
    have hfc := run_firstCells_some (P := P) w i.size 0 ⟨g, o, none⟩ 0 c [] (by simp) (by simp)
    simp [Builtin.append_, run_underlying ht, sizeOf, typeInfo, zeroValue, hi, hz, Builtin.lenOf, hfc, storeCells]
  · have hfit : Builtin.nextslicecap (0 + nw) 0 * i.bytes ≤ 281474976710656 := by
      rw [Nat.zero_add, nextslicecap_zero h0]
      have : nw * i.bytes ≤ 2 ^ 32 * 64 := Nat.mul_le_mul hn hb
      omega
    have hr := run_append_grow (P := P) (w := w) t ty e i z ht hi hz ⟨b, 0, none⟩ 0 0 [] (by simp) (by simp) ⟨g, o, none⟩ nw c _ hnl hne (by omega) (by omega) hfit
    rw [Nat.zero_add] at hr
    refine ⟨_, _, _, _, hr, Fr.alloc _ _, .inr rfl, _, alloc_at _ _, rfl, ?_, fun x hx => ?_⟩
    · simp only [Array.size_append, List.size_toArray, List.length_nil, List.length_map, List.length_range]
      omega
    · rw [Array.getElem?_append_left (by simp; exact hx), Array.getElem?_append_right (by simp)]
      simp [hx]

theorem St.clone {P : Program} {c : Cx} {n : Nat} {E : Env} {H : Heap} {A : List Res} {a : Act} {w : World} {Q : Exit → Act → World → Prop} {ops : Array Oper} {o : Oper} {rest : List Oper} (hS : St c n E H A a w) (s x : Operand) (t : TypeId)
    (ho : o.op = .call { callee := .builtin .append, args := #[s, x], argTypes := #[t, t] }) (hgd : o.guard = none) (hok : okAll E [] [s, x] = true)
    {e : TypeId} {i : TypeInfo} {z : Value} (ht : P.underlying t = some (.slice e)) (hi : P.info? e = some i) (hz : i.zero = some z) (h1 : i.size = 1) (hby : i.bytes ≤ 64) {b g off nw cp : Nat} {f f' : Nat → Value} (ib ig : Nat)
    (hb : H[ib]? = some (b, .cells [] e)) (hg : H[ig]? = some (g, .fn off (off + nw) f)) (hs : rho E s = .slice (some ⟨b, 0, none⟩) 0 0) (hx : rho E x = .slice (some ⟨g, off, none⟩) nw cp) (hn : nw ≤ 2 ^ 32) (hf : ∀ j, j < nw → f (off + j) = f' j)
    (l : List Nat) {H' : Heap} (hp : pickH H l = some H') (hd : distinct l = true) (hnl : l.all (fun j => !Nat.beq j ib) = true) {d : Nat} (hdst : o.dst = some d) (hdn : d < n)
    (h : ∀ g' c' tot w' a', (c.w0.heap.size ≤ g' ∨ c.D g') → St c n (putE E d [] (.slice (some ⟨g', 0, none⟩) nw c')) (H' ++ [(g', .row e nw tot f')]) A a' w' → wpList P ops Q rest a' w') : wpList P ops Q (o :: rest) a w := by
  have hbh := hS.mem.heap _ (List.mem_of_getElem? hb)
  have hgh := hS.mem.heap _ (List.mem_of_getElem? hg)
  obtain ⟨g', c', tot, w', hr, hF, hgg, hh⟩ := run_clone (P := P) (w := w) (t := t) (e := e) (c := cp) o.type ht hi hz h1 hby hgh hbh hn
  refine hS.append s x t t ho hgd hok (by rw [hs, hx]; exact hr) ?_
  have hlt : w.heap.size ≤ g' ∨ g' = b := by rcases hgg with rfl | rfl; exact .inr rfl; exact .inl (Nat.le_refl _)
  have hmine : c.w0.heap.size ≤ g' ∨ c.D g' := by
    rcases hlt with hl | rfl
    · exact .inl (Nat.le_trans hS.mem.fr.size hl)
    · exact hS.mem.mine _ (List.mem_of_getElem? hb) rfl
  have hw : WS c H' A w' := (hS.mem.perm l hp hd).keep0 hF
  have hw2 : WS c (H' ++ [(g', .row e nw tot f')]) A w' := by
    refine hw.add ?_ (fun _ => hmine) (fun hin => ?_) (fun q hq _ => ?_)
    · obtain ⟨cc, k1, k2, k3, k4⟩ := hh
      exact ⟨cc, k1, k2, k3, fun j hj => (k4 j hj).trans (congrArg some (hf j hj))⟩
    · rcases hlt with hl | rfl
      · have := hS.mem.ars.lt hin; omega
      · exact hS.mem.free _ (List.mem_of_getElem? hb) hin
    · rcases hlt with hl | rfl
      · have := (hS.mem.heap q (pickH_mem hp q hq)).lt; omega
      · exact pick_ne hS.mem hp hb rfl hnl q hq
  rw [hdst]
  exact h g' c' tot w' _ hmine ((hS.to hw2).put hdn)

end Go.Proofs.YtlnecfdbmoilbaaDoor.K
