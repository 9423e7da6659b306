/-
  A walk by computing, eighth part: append onto a row of our own.
-/
import Derived.Test.YtlnecfdbmoilbaaDoorKg
import Derived.Laws.AppendOwn
namespace Go.Proofs.YtlnecfdbmoilbaaDoor.K
set_option linter.unusedSimpArgs false
set_option linter.unusedVariables false

/-- A row, and what is put behind its n cells. -/
def appF (f : Nat → Value) (n : Nat) (news : List Value) (x : Nat) : Value := if x < n then f x else news.getD (x - n) undef

theorem run_app {P : Program} {w : World} {t e : TypeId} (ty : TypeId) {i : TypeInfo} {z : Value} (ht : P.underlying t = some (.slice e)) (hi : P.info? e = some i) (hz : i.zero = some z) (h1 : i.size = 1) (hby : i.bytes ≤ 64) (hzc : z.cells.size = 1)
    {b n tot : Nat} {f : Nat → Value} (hrow : HE.holds w b (.row e n tot f)) {a : Addr} {m c : Nat} {news : List Value} (hl : news.length = m) (hnews : ∀ j u, news[j]? = some u → w.cell? (a.add j) = some u) (ho : ∀ u ∈ news, u.oneCell' = true) (hn : n + m ≤ 2 ^ 32) :
    ∃ b' tot' w', (Builtin.append_ #[t, t] ty #[.slice (some ⟨b, 0, none⟩) n tot, .slice (some a) m c]).run P w = .ok (.slice (some ⟨b', 0, none⟩) (n + m) tot') w' ∧ (b' = b ∨ w.heap.size = b') ∧ HE.holds w' b' (.row e (n + m) tot' (appF f n news)) ∧
      w'.os = w.os ∧ w'.tape = w.tape ∧ w'.output = w.output ∧ w.heap.size ≤ w'.heap.size ∧ ∀ k, k < w.heap.size → k ≠ b → w'.heap[k]? = w.heap[k]? := by
  obtain ⟨cur, hc, hsz, hnt, hf⟩ := hrow
  have hcl : cur.toList.length = tot := by simpa using hsz
  have hget : ∀ j, j < n → cur.toList[j]? = some (f j) := fun j hj => by rw [Array.getElem?_toList]; exact hf j hj
  have hnl : news.length = m * i.size := by rw [h1, Nat.mul_one]; exact hl
  by_cases hroom : n + m ≤ tot
  · have hr := run_append_room (P := P) w t ty e i ht hi b n tot cur hc a m c news hnl hnews ho hroom (by rw [h1, Nat.mul_one]; omega)
    rw [h1, Nat.mul_one] at hr
    refine ⟨b, tot, _, hr, .inl rfl, ⟨_, setRow_heap w b cur _ e _ hc, ?_, hroom, fun x hx => ?_⟩, rfl, rfl, rfl, by simp, fun k hk hkb => setRow_other w b k _ hkb⟩
    · simp only [List.size_toArray, List.length_append, List.length_take, List.length_drop, hcl]
      omega
    · rw [List.getElem?_toArray]
      unfold appF
      by_cases hx2 : x < n
      · rw [if_pos hx2, List.append_assoc, List.getElem?_append_left (by simp [hcl]; omega), List.getElem?_take_of_lt hx2]
        exact hget x hx2
      · rw [if_neg hx2, List.append_assoc, List.getElem?_append_right (by simp [hcl]; omega), List.length_take, hcl, show min n tot = n by omega, List.getElem?_append_left (by omega), List.getD_eq_getElem?_getD, List.getElem?_eq_getElem (by omega)]
        rfl
  · have hol : ((List.range n).map f).length = n * i.size := by simp [h1]
    have hold : ∀ j v, ((List.range n).map f)[j]? = some v → w.cell? ((⟨b, 0, none⟩ : Addr).add j) = some v := by
      intro j v hj
      have hjn : j < n := by
        have := (List.getElem?_eq_some_iff.1 hj).1
        simpa using this
      rw [List.getElem?_map, List.getElem?_range hjn] at hj
      simp only [Option.map_some, Option.some.injEq] at hj
      subst hj
      rw [addr_add _ rfl, Nat.zero_add]
      unfold World.cell?
      simp only [hc]
      exact hf _ hjn
    have hfit : Builtin.nextslicecap (n + m) tot * i.bytes ≤ 281474976710656 := growslice_fits (by omega) (by
      have : (n + m) * i.bytes ≤ 2 ^ 32 * 64 := Nat.mul_le_mul hn hby
      omega)
    have hr := run_append_grow (P := P) (w := w) t ty e i z ht hi hz ⟨b, 0, none⟩ n tot _ hol hold a m c news hnl hnews (by omega) (by omega) hfit
    have hge := grownCap_ge w (n + m) tot e
    refine ⟨w.heap.size, _, _, hr, .inr rfl, ⟨_, alloc_at _ _, ?_, hge, fun x hx => ?_⟩, rfl, rfl, rfl, (Fr.alloc w _).size, fun k hk _ => (Fr.alloc w _).block k hk (fun h => h)⟩
    · simp only [Array.size_append, List.size_toArray, List.length_map, List.length_range, size_zeroCells, hzc, hl]
      omega
    · have hx1 : x < (((List.range n).map f).toArray ++ news.toArray).size := by simp [hl]; omega
      rw [Array.getElem?_append_left hx1]
      unfold appF
      by_cases hx2 : x < n
      · rw [if_pos hx2, Array.getElem?_append_left (by simpa using hx2)]
        simp [hx2]
      · rw [if_neg hx2, Array.getElem?_append_right (by simp; omega)]
        simp only [List.size_toArray, List.length_map, List.length_range, List.getElem?_toArray]
        rw [List.getD_eq_getElem?_getD, List.getElem?_eq_getElem (by omega)]
        rfl

/-- One own block has turned; the others lie as they lay. -/
theorem WS.turned {c : Cx} {H H' : Heap} {A : List Res} {w w' : World} (h : WS c H A w) (l : List Nat) (hp : pickH H l = some H') (hd : distinct l = true) {i b : Nat} {x : HE} (hi : H[i]? = some (b, x)) (hx : x.own = true) (hnl : l.all (fun j => !Nat.beq j i) = true)
    (h1 : w'.os = w.os) (h2 : w'.tape = w.tape) (h3 : w'.output = w.output) (h4 : w.heap.size ≤ w'.heap.size) (h5 : ∀ k, k < w.heap.size → k ≠ b → w'.heap[k]? = w.heap[k]?) : WS c H' A w' := by
  have hq := h.perm l hp hd
  have hne := pick_ne h hp hi hx hnl
  have hb := h.mine _ (List.mem_of_getElem? hi) hx
  refine ⟨fun e he => (hq.heap e he).congr (h5 _ (hq.heap e he).lt (hne e he)), hq.apart, hq.mine, hq.free, h.ars.congr fun k hk => h5 k (h.ars.lt hk) (fun e => h.free _ (List.mem_of_getElem? hi) (e ▸ hk)), ?_⟩
  exact ⟨h1.trans h.fr.os, h2.trans h.fr.tape, h3.trans h.fr.output, Nat.le_trans h.fr.size h4, fun k hk hn => (h5 k (Nat.lt_of_lt_of_le hk h.fr.size) (fun e => by subst e; rcases hb with hb | hb; omega; exact hn hb)).trans (h.fr.block k hk hn), h.fr.foot⟩

theorem appF_ints (L news : List Int) : ∀ o, o < (L ++ news).length → appF (ints L 0) L.length (news.map (Value.int .i64)) o = ints (L ++ news) 0 o := by
  intro o ho
  unfold appF ints
  simp only [Nat.sub_zero]
  by_cases h : o < L.length
  · rw [if_pos h, List.getD_eq_getElem?_getD, List.getD_eq_getElem?_getD, List.getElem?_append_left h]
  · rw [if_neg h]
    have h2 : o - L.length < news.length := by rw [List.length_append] at ho; omega
    rw [List.getD_eq_getElem?_getD, List.getD_eq_getElem?_getD, List.getElem?_append_right (by omega), List.getElem?_map, List.getElem?_eq_getElem h2]
    rfl

/-- append onto a row of whole numbers of our own: numbers that stand in another block of ours. -/
theorem St.appI {P : Program} {c : Cx} {n : Nat} {E : Env} {H : Heap} {A : List Res} {a : Act} {w : World} {Q : Exit → Act → World → Prop} {ops : Array Oper} {o : Oper} {rest : List Oper} (hS : St c n E H A a w) (s x : Operand) (t : TypeId)
    (ho : o.op = .call { callee := .builtin .append, args := #[s, x], argTypes := #[t, t] }) (hgd : o.guard = none) (hok : okAll E [] [s, x] = true)
    {e : TypeId} {i : TypeInfo} {z : Value} (ht : P.underlying t = some (.slice e)) (hi : P.info? e = some i) (hz : i.zero = some z) (h1 : i.size = 1) (hby : i.bytes ≤ 64) (hzc : z.cells.size = 1) {b tot bx cx : Nat} {L news : List Int} {Tx : TypeId} (ib ix : Nat)
    (hb : H[ib]? = some (b, .row e L.length tot (ints L 0))) (hbx : H[ix]? = some (bx, .cells (news.map (Value.int .i64)) Tx)) (hs : rho E s = .slice (some ⟨b, 0, none⟩) L.length tot) (hx : rho E x = .slice (some ⟨bx, 0, none⟩) news.length cx) (hn : L.length + news.length ≤ 2 ^ 32)
    (l : List Nat) {H' : Heap} (hp : pickH H l = some H') (hd : distinct l = true) (hnl : l.all (fun j => !Nat.beq j ib) = true) {d : Nat} (hdst : o.dst = some d) (hdn : d < n)
    (h : ∀ g' tot' w' a', (c.w0.heap.size ≤ g' ∨ c.D g') → St c n (putE E d [] (.slice (some ⟨g', 0, none⟩) (L ++ news).length tot')) (H' ++ [(g', .row e (L ++ news).length tot' (ints (L ++ news) 0))]) A a' w' → wpList P ops Q rest a' w') : wpList P ops Q (o :: rest) a w := by
  have hbh := hS.mem.heap _ (List.mem_of_getElem? hb)
  have hxh : w.heap[bx]? = some (.cells (news.map (Value.int .i64)).toArray Tx (0, 0)) := hS.mem.heap _ (List.mem_of_getElem? hbx)
  have hcell : ∀ j u, (news.map (Value.int .i64))[j]? = some u → w.cell? ((⟨bx, 0, none⟩ : Addr).add j) = some u := by
    intro j u hj
    rw [addr_add _ rfl, Nat.zero_add]
    unfold World.cell?
    simp only [hxh]
    simpa using hj
  obtain ⟨g', tot', w', hr, hgg, hh, k1, k2, k3, k4, k5⟩ := run_app (P := P) (w := w) (t := t) (e := e) (c := cx) o.type ht hi hz h1 hby hzc hbh (m := news.length) (by simp) hcell (by
    intro u hu
    obtain ⟨v, _, rfl⟩ := List.mem_map.1 hu
    rfl) hn
  refine hS.append s x t t ho hgd hok (by rw [hs, hx]; exact hr) ?_
  have hlt : w.heap.size ≤ g' ∨ g' = b := by rcases hgg with rfl | rfl; exact .inr rfl; exact .inl (Nat.le_refl _)
  have hmb := hS.mem.mine _ (List.mem_of_getElem? hb) rfl
  have hmine : c.w0.heap.size ≤ g' ∨ c.D g' := by
    rcases hlt with hl | rfl
    · exact .inl (Nat.le_trans hS.mem.fr.size hl)
    · exact hmb
  have hw := hS.mem.turned l hp hd hb rfl hnl k1 k2 k3 k4 k5
  have hlen : (L ++ news).length = L.length + news.length := List.length_append
  have hw2 : WS c (H' ++ [(g', .row e (L ++ news).length tot' (ints (L ++ news) 0))]) A w' := by
    refine hw.add ?_ (fun _ => hmine) (fun hin => ?_) (fun q hq _ => ?_)
    · obtain ⟨cc, j1, j2, j3, j4⟩ := hh
      rw [hlen]
      exact ⟨cc, j1, j2, j3, fun j hj => (j4 j hj).trans (congrArg some (appF_ints L news j (by rw [hlen]; exact hj)))⟩
    · rcases hlt with hl | rfl
      · have := hS.mem.ars.lt hin; omega
      · exact hS.mem.free _ (List.mem_of_getElem? hb) hin
    · rcases hlt with hl | rfl
      · have := (hS.mem.heap q (pickH_mem hp q hq)).lt; omega
      · exact pick_ne hS.mem hp hb rfl hnl q hq
  rw [hdst, ← hlen]
  exact h g' tot' w' _ hmine ((hS.to hw2).put hdn)

/-- append onto nothing. -/
theorem St.appN {P : Program} {c : Cx} {n : Nat} {E : Env} {H : Heap} {A : List Res} {a : Act} {w : World} {Q : Exit → Act → World → Prop} {ops : Array Oper} {o : Oper} {rest : List Oper} (hS : St c n E H A a w) (s x : Operand) (t : TypeId)
    (ho : o.op = .call { callee := .builtin .append, args := #[s, x], argTypes := #[t, t] }) (hgd : o.guard = none) (hok : okAll E [] [s, x] = true)
    {e : TypeId} {i : TypeInfo} {z : Value} (ht : P.underlying t = some (.slice e)) (hi : P.info? e = some i) (hz : i.zero = some z) (h1 : i.size = 1) (hby : i.bytes ≤ 64) (hzc : z.cells.size = 1) {bx cx : Nat} {news : List Int} {Tx : TypeId} (ix : Nat)
    (hbx : H[ix]? = some (bx, .cells (news.map (Value.int .i64)) Tx)) (hs : rho E s = .slice none 0 0) (hx : rho E x = .slice (some ⟨bx, 0, none⟩) news.length cx) (h0 : 0 < news.length) (hn : news.length ≤ 2 ^ 32) {d : Nat} (hdst : o.dst = some d) (hdn : d < n)
    (h : ∀ g' tot' w' a', (c.w0.heap.size ≤ g' ∨ c.D g') → St c n (putE E d [] (.slice (some ⟨g', 0, none⟩) news.length tot')) (H ++ [(g', .row e news.length tot' (ints news 0))]) A a' w' → wpList P ops Q rest a' w') : wpList P ops Q (o :: rest) a w := by
  have hxh : w.heap[bx]? = some (.cells (news.map (Value.int .i64)).toArray Tx (0, 0)) := hS.mem.heap _ (List.mem_of_getElem? hbx)
  have hcell : ∀ j u, (news.map (Value.int .i64))[j]? = some u → w.cell? ((⟨bx, 0, none⟩ : Addr).add j) = some u := by
    intro j u hj
    rw [addr_add _ rfl, Nat.zero_add]
    unfold World.cell?
    simp only [hxh]
    simpa using hj
  have hby2 : news.length * i.bytes ≤ 281474976710656 := by
    have : news.length * i.bytes ≤ 2 ^ 32 * 64 := Nat.mul_le_mul hn hby
    omega
  have hr := run_append_nil (P := P) (w := w) t o.type e i z ht hi hz ⟨bx, 0, none⟩ news.length cx (news.map (Value.int .i64)) (by simp [h1]) hcell h0 (by omega) hby2
  refine hS.append s x t t ho hgd hok (by rw [hs, hx]; exact hr) ?_
  have hge := grownCap_ge w news.length 0 e
  rw [hdst]
  refine h w.heap.size (grownCap w news.length 0 e) _ _ (.inl hS.mem.fr.size) ((hS.to (WS.outR hS.mem (Fr.alloc w _) (e := e) (m := news.length) (tot := grownCap w news.length 0 e) (f := ints news 0) (Nat.le_refl _) ⟨_, alloc_at _ _, ?_, hge, fun x hx => ?_⟩)).put hdn)
  · simp only [Array.size_append, List.size_toArray, List.length_map, size_zeroCells, hzc]
    omega
  · rw [Array.getElem?_append_left (by simpa using hx)]
    unfold ints
    simp only [Nat.sub_zero, List.getElem?_toArray, List.getElem?_map]
    rw [List.getD_eq_getElem?_getD, List.getElem?_eq_getElem hx]
    rfl

end Go.Proofs.YtlnecfdbmoilbaaDoor.K
