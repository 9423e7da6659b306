/-
  Who collects the rows of a set.
-/
import Derived.Test.YtlnecfdbmoilbaaDoorRw
namespace Go.Proofs.YtlnecfdbmoilbaaDoor.K
open Go.RowKit Go.Shelf
attribute [local go_sem] Oper.semAt_some
set_option linter.unusedVariables false
set_option linter.unusedSimpArgs false

def flat (l : List (Int × Int)) : List Int := l.flatMap fun x => [x.1, x.2]
theorem flat_snoc (l : List (Int × Int)) (x : Int × Int) : flat (l ++ [x]) = flat l ++ [x.1, x.2] := by simp [flat]
theorem flat_len (l : List (Int × Int)) : (flat l).length = 2 * l.length := by
  induction l with
  | nil => rfl
  | cons x l ih =>
    have e : flat (x :: l) = x.1 :: x.2 :: flat l := rfl
    rw [e]
    simp only [List.length_cons, ih]
    omega
theorem flat_nil (l : List (Int × Int)) : flat l = [] ↔ l = [] := by
  constructor
  · intro h
    have := flat_len l
    rw [h] at this
    simp at this
    exact List.length_eq_zero_iff.1 (by omega)
  · rintro rfl; rfl

theorem cell_two_new (w : World) (x y : Value) (t : TypeId) : ∀ j u, [x, y][j]? = some u → (w.alloc (.cells #[x, y] t)).cell? ((⟨w.heap.size, 0, none⟩ : Addr).add j) = some u := by
  intro j u hj
  rw [addr_add _ rfl]
  unfold World.cell?
  have : (w.alloc (.cells #[x, y] t)).heap[w.heap.size]? = some (.cells #[x, y] t) := World.alloc_heap_new w _
  simp only [this]
  match j, hj with
  | 0, hj => simpa using hj
  | 1, hj => simpa using hj
  | j + 2, hj => simp at hj

def BoxSet (W : World) (B : Nat) (vs : Array Value) (t : TypeId) : Prop := W.heap[B]? = some (.cells vs t (0, 0))

theorem boxSet_own {β : Type} (B : Nat) (vs : Array Value) (t : TypeId) (C : Nat) : OwnFrom C (fun (_ : β) W => BoxSet W B vs t) := fun s X Y row hs hg hrow => by
  have hl : B < X.heap.size := lt_of_some hs
  refine (hg.block B hl (fun e' => ?_)).trans hs
  obtain ⟨_, o, ho, hc⟩ := hrow B e'.symm
  rw [show X.heap[B]? = _ from hs] at ho; cases ho; cases hc

theorem Tryd.infoInt : (Tryd.prog.info? 3).map (fun i => (i.zero, i.size, i.bytes)) = some (some (.int .i64 0), 1, 8) := by kernel_rfl

set_option maxHeartbeats 1000000 in
theorem Rows_in (n : Nat) (a b v : Value) (hv : v = .agg #[a, b]) (w : World) :
    CallsIn Fence.wide n Tryd.prog 116 #[v] w fun e w' => e = .returned (.func (.func 117) #[] #[.pointer (some ⟨w.heap.size, 0, none⟩)]) ∧ w' = w.alloc (.cells #[a, b] 58) := by
  subst hv
  refine callsIn_of_wp Tryd.func116 rfl trivial ?_ rfl
  simp only [Tryd.ntmps116, List.size_toArray, List.length_cons, List.length_nil, Nat.reduceAdd, Nat.reduceSub, Array.replicate_succ, Array.replicate_zero, List.push_toArray, List.append_toArray, List.nil_append, List.cons_append]
  gi_wp2
  go_ret
  exact ⟨rfl, rfl⟩

theorem Rows_stops (n : Nat) (hn : 1 ≤ n) (Bn g o c nw : Nat) (ws : Nat → Nat) (N : Nat) (p : Nat → Bool) (hW : Words ws nw N p) (hN : N ≤ 1048576) (w : World) (hR : RdS w Bn g o c nw ws N) :
    SeqStopsK Fence.wide n Tryd.prog 117 #[.pointer (some ⟨Bn, 0, none⟩)] (fun x : Int × Int => #[Value.int .i64 x.1, Value.int .i64 x.2]) (KeepK (fun k => k = 1 ∨ k = g ∨ k = Bn)) (fun ys => ys = runs p N) (fun pre => pre <+: runs p N) (runs p N).length w :=
  fun l J Jx W hW0 hJ _ hY h0 => rows1_in n hn l Bn g o c nw ws N p hW hN J Jx W hJ hY (hR.keep fun k hk => hW0.block k (hR.lt hk)) h0

theorem keepK_t {K : Nat → Prop} {A B C : World} (h : KeepK K A B) (k : KeepK K B C) : KeepK K A C := ⟨Nat.le_trans h.1 k.1, fun i hi => (k.2 i hi).trans (h.2 i hi)⟩
theorem keepK_b {K : Nat → Prop} {w : World} (hK : ∀ k, K k → k < w.heap.size) (W : World) (l : Nat) (o o' : Obj) (hl : w.heap.size ≤ l) (h : W.heap[l]? = some o) (_ : o.isCells = false) (_ : o.isWalk = false) : KeepK K W (W.putObj l o') := by
  have hg := grownBy_putObj' W l o'
  have hll := lt_of_some h
  refine ⟨hg.size, fun k hk => hg.block k (by have := hK k hk; omega) (fun e => ?_)⟩
  cases e
  have := hK _ hk
  omega

set_option maxRecDepth 100000 in
set_option maxHeartbeats 2000000 in
theorem rows_in (n : Nat) (hn : 3 ≤ n) (g o c nw : Nat) (ws : Nat → Nat) (N : Nat) (p : Nat → Bool) (hW : Words ws nw N p) (hN : N ≤ 1048576) (hlen : (runs p N).length ≤ 1048577) (w : World) (hdb : HE.holds w 1 (.fn 0 64 dbT)) (hws : HE.holds w g (.fn o (o + nw) (u64s ws o))) :
    CallsIn Fence.wide n Tryd.prog 111 #[.agg #[.int .i64 (N : Int), .slice (some ⟨g, o, none⟩) nw c]] w fun e W' => ∃ v, e = .returned v ∧ W'.ownsRow w.heap.size 3 1 v (flat (runs p N)).length ((flat (runs p N)).map (Value.int .i64)) ∧ (v = .slice none 0 0 ↔ runs p N = []) ∧ Below w.heap.size w W' := by
  have h1 : 1 ≤ n := by omega
  obtain ⟨i0, hi, hz0, hz1, hz2⟩ := info_parts Tryd.infoInt
  refine callsIn_of_wp_marks Tryd.func111 rfl trivial ?_ rfl
  simp only [Tryd.ntmps111, List.size_toArray, List.length_cons, List.length_nil, Nat.reduceAdd, Nat.reduceSub, Array.replicate_succ, Array.replicate_zero, List.push_toArray, List.append_toArray, List.nil_append, List.cons_append]
  gi_wp2_with (refine ⟨trivial, ?_⟩; gi_at_call 116; refine (Rows_in (n - 1) _ _ _ rfl _).mono ?_; rintro e w' ⟨rfl, rfl⟩)
  have bS : BoxSet (((w.alloc (.cells #[.int .i64 (N : Int), .slice (some ⟨g, o, none⟩) nw c] 58)).alloc (.cells #[.slice none 0 0] 147)).alloc (.cells #[.int .i64 (N : Int), .slice (some ⟨g, o, none⟩) nw c] 58)) (w.heap.size + 2) #[.int .i64 (N : Int), .slice (some ⟨g, o, none⟩) nw c] 58 := by
    have := World.alloc_heap_new ((w.alloc (.cells #[.int .i64 (N : Int), .slice (some ⟨g, o, none⟩) nw c] 58)).alloc (.cells #[.slice none 0 0] 147)) (.cells #[.int .i64 (N : Int), .slice (some ⟨g, o, none⟩) nw c] 58)
    rw [World.size_alloc, World.size_alloc] at this
    exact this
  have bO := Boxed.new (w.alloc (.cells #[.int .i64 (N : Int), .slice (some ⟨g, o, none⟩) nw c] 58)) 147 (.slice none 0 0)
  rw [World.size_alloc] at bO
  have hB0 : Below w.heap.size w (((w.alloc (.cells #[.int .i64 (N : Int), .slice (some ⟨g, o, none⟩) nw c] 58)).alloc (.cells #[.slice none 0 0] 147)).alloc (.cells #[.int .i64 (N : Int), .slice (some ⟨g, o, none⟩) nw c] 58)) :=
    (((Below.refl _ w).alloc (Nat.le_refl _) _).alloc (by simp) _).alloc (by simp; omega) _
  have hgl : g < w.heap.size := hws.lt
  have h0l : 1 < w.heap.size := hdb.lt
  have hRd : RdS (((w.alloc (.cells #[.int .i64 (N : Int), .slice (some ⟨g, o, none⟩) nw c] 58)).alloc (.cells #[.slice none 0 0] 147)).alloc (.cells #[.int .i64 (N : Int), .slice (some ⟨g, o, none⟩) nw c] 58)) (w.heap.size + 2) g o c nw ws N := by
    refine ⟨?_, ?_, hdb.congr (hB0.block 1 h0l), hws.congr (hB0.block g hgl)⟩
    · unfold World.cell?; rw [show (_ : World).heap[w.heap.size + 2]? = _ from bS]; rfl
    · unfold World.cell?; rw [show (_ : World).heap[w.heap.size + 2]? = _ from bS]; rfl
  refine wpIn_rangeFunc_ownG rfl h1 (gf := 117) (lb := #[.pointer (some ⟨w.heap.size + 2, 0, none⟩)]) rfl trivial (enters_of Tryd.func117 (by kernel_rfl) rfl)
    (Rows_stops (n - 1) (by omega) (w.heap.size + 2) g o c nw ws N p hW hN _ hRd) keepK_t (keepK_b (fun k hk => hRd.lt hk)) (Below.refl _ _) (fun _ => rfl)
    (fun pre W => ((∃ v, Boxed W (w.heap.size + 1) 147 v ∧ W.ownsRow w.heap.size 3 1 v (flat pre).length ((flat pre).map (Value.int .i64)) ∧ (v = .slice none 0 0 ↔ pre = [])) ∧ BoxSet W (w.heap.size + 2) #[.int .i64 (N : Int), .slice (some ⟨g, o, none⟩) nw c] 58) ∧ Below w.heap.size w W)
    (fun _ _ _ => False)
    (OwnFrom.and (OwnFrom.and (Own.from (holdsRow_own w.heap.size (w.heap.size + 1) 147 3 1 (fun pre => (flat pre).length) (fun pre => (flat pre).map (Value.int .i64)) (fun pre v => v = .slice none 0 0 ↔ pre = [])) _) (boxSet_own _ _ _ _)) (ownFrom_below (Nat.le_refl _) (by simp; omega)))
    (fun _ _ _ _ _ hs _ _ => hs)
    ⟨⟨⟨_, bO.alloc _, World.ownsRow_nil _ _ _ _, by simp⟩, bS⟩, hB0⟩
    (fun x => { tmps := #[.agg #[.int .i64 (N : Int), .slice (some ⟨g, o, none⟩) nw c], .pointer (some ⟨w.heap.size, 0, none⟩), .slice none 0 0, .pointer (some ⟨w.heap.size + 1, 0, none⟩), .int .i64 x.1, .int .i64 x.2, .agg #[.int .i64 (N : Int), .slice (some ⟨g, o, none⟩) nw c], .func (.func 117) #[] #[.pointer (some ⟨w.heap.size + 2, 0, none⟩)], .int .i64 x.1, .int .i64 x.2, undef, undef, undef, undef, undef, undef], defers := [] }) ?assign ?body ?done ?stop
  case assign =>
    intro l x W K hK
    gi_wp2
    exact hK
  case body =>
    rintro l pre x W ⟨⟨⟨v, hv, hrow, hnil⟩, hbs⟩, hB⟩ hlt
    have hc := hv.cell
    have hne : some (w.heap.size + 2) ≠ v.ownBlock := by
      rcases hrow.2 with ⟨rfl, _⟩ | ⟨g', cap, cur, rfl, hb', hgb, _⟩
      · simp [Value.ownBlock]
      · intro e
        simp only [Value.ownBlock, Option.some.injEq] at e
        subst e
        rw [show W.heap[w.heap.size + 2]? = _ from hbs] at hgb
        cases hgb
    gi_wp2_with (gi_at_builtin; refine wpListIn_append_own _ rfl _ _ 147 rfl w.heap.size 3 i0 (.int .i64 0) 1 8 Tryd.underlying147 hi hz0 hz1 hz2 rfl (by decide) _ _ _ rfl (hrow.alloc _) ⟨W.heap.size, 0, none⟩ 2 2 [.int .i64 x.1, .int .i64 x.2] rfl rfl (cell_two_new _ _ _ _) (by simp [Value.oneCell']) (by have := flat_len pre; simp only [maxLen]; omega) (by have := flat_len pre; omega) (by have := hB.size; simp; omega) ?_; intro v' w1 hown' hgrow _; obtain ⟨g', cap', rfl⟩ := ownsRow_succ hown'; obtain ⟨hv1, hv2, hr2, hk2, hb2⟩ := hv.appended (by decide) hrow hB.size (Nat.le_succ _) hown' hgrow; have hc1 := hv1.cell; have hf1 := hv1.frozen)
    have hbs1 : BoxSet w1 (w.heap.size + 2) #[.int .i64 (N : Int), .slice (some ⟨g, o, none⟩) nw c] 58 := by
      have hl := lt_of_some hbs
      refine (hgrow.block _ (by simp; omega) hne).trans ?_
      exact (Below.heap_alloc W _ _ hl).trans hbs
    have hbs2 := (grownBy_setCell' w1 (w.heap.size + 1) (.slice (some ⟨g', 0, none⟩) ((flat pre).length + 1 + 1) cap')).block _ (lt_of_some hbs1) (by simp)
    refine ⟨hk2.from _, ⟨hb2.size, fun k hk => ?_⟩, ⟨⟨_, hv2, by rw [flat_snoc]; simpa using hr2, by simp⟩, hbs2.trans hbs1⟩, hB.trans hb2⟩
    rcases hk with rfl | rfl | rfl
    · exact hb2.block _ h0l
    · exact hb2.block _ hgl
    · exact hbs2.trans (hbs1.trans hbs.symm)
  case done =>
    rintro D ys W hD rfl ⟨⟨⟨v, hv, hrow, hnil⟩, _⟩, hB⟩ hK
    have hc := hv.cell
    gi_wp2
    refine ⟨by simp, .inl ⟨_, _, rfl, run_takeDeferred hK, ?_⟩⟩
    exact ⟨_, results_tmp rfl _ _ _, v, rfl, ownsRow_putObj hrow _ hK rfl, hnil, hB.trans (belowK_b (w := w) (Nat.le_refl _) W D _ _ (by simp at hD; omega) hK rfl rfl)⟩
  case stop =>
    rintro D c' pre W _ _ h _
    exact h.elim

theorem fr_of_below {W W' : World} (h : Below W.heap.size W W') : Fr W W' no no := ⟨h.os, h.tape, h.output, h.size, fun k hk _ => h.block k hk, fun _ h => .inl h⟩

theorem law02_rows_some (g o c nw : Nat) (ws : Nat → Nat) (n : Nat) (p : Nat → Bool) (w : World) (hh0 : HE.holds w 1 (.fn 0 64 dbT)) (hh1 : HE.holds w g (.fn o (o + nw) (u64s ws o))) (hW : Words ws nw n p) (hn : n ≤ 1048576) (hne : runs p n ≠ []) :
    Calls Tryd.prog 111 #[.agg #[.int .i64 ((n : Nat) : Int), .slice (some ⟨g, o, none⟩) nw c]] w fun e w' => ∃ (g2 : Nat) (c2 : Nat), e = .returned (.slice (some ⟨g2, 0, none⟩) (flat (runs p n)).length c2) ∧ w.heap.size ≤ g2 ∧ HE.holds w' g2 (.fn 0 (0 + (flat (runs p n)).length) (ints (flat (runs p n)) 0)) ∧ Fr w w' no no := by
  refine (callsIn_wide.1 (rows_in 3 (by omega) g o c nw ws n p hW hn (by have := runsGo_len p n (n + 1) (nxt p true n 0); unfold runs; omega) w hh0 hh1)).mono ?_
  rintro e w' ⟨v, rfl, hrow, hnil, hB⟩
  rcases hrow.2 with ⟨rfl, _⟩ | ⟨g2, cap, cur, rfl, hb, hgb, h1, h2, h3, h4⟩
  · exact absurd (hnil.1 rfl) hne
  · refine ⟨g2, cap, rfl, hb, ⟨cur, 3, (0, 0), hgb, fun x _ hx => ?_⟩, fr_of_below hB⟩
    rw [Nat.zero_add] at hx
    have hx2 : x < ((flat (runs p n)).map (Value.int .i64)).length := by simpa using hx
    have e1 : (cur.toList.take ((flat (runs p n)).length * 1))[x]? = ((flat (runs p n)).map (Value.int .i64))[x]? := by rw [h4]
    rw [List.getElem?_take_of_lt (by omega), List.getElem?_map, List.getElem?_eq_getElem hx] at e1
    unfold ints
    rw [Nat.sub_zero, List.getD_eq_getElem?_getD, List.getElem?_eq_getElem hx]
    simpa using e1

theorem law02_rows_none (g o c nw : Nat) (ws : Nat → Nat) (n : Nat) (p : Nat → Bool) (w : World) (hh0 : HE.holds w 1 (.fn 0 64 dbT)) (hh1 : HE.holds w g (.fn o (o + nw) (u64s ws o))) (hW : Words ws nw n p) (hn : n ≤ 1048576) (hne : runs p n = []) :
    Calls Tryd.prog 111 #[.agg #[.int .i64 ((n : Nat) : Int), .slice (some ⟨g, o, none⟩) nw c]] w fun e w' => e = .returned (.slice none 0 0) ∧ Fr w w' no no := by
  refine (callsIn_wide.1 (rows_in 3 (by omega) g o c nw ws n p hW hn (by have := runsGo_len p n (n + 1) (nxt p true n 0); unfold runs; omega) w hh0 hh1)).mono ?_
  rintro e w' ⟨v, rfl, hrow, hnil, hB⟩
  obtain rfl := hnil.2 hne
  exact ⟨rfl, fr_of_below hB⟩

/-! ## Lists that are the same -/

theorem take_step {l1 l2 : List Int} {x : Int} (h0 : 0 ≤ x ∧ x < (l1.length : Int)) (hl : l1.length = l2.length) (h : l1.take (Int.toNat x) = l2.take (Int.toNat x)) (he : l1.getD (Int.toNat x) 0 = l2.getD (Int.toNat x) 0) : l1.take (Int.toNat (x + 1)) = l2.take (Int.toNat (x + 1)) := by
  have e : Int.toNat (x + 1) = Int.toNat x + 1 := by omega
  have k1 : Int.toNat x < l1.length := by omega
  have k2 : Int.toNat x < l2.length := by omega
  rw [e, List.take_add_one, List.take_add_one, h]
  rw [List.getD_eq_getElem?_getD, List.getD_eq_getElem?_getD, List.getElem?_eq_getElem k1, List.getElem?_eq_getElem k2] at he
  rw [List.getElem?_eq_getElem k1, List.getElem?_eq_getElem k2]
  simp only [Option.getD_some] at he
  rw [he]

theorem eqL_len {l1 l2 : List Int} (h : ¬ (l1.length : Int) = (l2.length : Int)) : false = (l1 == l2) := by
  symm
  rw [beq_eq_false_iff_ne]
  rintro rfl
  exact h rfl

theorem eqL_at {l1 l2 : List Int} {x : Int} (h0 : 0 ≤ x ∧ x < (l1.length : Int)) (hl : l1.length = l2.length) (he : ¬ l1.getD (Int.toNat x) 0 = l2.getD (Int.toNat x) 0) : false = (l1 == l2) := by
  symm
  rw [beq_eq_false_iff_ne]
  rintro rfl
  exact he rfl

theorem eqL_all {l1 l2 : List Int} {x : Int} (h0 : x = (l1.length : Int)) (hl : l1.length = l2.length) (h : l1.take (Int.toNat x) = l2.take (Int.toNat x)) : true = (l1 == l2) := by
  have e : Int.toNat x = l1.length := by omega
  rw [e, List.take_length, hl, List.take_length] at h
  symm
  rw [beq_iff_eq]
  exact h

theorem fst1_bd (p : Nat → Bool) (n : Nat) (f : Int) (v : Bool) : 0 ≤ fst1 p n f v ∧ fst1 p n f v ≤ n := by
  unfold fst1; split <;> omega

/-! ## Acts -/

def actAt (l : List (Bool × Int × Int)) (i : Nat) : Bool × Int × Int := l.getD i (false, 0, 0)
/-- A list of acts in a row of cells. -/
def actsV (l : List (Bool × Int × Int)) (o x : Nat) : Value := if (x - o) % 3 = 0 then .bool (actAt l ((x - o) / 3)).1 else if (x - o) % 3 = 1 then .int .i64 (actAt l ((x - o) / 3)).2.1 else .int .i64 (actAt l ((x - o) / 3)).2.2
theorem actsV_0 (l : List (Bool × Int × Int)) (o i : Nat) : actsV l o (o + i * 3) = .bool (actAt l i).1 := by
  unfold actsV
  rw [if_pos (by omega), show (o + i * 3 - o) / 3 = i by omega]
theorem actsV_1 (l : List (Bool × Int × Int)) (o i : Nat) : actsV l o (o + i * 3 + 1) = .int .i64 (actAt l i).2.1 := by
  unfold actsV
  rw [if_neg (by omega), if_pos (by omega), show (o + i * 3 + 1 - o) / 3 = i by omega]
theorem actsV_2 (l : List (Bool × Int × Int)) (o i : Nat) : actsV l o (o + i * 3 + 2) = .int .i64 (actAt l i).2.2 := by
  unfold actsV
  rw [if_neg (by omega), if_neg (by omega), show (o + i * 3 + 2 - o) / 3 = i by omega]

theorem first_law (p : Nat → Bool) (n : Nat) (f : Int) (v : Bool) : (fst2 p n f v = true → hasV p n (fst1 p n f v) = v ∧ f ≤ fst1 p n f v ∧ fst1 p n f v < n) ∧ (fst2 p n f v = false → fst1 p n f v = 0) ∧
    (fst2 p n f v = true → ∀ k : Int, imax 0 f ≤ k → k < fst1 p n f v → hasV p n k ≠ v) ∧ (fst2 p n f v = false → ∀ k : Int, imax 0 f ≤ k → k < (n : Int) → hasV p n k ≠ v) := by
  have hge := nxt_ge p v n (at0 f)
  have h0 : (at0 f : Int) = imax 0 f := by unfold at0 imax; split <;> omega
  have h1 : f ≤ imax 0 f := by unfold imax; split <;> omega
  have h2 : 0 ≤ imax 0 f := by unfold imax; split <;> omega
  by_cases h : nxt p v n (at0 f) < n
  · have e2 : fst2 p n f v = true := by unfold fst2; simpa using h
    have e1 : fst1 p n f v = (nxt p v n (at0 f) : Int) := by unfold fst1; rw [if_pos h]
    rw [e2, e1]
    refine ⟨fun _ => ⟨?_, by omega, by omega⟩, fun hh => (by cases hh), fun _ k hk1 hk2 => ?_, fun hh => (by cases hh)⟩
    · have := nxt_hit h
      unfold hasV
      simp only [Int.toNat_natCast, this]
      have : (nxt p v n (at0 f) : Int) < n := by omega
      simp [this]
    · have := nxt_miss (p := p) (v := v) (n := n) (i := at0 f) (x := k.toNat) (by omega) (by omega)
      unfold hasV
      have a1 : 0 ≤ k := by omega
      have a2 : k < (n : Int) := by omega
      simpa [a1, a2] using this
  · have e2 : fst2 p n f v = false := by unfold fst2; simpa using h
    have e1 : fst1 p n f v = 0 := by unfold fst1; rw [if_neg h]
    rw [e2, e1]
    refine ⟨fun hh => (by cases hh), fun _ => rfl, fun hh => (by cases hh), fun _ k hk1 hk2 => ?_⟩
    have := nxt_miss (p := p) (v := v) (n := n) (i := at0 f) (x := k.toNat) (by omega) (by omega)
    unfold hasV
    have a1 : 0 ≤ k := by omega
    simpa [a1, hk2] using this

theorem dead_eq {a v : Bool} (h : a ≠ v) : ¬ ((v == a) = true) := by
  rw [beq_iff_eq]; exact fun e => h e.symm

end Go.Proofs.YtlnecfdbmoilbaaDoor.K
