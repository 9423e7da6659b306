/-
  Walks, printed by w2.py.
-/
import Derived.Test.YtdjhdcaanmkblaaDoorBj
import Derived.Test.YtdjhdcaanmkblaaDoorBz
import Derived.Test.YtdjhdcaanmkblaaDoorLj
import Derived.Test.YtdjhdcaanmkblaaDoorProg
namespace Go.Proofs.YtdjhdcaanmkblaaDoor.K
set_option linter.unusedVariables false
set_option linter.unusedSimpArgs false

set_option maxRecDepth 100000 in
set_option maxHeartbeats 1000000 in
theorem ref02_Within0 (f : Int) (k : Int) (w : World) :
    Calls Tryd.prog 130 #[vnil, vi f, vi k] w fun e w' => e = .returned (vb (wth 0 f k)) ∧ Fr w w' no no := by
 refine enter (args := [vnil, vi f, vi k]) (D := no) (A := []) Tryd.func130 rfl 27 rfl [] (WS.startL trivial) fun ac hS => ?_
 refine hS.regS [0] [0, 1, 2] fun _ => seg [] [] [] trivial fun ac wd hS => ?_
 refine wp_region_seq ?_
 refine hS.opsC 13 [0, 0, 0, 3, 3, 80, 0, 3, 3, 3, 3, 80, 0] [0, 1, 2] fun _ => seg [(19, vb (((decide ((0 : Int) ≤ f)) && (decide ((0 : Int) ≤ k))) && (decide ((k : Int) ≤ 0))))] [] [] trivial fun ac wd hS => ?_
 rcases Bool.eq_false_or_eq_true (((decide ((0 : Int) ≤ f)) && (decide ((0 : Int) ≤ k))) && (decide ((k : Int) ≤ 0))) with hg1o | hg1o
 ·
  have hg1 := nrm hg1o
  replace hS := hS.fix 19 (vb true) (congrArg Value.bool hg1o)
  refine hS.opsC 8 [1, 1, 1, 1, 21, 1, 70, 0] [] fun _ => seg [(6, vb (decide ((f : Int) ≤ (0 - k))))] [] [.t true, .t true, .t true, .p (fit .i64 (0 - k)), .t true, .t true, .t true, .t true] ⟨fit_i64 (by omega), trivial⟩ fun ac wd hS => ?_
  refine list_nil_seq ?_
  refine wp_ret ?_
  refine St.retC 0 hS (vb (decide ((f : Int) ≤ (0 - k)))) [] trivial fun hw => ?_
  refine ⟨retd (vbool ?_), hw.fr0⟩
  all_goals (first | rfl | (simp [wth]; done) | (simp [wth]; omega) | (simp_all [wth]; done) | (simp_all [wth]; omega))
 ·
  have hg1 := nrm hg1o
  replace hS := hS.fix 19 (vb false) (congrArg Value.bool hg1o)
  refine hS.opsC 8 [2, 2, 2, 2, 2, 2, 60, 0] [] fun _ => seg [(6, vb false)] [] [.t false, .t false, .t false, .t false, .t false, .t false, .t false] trivial fun ac wd hS => ?_
  refine list_nil_seq ?_
  refine wp_ret ?_
  refine St.retC 0 hS (vb false) [] trivial fun hw => ?_
  refine ⟨retd (vbool ?_), hw.fr0⟩
  all_goals (first | rfl | (simp [wth]; done) | (simp [wth]; omega) | (simp_all [wth]; done) | (simp_all [wth]; omega))

set_option maxRecDepth 100000 in
set_option maxHeartbeats 1000000 in
theorem ref02_Put0 (f : Int) (k : Int) (v : Bool) (w : World) :
    Calls Tryd.prog 102 #[vnil, vi f, vi k, vb v] w fun e w' => ∃ (q2 : Value) (e2 : Int), e = .returned (.tuple #[q2, vi e2]) ∧ Fr w w' no no := by
 refine enter (args := [vnil, vi f, vi k, vb v]) (D := no) (A := []) Tryd.func102 rfl 49 rfl [] (WS.startL trivial) fun ac hS => ?_
 refine hS.regS [0, 0] [0, 1, 2, 3] fun _ => seg [] [] [] trivial fun ac wd hS => ?_
 refine wp_seq ?_
 refine wp_region_seq ?_
 refine hS.opsC 3 [0, 0, 0] [0, 1, 2, 3] fun _ => seg [(13, vnil), (14, vi f), (15, vi k)] [] [] trivial fun ac wd hS => ?_
 refine hS.call0 130 #[vnil, vi f, vi k] 16 (ref02_Within0 f k _  ) fun ac wd hS => ?_
 refine hS.opsC 1 [0] [0, 1, 2, 3] fun _ => seg [(17, vb (!(wth 0 f k)))] [] [] trivial fun ac wd hS => ?_
 refine list_nil_seq ?_
 refine hS.condC (!(wth 0 f k)) (fun hb1o hb1 => ?_) (fun hb1o hb1 => ?_)
 ·
  refine hS.regS [0, 0, 0] [] fun _ => seg [(8, vnil), (9, vi 3)] [] [] trivial fun ac wd hS => ?_
  refine wp_ret ?_
  refine pop_then_ret ?_
  refine St.retC 0 hS (.tuple #[vnil, vi 3]) [] trivial fun hw => ?_
  refine ⟨vnil, 3, retd rfl, hw.fr0⟩
 ·
  refine wp_skip ?_
  refine pop_then ?_
  refine hS.regS [0, 0, 90, 0] [0, 1, 2, 3] fun ν5 => seg [(10, sc (ν5 0) 0 0 0)] [(0, some ((ν5 0), .row 4 0 0 (boolsV (fun _ => false) 0)))] [.p ((0 : Int) = 0), .p ((0 : Int) ≤ 0 ∧ (0 : Int) ≤ 2 ^ 32 ∧ 1 ≤ 64)] ⟨rfl, (by omega), trivial⟩ fun ac wd hS => ?_
  refine wp_seq ?_
  refine hS.regS [0, 0, 0] [1, 2, 3, 10] fun _ => seg [(22, vnil), (23, vi 0), (24, vi 0)] [(0, none)] [] trivial fun ac wd hS => ?_
  refine wp_block ?_
  refine St.loopC (σ := Int) (fun (x24 : Int) => ⟨[(1, [], vi f), (2, [], vi k), (3, [], vb v), (10, [], sc (ν5 0) 0 0 0), (22, [], vnil), (23, [], vi 0), (24, [], vi x24)], [((ν5 0), .row 4 0 0 (boolsV (fun _ => false) 0))], [], (x24 = 0) ∧ True, 0⟩) 0 ⟨(by rfl), trivial⟩ hS ?_
  clear hS
  rintro x24 ⟨i0, -⟩ ac wd hS
  replace i0 : x24 = 0 := i0
  refine hS.regS [0] [1, 2, 3, 10, 22, 23, 24] fun _ => seg [(25, vb (decide ((x24 : Int) < 0)))] [(0, none)] [] trivial fun ac wd hS => ?_
  refine wp_seq ?_
  refine hS.condK (decide ((x24 : Int) < 0)) false (by exact decide_eq_false (by omega)) ?_
  show Code.wp _ _ _ _ _
  refine wp_exit ?_
  refine pop_then_exit ?_
  refine pop_then_exit ?_
  refine pop_block_hit ?_
  refine pop_then ?_
  refine hS.regS [0, 0, 0] [] fun _ => seg [(8, sc (ν5 0) 0 0 0), (9, vi 0)] [(0, none)] [] trivial fun ac wd hS => ?_
  refine wp_ret ?_
  refine St.retC 0 hS (.tuple #[sc (ν5 0) 0 0 0, vi 0]) [] trivial fun hw => ?_
  refine ⟨sc (ν5 0) 0 0 0, 0, retd (tuple2 ?_ rfl), hw.fr0⟩
  all_goals (rfl)

set_option maxRecDepth 100000 in
set_option maxHeartbeats 1000000 in
theorem law02_done0 (g : Nat) (o : Nat) (c : Nat) (nw : Nat) (ws : Nat → Nat) (n : Nat) (v : Bool) (f : Int) (k : Int) (p : Nat → Bool) (w : World) (hh0 : HE.holds w g (.fn o (o + nw) (u64s ws o))) (hW : Words ws nw n p) (hn : n ≤ 1048576) :
    Calls Tryd.prog 42 #[.agg #[vi ((n : Nat) : Int), sc g o nw c], vnil, .agg #[vb v, vi f, vi k]] w fun e w' => ∃ (g2 : Nat) (o2 : Nat) (c2 : Nat) (ws2 : Nat → Nat) (q2 : Value) (r2 : Bool), e = .returned (.tuple #[.agg #[vi ((n : Nat) : Int), sc g2 o2 nw c2], q2, vb r2]) ∧ Words ws2 nw n (trn p n f k v) ∧ (g2 = g ∨ w.heap.size ≤ g2) ∧ HE.holds w' g2 (.fn o2 (o2 + nw) (u64s ws2 o2)) ∧ Fr w w' no no := by
 refine enter (args := [.agg #[vi ((n : Nat) : Int), sc g o nw c], vnil, .agg #[vb v, vi f, vi k]]) (D := no) (A := []) Tryd.func42 rfl 47 rfl [(g, .fn o (o + nw) (u64s ws o))] (WS.startL ⟨⟨rfl, hh0⟩, trivial⟩) fun ac hS => ?_
 refine hS.regS [0, 0, 0, 0, 0] [1] fun ν1 => seg [(3, pt (ν1 0) 0), (5, pt (ν1 1) 0), (6, pt (ν1 2) 0)] [(0, none), (1, some ((ν1 0), .cells [vi ((n : Nat) : Int), sc g o nw c] 46)), (2, some ((ν1 1), .cells [vb v, vi f, vi k] 94)), (3, some ((ν1 2), .cells [vi 0, vnil] 46))] [] trivial fun ac wd hS => ?_
 refine hS.regS [0] [1, 3, 5, 6] fun _ => seg [] [(0, none), (1, none), (2, none), (3, none)] [] trivial fun ac wd hS => ?_
 refine wp_seq ?_
 refine hS.regS [0, 200] [1, 3, 5, 6] fun _ => seg [(12, vb v)] [(0, none), (1, none), (2, none), (3, none)] [.e (ν1 1)] trivial fun ac wd hS => ?_
 refine hS.condC v (fun hb1o hb1 => ?_) (fun hb1o hb1 => ?_)
 ·
  refine wp_region_lit ?_
  refine hS.opsC 5 [100, 0, 200, 0, 200] [1, 3, 5, 6] fun _ => seg [(14, .agg #[vi ((n : Nat) : Int), sc g o nw c]), (16, vi f), (18, vi k)] [(0, none), (1, none), (2, none), (3, none)] [.e (ν1 1), .e (ν1 1), .e (ν1 0), .e (ν1 0)] trivial fun ac wd hS => ?_
  refine hS.callC 70 #[.agg #[vi ((n : Nat) : Int), sc g o nw c], vi f, vi k] (bits_With g o c nw ws n f k p _ (hS.mem.get 0 g (.fn o (o + nw) (u64s ws o))) (by first | assumption | omega | (simp_all; done) | (simp_all; omega)) (by first | assumption | omega | (simp_all; done) | (simp_all; omega))) ?_
  rintro _ wd ⟨g22, o23, c24, ws25, rfl, hW26, hog0, hoh0, hF⟩
  have ho7 : g22 = g ∨ w.heap.size ≤ g22 := by rcases hog0 with hx | hx; rw [hx]; exact (.inl rfl); exact .inr (Nat.le_trans hS.mem.fr.size hx)
  refine ⟨.tuple #[.agg #[vi ((n : Nat) : Int), sc g22 o23 nw c24], vi (trnE n f k)], rfl, ?_⟩
  replace hS := (hS.to (hS.mem.outs hF [(g22, .fn o23 (o23 + nw) (u64s ws25 o23))] ⟨⟨rfl, hoh0, hog0.imp (fun e => ⟨0, .fn o (o + nw) (u64s ws o), by rw [e]; rfl, rfl⟩) id⟩, trivial⟩)).put (d := 19) (v := .tuple #[.agg #[vi ((n : Nat) : Int), sc g22 o23 nw c24], vi (trnE n f k)]) (by decide)
  clear hF
  refine hS.opsC 5 [0, 0, 0, 100, 0] [1, 3, 5, 6] fun _ => seg [(9, vi (trnE n f k))] [(1, some ((ν1 0), .cells [vi ((n : Nat) : Int), sc g22 o23 nw c24] 46)), (2, none), (3, none), (4, none)] [.e (ν1 0), .e (ν1 0)] trivial fun ac wd hS => ?_
  refine list_nil ?_
  refine pop_then ?_
  refine wp_region_seq ?_
  refine hS.opsC 7 [0, 0, 100, 0, 100, 0, 100] [1, 3, 6, 9] fun _ => seg [(32, vnil), (34, vi f), (36, vi k), (38, vb v)] [(0, none), (2, none), (3, none)] [.e (ν1 1), .e (ν1 1), .e (ν1 1)] trivial fun ac wd hS => ?_
  refine hS.callC 102 #[vnil, vi f, vi k, vb v] (ref02_Put0 f k v _  ) ?_
  rintro _ wd ⟨q28, e29, rfl, hF⟩
  refine ⟨.tuple #[q28, vi e29], rfl, ?_⟩
  replace hS := (hS.to (hS.mem.keep0 hF)).put (d := 39) (v := .tuple #[q28, vi e29]) (by decide)
  clear hF
  refine hS.opsC 5 [0, 0, 0, 0, 0] [3, 6, 9] fun _ => seg [(1, q28), (10, vi e29)] [(0, none), (1, none), (2, none)] [] trivial fun ac wd hS => ?_
  refine list_nil_seq ?_
  refine hS.regS [0, 0, 0, 0, 0, 100, 0, 0] [6] fun _ => seg [(7, q28), (8, vb (((trnE n f k) : Int) == e29))] [(1, some ((ν1 2), .cells [vi ((n : Nat) : Int), sc g22 o23 nw c24] 46)), (2, none)] [.e (ν1 2), .e (ν1 2), .e (ν1 0), .e (ν1 0)] trivial fun ac wd hS => ?_
  refine wp_ret ?_
  refine St.retC 0 hS (.tuple #[.agg #[vi ((n : Nat) : Int), sc g22 o23 nw c24], q28, vb (((trnE n f k) : Int) == e29)]) [.e (ν1 2), .e (ν1 2)] trivial fun hw => ?_
  refine ⟨g22, o23, c24, ws25, q28, (((trnE n f k) : Int) == e29), retd rfl, ?_, ho7, (hw.get 1 g22 (.fn o23 (o23 + nw) (u64s ws25 o23))), hw.fr0⟩
  all_goals (first | rfl | assumption | (rw [show v = true by first | assumption | (simp_all; done)]; first | rfl | assumption) | (rw [show v = false by first | assumption | (simp_all; done)]; first | rfl | assumption) | (simp_all; done))
 ·
  refine wp_region_lit ?_
  refine hS.opsC 5 [100, 0, 200, 0, 200] [1, 3, 5, 6] fun _ => seg [(23, .agg #[vi ((n : Nat) : Int), sc g o nw c]), (25, vi f), (27, vi k)] [(0, none), (1, none), (2, none), (3, none)] [.e (ν1 1), .e (ν1 1), .e (ν1 0), .e (ν1 0)] trivial fun ac wd hS => ?_
  refine hS.callC 100 #[.agg #[vi ((n : Nat) : Int), sc g o nw c], vi f, vi k] (bits_Without g o c nw ws n f k p _ (hS.mem.get 0 g (.fn o (o + nw) (u64s ws o))) (by first | assumption | omega | (simp_all; done) | (simp_all; omega)) (by first | assumption | omega | (simp_all; done) | (simp_all; omega))) ?_
  rintro _ wd ⟨g210, o211, c212, ws213, rfl, hW214, hog0, hoh0, hF⟩
  have ho15 : g210 = g ∨ w.heap.size ≤ g210 := by rcases hog0 with hx | hx; rw [hx]; exact (.inl rfl); exact .inr (Nat.le_trans hS.mem.fr.size hx)
  refine ⟨.tuple #[.agg #[vi ((n : Nat) : Int), sc g210 o211 nw c212], vi (trnE n f k)], rfl, ?_⟩
  replace hS := (hS.to (hS.mem.outs hF [(g210, .fn o211 (o211 + nw) (u64s ws213 o211))] ⟨⟨rfl, hoh0, hog0.imp (fun e => ⟨0, .fn o (o + nw) (u64s ws o), by rw [e]; rfl, rfl⟩) id⟩, trivial⟩)).put (d := 28) (v := .tuple #[.agg #[vi ((n : Nat) : Int), sc g210 o211 nw c212], vi (trnE n f k)]) (by decide)
  clear hF
  refine hS.opsC 5 [0, 0, 0, 100, 0] [1, 3, 5, 6] fun _ => seg [(9, vi (trnE n f k))] [(1, some ((ν1 0), .cells [vi ((n : Nat) : Int), sc g210 o211 nw c212] 46)), (2, none), (3, none), (4, none)] [.e (ν1 0), .e (ν1 0)] trivial fun ac wd hS => ?_
  refine list_nil ?_
  refine pop_then ?_
  refine wp_region_seq ?_
  refine hS.opsC 7 [0, 0, 100, 0, 100, 0, 100] [1, 3, 6, 9] fun _ => seg [(32, vnil), (34, vi f), (36, vi k), (38, vb v)] [(0, none), (2, none), (3, none)] [.e (ν1 1), .e (ν1 1), .e (ν1 1)] trivial fun ac wd hS => ?_
  refine hS.callC 102 #[vnil, vi f, vi k, vb v] (ref02_Put0 f k v _  ) ?_
  rintro _ wd ⟨q216, e217, rfl, hF⟩
  refine ⟨.tuple #[q216, vi e217], rfl, ?_⟩
  replace hS := (hS.to (hS.mem.keep0 hF)).put (d := 39) (v := .tuple #[q216, vi e217]) (by decide)
  clear hF
  refine hS.opsC 5 [0, 0, 0, 0, 0] [3, 6, 9] fun _ => seg [(1, q216), (10, vi e217)] [(0, none), (1, none), (2, none)] [] trivial fun ac wd hS => ?_
  refine list_nil_seq ?_
  refine hS.regS [0, 0, 0, 0, 0, 100, 0, 0] [6] fun _ => seg [(7, q216), (8, vb (((trnE n f k) : Int) == e217))] [(1, some ((ν1 2), .cells [vi ((n : Nat) : Int), sc g210 o211 nw c212] 46)), (2, none)] [.e (ν1 2), .e (ν1 2), .e (ν1 0), .e (ν1 0)] trivial fun ac wd hS => ?_
  refine wp_ret ?_
  refine St.retC 0 hS (.tuple #[.agg #[vi ((n : Nat) : Int), sc g210 o211 nw c212], q216, vb (((trnE n f k) : Int) == e217)]) [.e (ν1 2), .e (ν1 2)] trivial fun hw => ?_
  refine ⟨g210, o211, c212, ws213, q216, (((trnE n f k) : Int) == e217), retd rfl, ?_, ho15, (hw.get 1 g210 (.fn o211 (o211 + nw) (u64s ws213 o211))), hw.fr0⟩
  all_goals (first | rfl | assumption | (rw [show v = true by first | assumption | (simp_all; done)]; first | rfl | assumption) | (rw [show v = false by first | assumption | (simp_all; done)]; first | rfl | assumption) | (simp_all; done))

theorem rows_noneQ (g : Nat) (o : Nat) (c : Nat) (nw : Nat) (ws : Nat → Nat) (n : Nat) (p : Nat → Bool) (w : World) (hh0 : HE.holds w 0 (.fn 0 64 dbT)) (hh1 : HE.holds w g (.fn o (o + nw) (u64s ws o))) (hW : Words ws nw n p) (hn : n ≤ 1048576) (hne : runs p n = []) :
    Calls Tryd.prog 43 #[.agg #[vi ((n : Nat) : Int), sc g o nw c]] w fun e w' => e = .returned (vnil) ∧ Fr w w' no no := by
 exact law02_rows_none g o c nw ws n p w hh0 hh1 hW hn hne

theorem rows_someQ (g : Nat) (o : Nat) (c : Nat) (nw : Nat) (ws : Nat → Nat) (n : Nat) (p : Nat → Bool) (w : World) (hh0 : HE.holds w 0 (.fn 0 64 dbT)) (hh1 : HE.holds w g (.fn o (o + nw) (u64s ws o))) (hW : Words ws nw n p) (hn : n ≤ 1048576) (hne : ¬ runs p n = []) :
    Calls Tryd.prog 43 #[.agg #[vi ((n : Nat) : Int), sc g o nw c]] w fun e w' => ∃ (g2 : Nat) (c2 : Nat), e = .returned (sc g2 0 ((flat (runs p n)).length) c2) ∧ w.heap.size ≤ g2 ∧ HE.holds w' g2 (.fn 0 (0 + (flat (runs p n)).length) (ints (flat (runs p n)) 0)) ∧ Fr w w' no no := by
 exact law02_rows_some g o c nw ws n p w hh0 hh1 hW hn hne

theorem bits_CountR (g : Nat) (o : Nat) (c : Nat) (nw : Nat) (ws : Nat → Nat) (n : Nat) (f : Int) (k : Int) (p : Nat → Bool) (w : World) (hh0 : HE.holds w g (.fn o (o + nw) (u64s ws o))) (hW : Words ws nw n p) (hn : n ≤ 1048576) (h5 : cntV p n f k = k) (h6 : trnE n f k = 0) :
    Calls Tryd.prog 17 #[.agg #[vi ((n : Nat) : Int), sc g o nw c], vi f, vi k] w fun e w' => e = .returned (.tuple #[vi k, vi 0]) ∧ Fr w w' no no := by
 have h := bits_Count g o c nw ws n f k p w hh0 hW hn
 rw [h5, h6] at h
 exact h

theorem bits_RowsK (g o c nw : Nat) (ws : Nat → Nat) (n : Nat) (p : Nat → Bool) (w : World) (hh0 : HE.holds w g (.fn o (o + nw) (u64s ws o))) :
    Calls Tryd.prog 44 #[.agg #[vi ((n : Nat) : Int), sc g o nw c]] w fun e w' => ∃ (bn : Nat), e = .returned (.func (.func 103) #[] #[pt bn 0]) ∧ w.heap.size ≤ bn ∧ HE.holds w' bn (.fn 0 2 (roF [vi ((n : Nat) : Int), sc g o nw c])) ∧ Fr w w' no no := by
  refine (callsIn_wide.1 (Rows_in 3 _ _ _ rfl w)).mono ?_
  rintro e w' ⟨rfl, rfl⟩
  refine ⟨w.heap.size, rfl, Nat.le_refl _, ⟨_, _, (0, 0), World.alloc_heap_new w _, fun x h1 h2 => ?_⟩, fr_of_below ((Go.RowKit.Below.refl _ w).alloc (Nat.le_refl _) _)⟩
  rcases (by omega : x = 0 ∨ x = 1) with rfl | rfl <;> rfl

set_option maxRecDepth 100000 in
set_option maxHeartbeats 1000000 in
theorem law02_BitsRows (length : Int) (ao7 : Option Addr) (c7 : Nat) (g7 : Nat) (o7 : Nat) (l : List (Bool × Int × Int)) (stop : Int) (w : World) (hh0 : HE.holds w 0 (.fn 0 64 dbT)) (hh1 : HE.holds w g7 (.fn o7 (o7 + l.length * 3) (a2V (gtD l) o7))) (hv7 : (l.length = 0 ∨ ao7 = some ⟨g7, o7, none⟩)) (hstop : 0 ≤ stop ∧ stop ≤ 255) :
    Calls Tryd.prog 6 #[vi length, .slice ao7 l.length c7, v8 stop] w fun e w' => e = .returned (vb true) ∧ Fr w w' no no := by
 have hcl := capN_le length
 refine enterM (args := [vi length, .slice ao7 l.length c7, v8 stop]) (D := no) (A := []) Tryd.func6 rfl 153 rfl [(0, .fn 0 64 dbT), (g7, .fn o7 (o7 + l.length * 3) (a2V (gtD l) o7))] (WS.startL ⟨⟨rfl, hh0⟩, ⟨rfl, hh1⟩, trivial⟩) fun ac hS => ?_
 refine hS.regS [0, 0] [0, 1] fun ν1 => seg [(5, pt (ν1 0) 0), (6, pt (ν1 1) 0)] [(0, none), (1, none), (2, some ((ν1 0), .cells [v8 stop] 5)), (3, some ((ν1 1), .cells [vb false] 4))] [] trivial fun ac wd hS => ?_
 refine wp_seq ?_
 refine wp_region_seq ?_
 refine hS.call0 40 #[] 21 (law02_awake  _ (hS.mem.get 0 0 (.fn 0 64 dbT)) ) fun ac wd hS => ?_
 refine hS.opsC 1 [0] [0, 1, 5, 6] fun _ => seg [(22, vb false)] [(0, none), (1, none), (2, none), (3, none)] [] trivial fun ac wd hS => ?_
 refine list_nil_seq ?_
 refine hS.condF ?_
 refine wp_skip ?_
 refine pop_then ?_
 refine wp_seq ?_
 refine hS.regS [0, 0, 0, 0, 3, 3, 80] [0, 1, 5, 6] fun _ => seg [(29, vb ((decide ((60 : Int) < ((l.length : Nat) : Int))) || (decide ((2000 : Int) < length))))] [(0, none), (1, none), (2, none), (3, none)] [] trivial fun ac wd hS => ?_
 refine hS.condC ((decide ((60 : Int) < ((l.length : Nat) : Int))) || (decide ((2000 : Int) < length))) (fun hb1o hb1 => ?_) (fun hb1o hb1 => ?_)
 ·
  refine hS.regS [300] [6] fun _ => seg [] [(0, none), (3, some ((ν1 1), .cells [vb true] 4))] [.e (ν1 1)] trivial fun ac wd hS => ?_
  refine wp_ret ?_
  refine pop_then_ret ?_
  refine St.retM0 1 hS (vb true) [.e (ν1 1)] trivial fun hw => ?_
  refine ⟨retd rfl, hw.fr0⟩
 ·
  refine wp_skip ?_
  refine pop_then ?_
  refine wp_region_seq ?_
  refine hS.opsC 1 [0] [1, 5, 6] fun _ => seg [(30, vi length)] [(0, none), (1, none), (2, none), (3, none)] [] trivial fun ac wd hS => ?_
  refine hS.callC 41 #[vi length] (bits_New length _  ) ?_
  rintro _ wd ⟨g22, c23, rfl, hog0, hoh0, hF⟩
  have ho4 : w.heap.size ≤ g22 := Nat.le_trans hS.mem.fr.size hog0
  refine ⟨.agg #[vi ((capN length : Nat) : Int), sc g22 0 ((capN length + 63) / 64) c23], rfl, ?_⟩
  replace hS := (hS.to (hS.mem.outs hF [(g22, .fn 0 (0 + ((capN length + 63) / 64)) (u64s (fun _ => 0) 0))] ⟨⟨rfl, hoh0, .inr hog0⟩, trivial⟩)).put (d := 31) (v := .agg #[vi ((capN length : Nat) : Int), sc g22 0 ((capN length + 63) / 64) c23]) (by decide)
  clear hF
  refine hS.opsC 2 [0, 500] [1, 5, 6] fun ν6 => seg [(7, pt (ν6 0) 0)] [(0, none), (1, none), (2, none), (3, none), (4, none), (5, some ((ν6 0), .cells [vi ((capN length : Nat) : Int), sc g22 0 ((capN length + 63) / 64) c23] 46))] [.e (ν6 0), .e (ν6 0)] trivial fun ac wd hS => ?_
  refine list_nil_seq ?_
  refine wp_seq ?_
  refine hS.regS [0, 0, 0] [5, 6, 7] fun _ => seg [(32, .slice ao7 l.length c7), (33, vi ((l.length : Nat) : Int)), (34, vi 0)] [(0, none), (1, none), (2, none), (3, none), (4, none), (5, none)] [] trivial fun ac wd hS => ?_
  refine wp_block ?_
  refine St.loopC (σ := Int × Nat × Nat × Nat × (Nat → Nat) × (Nat → Bool)) (fun (x : Int × Nat × Nat × Nat × (Nat → Nat) × (Nat → Bool)) => match x with | (x34, gs, os, cs, wsx, px) => ⟨[(5, [], pt (ν1 0) 0), (6, [], pt (ν1 1) 0), (7, [], pt (ν6 0) 0), (32, [], .slice ao7 l.length c7), (33, [], vi ((l.length : Nat) : Int)), (34, [], vi x34)], [(0, .fn 0 64 dbT), (g7, .fn o7 (o7 + l.length * 3) (a2V (gtD l) o7)), ((ν1 0), .cells [v8 stop] 5), ((ν1 1), .cells [vb false] 4), (gs, .fn os (os + (((capN length) + 63) / 64)) (u64s wsx os)), ((ν6 0), .cells [vi (((capN length) : Nat) : Int), sc gs os (((capN length) + 63) / 64) cs] 46)], [], (0 ≤ x34 ∧ x34 ≤ (l.length : Int)) ∧ (Words wsx (((capN length) + 63) / 64) (capN length) px) ∧ (w.heap.size ≤ gs) ∧ True, l.length - Int.toNat x34⟩) (0, g22, 0, c23, (fun _ => 0), (fun _ => false)) ⟨(by first | omega | exact words_none _ | assumption), (by first | omega | exact words_none _ | assumption), (by first | omega | exact words_none _ | assumption), trivial⟩ hS ?_
  clear hS
  rintro ⟨x34, gs, os, cs, wsx, px⟩ ⟨i0, i1, i3, -⟩ ac wd hS
  replace i0 : 0 ≤ x34 ∧ x34 ≤ (l.length : Int) := i0
  replace i1 : Words wsx (((capN length) + 63) / 64) (capN length) px := i1
  replace i3 : w.heap.size ≤ gs := i3
  refine hS.regS [0] [5, 6, 7, 32, 33, 34] fun _ => seg [(35, vb (decide ((x34 : Int) < ((l.length : Nat) : Int))))] [(0, none), (1, none), (2, none), (3, none), (4, none), (5, none)] [] trivial fun ac wd hS => ?_
  refine wp_seq ?_
  refine hS.condC (decide ((x34 : Int) < ((l.length : Nat) : Int))) (fun hb5o hb5 => ?_) (fun hb5o hb5 => ?_)
  ·
   refine wp_skip ?_
   refine pop_then ?_
   refine wp_seq ?_
   refine wp_block ?_
   obtain rfl : ao7 = some ⟨g7, o7, none⟩ := Or.resolve_left hv7 (by omega)
   refine hS.regS [20, fx 100 (.agg #[vb (((gtD l) (Int.toNat x34)).1), vi (((gtD l) (Int.toNat x34)).2.1), vi (((gtD l) (Int.toNat x34)).2.2)]), 0, 600] [5, 6, 7, 32, 33, 34] fun ν9 => seg [(9, pt (ν9 0) 0)] [(0, none), (1, none), (2, none), (3, none), (4, none), (5, none), (6, some ((ν9 0), .cells [vb (((gtD l) (Int.toNat x34)).1), vi (((gtD l) (Int.toNat x34)).2.1), vi (((gtD l) (Int.toNat x34)).2.2)] 94))] [.e (ν9 0), .e (ν9 0), .e (ν9 0), .p ((.agg #[((a2V (gtD l) o7) (o7 + Int.toNat x34 * 3)), ((a2V (gtD l) o7) (o7 + Int.toNat x34 * 3 + 1)), ((a2V (gtD l) o7) (o7 + Int.toNat x34 * 3 + 2))] : Value) = .agg #[vb (((gtD l) (Int.toNat x34)).1), vi (((gtD l) (Int.toNat x34)).2.1), vi (((gtD l) (Int.toNat x34)).2.2)]), .e g7, .p (o7 ≤ o7 + Int.toNat x34 * 3 + 2 ∧ o7 + Int.toNat x34 * 3 + 2 < (o7 + l.length * 3)), .e g7, .p (o7 ≤ o7 + Int.toNat x34 * 3 + 1 ∧ o7 + Int.toNat x34 * 3 + 1 < (o7 + l.length * 3)), .e g7, .p (o7 ≤ o7 + Int.toNat x34 * 3 ∧ o7 + Int.toNat x34 * 3 < (o7 + l.length * 3)), .p ((0 : Int) ≤ x34 ∧ (x34 : Int) < ((l.length : Nat) : Int))] ⟨(agg3 (a2V_0 (gtD l) o7 (Int.toNat x34)) (a2V_1 (gtD l) o7 (Int.toNat x34)) (a2V_2 (gtD l) o7 (Int.toNat x34))), (by omega), (by omega), (by omega), (by omega), trivial⟩ fun ac wd hS => ?_
   refine wp_region_lit ?_
   refine hS.opsC 2 [500, 600] [5, 6, 7, 32, 33, 34] fun _ => seg [(39, .agg #[vi (((capN length) : Nat) : Int), sc gs os (((capN length) + 63) / 64) cs]), (40, .agg #[vb (((gtD l) (Int.toNat x34)).1), vi (((gtD l) (Int.toNat x34)).2.1), vi (((gtD l) (Int.toNat x34)).2.2)])] [(0, none), (1, none), (2, none), (3, none), (4, none), (5, none)] [.e (ν9 0), .e (ν9 0), .e (ν9 0), .e (ν6 0), .e (ν6 0)] trivial fun ac wd hS => ?_
   refine hS.callC 42 #[.agg #[vi (((capN length) : Nat) : Int), sc gs os (((capN length) + 63) / 64) cs], vnil, .agg #[vb (((gtD l) (Int.toNat x34)).1), vi (((gtD l) (Int.toNat x34)).2.1), vi (((gtD l) (Int.toNat x34)).2.2)]] (law02_done0 gs os cs (((capN length) + 63) / 64) wsx (capN length) (((gtD l) (Int.toNat x34)).1) (((gtD l) (Int.toNat x34)).2.1) (((gtD l) (Int.toNat x34)).2.2) px _ (hS.mem.get 4 gs (.fn os (os + (((capN length) + 63) / 64)) (u64s wsx os))) (by exact i1) (by exact capN_le _)) ?_
   rintro _ wd ⟨g26, o27, c28, ws29, q210, r211, rfl, hW212, hog0, hoh0, hF⟩
   have ho13 : w.heap.size ≤ g26 := by rcases hog0 with hx | hx; rw [hx]; exact i3; exact Nat.le_trans hS.mem.fr.size hx
   refine ⟨.tuple #[.agg #[vi (((capN length) : Nat) : Int), sc g26 o27 (((capN length) + 63) / 64) c28], q210, vb r211], rfl, ?_⟩
   replace hS := (hS.to (hS.mem.outs hF [(g26, .fn o27 (o27 + (((capN length) + 63) / 64)) (u64s ws29 o27))] ⟨⟨rfl, hoh0, hog0.imp (fun e => ⟨4, .fn os (os + (((capN length) + 63) / 64)) (u64s wsx os), by rw [e]; rfl, rfl⟩) id⟩, trivial⟩)).put (d := 41) (v := .tuple #[.agg #[vi (((capN length) : Nat) : Int), sc g26 o27 (((capN length) + 63) / 64) c28], q210, vb r211]) (by decide)
   clear hF
   refine hS.opsC 5 [0, 0, 0, 0, 500] [5, 6, 7, 32, 33, 34] fun _ => seg [] [(0, none), (1, none), (2, none), (3, none), (5, some ((ν6 0), .cells [vi (((capN length) : Nat) : Int), sc g26 o27 (((capN length) + 63) / 64) c28] 46)), (6, none)] [.e (ν6 0), .e (ν6 0)] trivial fun ac wd hS => ?_
   refine list_nil ?_
   refine pop_block ?_
   refine pop_then ?_
   refine hS.regC [20, 0] [5, 6, 7, 32, 33] fun _ => seg [(34, vi (x34 + 1))] [(0, none), (1, none), (2, none), (3, none), (4, none), (5, none)] [.p (fit .i64 (x34 + 1))] ⟨fit_i64 (by omega), trivial⟩ fun ac wd hS => ?_
   replace hS := hS.to (hS.mem.perm [0, 1, 2, 3, 5, 4] (H' := [(0, .fn 0 64 dbT), (g7, .fn o7 (o7 + l.length * 3) (a2V (gtD l) o7)), ((ν1 0), .cells [v8 stop] 5), ((ν1 1), .cells [vb false] 4), (g26, .fn o27 (o27 + (((capN length) + 63) / 64)) (u64s ws29 o27)), ((ν6 0), .cells [vi (((capN length) : Nat) : Int), sc g26 o27 (((capN length) + 63) / 64) c28] 46)]) (by as_aux_lemma => kernel_rfl) (by decide))
   exact pop_then (hS.next ((x34 + 1), g26, o27, c28, ws29, (trn px (capN length) (((gtD l) (Int.toNat x34)).2.1) (((gtD l) (Int.toNat x34)).2.2) (((gtD l) (Int.toNat x34)).1))) ⟨(by first | omega | assumption | (simp; done) | (simp; omega)), (by assumption), (by first | assumption | omega), trivial⟩ (by dsimp only; omega))
  ·
   refine wp_exit ?_
   refine pop_then_exit ?_
   refine pop_then_exit ?_
   refine pop_block_hit ?_
   refine pop_then ?_
   have hWx := i1
   by_cases hne : (runs px (capN length)) = []
   ·
    refine wp_region_seq ?_
    refine hS.opsC 1 [500] [5, 6, 7] fun _ => seg [(46, .agg #[vi (((capN length) : Nat) : Int), sc gs os (((capN length) + 63) / 64) cs])] [(0, none), (2, none), (3, none), (4, none), (5, none)] [.e (ν6 0), .e (ν6 0)] trivial fun ac wd hS => ?_
    refine hS.call0 43 #[.agg #[vi (((capN length) : Nat) : Int), sc gs os (((capN length) + 63) / 64) cs]] 47 (rows_noneQ gs os cs (((capN length) + 63) / 64) wsx (capN length) px _ (hS.mem.get 0 0 (.fn 0 64 dbT)) (hS.mem.get 3 gs (.fn os (os + (((capN length) + 63) / 64)) (u64s wsx os))) (by exact hWx) (by exact capN_le _) (by exact hne)) fun ac wd hS => ?_
    refine hS.opsC 2 [0, 500] [5, 6, 7] fun ν14 => seg [(10, pt (ν14 0) 0)] [(0, none), (1, none), (2, none), (3, none), (4, none), (5, some ((ν14 0), .cells [vnil] 70))] [.e (ν14 0)] trivial fun ac wd hS => ?_
    refine list_nil_seq ?_
    refine hS.regS [0, 0] [5, 6, 7, 10] fun _ => seg [(11, vi 0), (12, vi (-1))] [(0, none), (1, none), (2, none), (3, none), (4, none), (5, none)] [] trivial fun ac wd hS => ?_
    refine wp_seq ?_
    refine hS.regS [0] [5, 6, 7, 10, 11, 12] fun _ => seg [(13, vi 0)] [(0, none), (1, none), (2, none), (3, none), (4, none), (5, none)] [] trivial fun ac wd hS => ?_
    refine wp_block ?_
    refine St.loopC (σ := Int × Int × Int × (List (Int × Int))) (fun (x : Int × Int × Int × (List (Int × Int))) => match x with | (x11, x12, x13, yl) => ⟨[(5, [], pt (ν1 0) 0), (6, [], pt (ν1 1) 0), (7, [], pt (ν6 0) 0), (10, [], pt (ν14 0) 0), (11, [], vi x11), (12, [], vi x12), (13, [], vi x13)], [(0, .fn 0 64 dbT), ((ν1 0), .cells [v8 stop] 5), ((ν1 1), .cells [vb false] 4), (gs, .fn os (os + (((capN length) + 63) / 64)) (u64s wsx os)), ((ν6 0), .cells [vi (((capN length) : Nat) : Int), sc gs os (((capN length) + 63) / 64) cs] 46), ((ν14 0), .cells [vnil] 70)], [], (RowI px (capN length) x13 x12 x11 yl) ∧ True, yl.length⟩) (0, (-1), 0, (runs px (capN length))) ⟨(by exact RowI.zero _ _), trivial⟩ hS ?_
    clear hS
    rintro ⟨x11, x12, x13, yl⟩ ⟨i1, -⟩ ac wd hS
    replace i1 : RowI px (capN length) x13 x12 x11 yl := i1
    have hrl := i1.len
    have hrb := i1.le
    refine wp_seq ?_
    refine hS.regS [0, 20, 500, 0, 0] [5, 6, 7, 10, 11, 12, 13] fun _ => seg [(52, vb (decide (((x13 + 1) : Int) < 0)))] [(0, none), (1, none), (2, none), (3, none), (4, none), (5, none)] [.e (ν14 0), .p (fit .i64 (x13 + 1))] ⟨fit_i64 (by omega), trivial⟩ fun ac wd hS => ?_
    refine hS.condK (decide (((x13 + 1) : Int) < 0)) false (by exact decide_eq_false (by have h9_ := i1.len; rw [hne] at h9_; have h8_ : (flat ([] : List (Int × Int))).length = 0 := rfl; omega)) ?_
    show Code.wp _ _ _ _ _
    refine wp_exit ?_
    refine pop_then_exit ?_
    refine pop_then_exit ?_
    refine pop_block_hit ?_
    refine pop_then ?_
    refine hS.regS [0, 600] [5, 6, 7, 10, 11] fun ν18 => seg [(16, pt (ν18 0) 0)] [(0, none), (1, none), (2, none), (3, none), (4, none), (5, none), (6, some ((ν18 0), .cells [vi 0] 3))] [.e (ν18 0)] trivial fun ac wd hS => ?_
    refine wp_seq ?_
    refine wp_region_seq ?_
    refine hS.opsC 1 [400] [5, 6, 7, 10, 11, 16] fun _ => seg [(101, .agg #[vi (((capN length) : Nat) : Int), sc gs os (((capN length) + 63) / 64) cs])] [(0, none), (1, none), (2, none), (3, none), (4, none), (5, none), (6, none)] [.e (ν6 0), .e (ν6 0)] trivial fun ac wd hS => ?_
    refine hS.callC 44 #[.agg #[vi (((capN length) : Nat) : Int), sc gs os (((capN length) + 63) / 64) cs]] (bits_RowsK gs os cs (((capN length) + 63) / 64) wsx (capN length) px _ (hS.mem.get 3 gs (.fn os (os + (((capN length) + 63) / 64)) (u64s wsx os))) ) ?_
    rintro _ wd ⟨bn14, rfl, hog0, hoh0, hF⟩
    have ho15 : w.heap.size ≤ bn14 := Nat.le_trans hS.mem.fr.size hog0
    refine ⟨.func (.func 103) #[] #[pt bn14 0], rfl, ?_⟩
    replace hS := (hS.to (hS.mem.outs hF [(bn14, .fn 0 2 (roF [vi (((capN length) : Nat) : Int), sc gs os (((capN length) + 63) / 64) cs]))] ⟨⟨rfl, hoh0, .inr hog0⟩, trivial⟩)).put (d := 102) (v := .func (.func 103) #[] #[pt bn14 0]) (by decide)
    clear hF
    refine list_nil_seq ?_
    refine wp_block ?_
    refine St.rangeRows (bi := 4) (p1 := 103) (p2 := 104) (q1 := 17) (q2 := 18) hS bn14 gs os cs (((capN length) + 63) / 64) wsx (capN length) px hWx (capN_le _) stop (by omega) (show Act.eval _ (.tmp 102) = _ from hS.env.at (look_mem (t := 102) (cs := []) (v := .func (.func 103) #[] #[pt bn14 0]) (by as_aux_lemma => kernel_rfl)) (fun p_ hp_ => nomatch hp_)) (RdS.of (hS.mem.get 7 bn14 (.fn 0 2 (roF [vi (((capN length) : Nat) : Int), sc gs os (((capN length) + 63) / 64) cs]))) (hS.mem.get 0 0 (.fn 0 64 dbT)) (hS.mem.get 3 gs (.fn os (os + (((capN length) + 63) / 64)) (u64s wsx os)))) 6 (ν18 0) 3 (by as_aux_lemma => kernel_rfl) (fun r_ x_ W_ K_ h_ => wpIn_seq (wpIn_assign1 rfl rfl (wpIn_assign1 rfl rfl h_))) (fun r_ k_ x_ W_ hWk hle hlt => ?_) (fun D_ k_ W_ hkk hS => ?_)
    ·
     rw [hne] at hlt; exact absurd hlt (Nat.not_lt_zero _)
    ·
     have hfl9 := flat_len (runs px (capN length))
     refine pop_then ?_
     refine St.ordBeginS [(0, 1), (1, 1), (2, 0), (3, 0), (4, 1), (5, 1), (6, 1), (7, 1), (8, 1)] [(0, .fn 0 64 dbT), ((ν1 0), .cells [v8 stop] 5), ((ν1 1), .cells [vb false] 4), (gs, .fn os (os + (((capN length) + 63) / 64)) (u64s wsx os)), ((ν6 0), .cells [vi (((capN length) : Nat) : Int), sc gs os (((capN length) + 63) / 64) cs] 46), ((ν14 0), .cells [vnil] 70), ((ν18 0), .cells [vi ((k_ : Nat) : Int)] 3), (bn14, .fn 0 2 (roF [vi (((capN length) : Nat) : Int), sc gs os (((capN length) + 63) / 64) cs]))] [0, 1, 2, 3, 4, 5, 6, 7] hS fun wd hS => ?_
     have hap := hS.mem.pairs (Hf := [(0, .fn 0 64 dbT), ((ν1 0), .cells [v8 stop] 5), ((ν1 1), .cells [vb false] 4), (gs, .fn os (os + (((capN length) + 63) / 64)) (u64s wsx os)), ((ν6 0), .cells [vi (((capN length) : Nat) : Int), sc gs os (((capN length) + 63) / 64) cs] 46), ((ν14 0), .cells [vnil] 70), ((ν18 0), .cells [vi ((k_ : Nat) : Int)] 3), (bn14, .fn 0 2 (roF [vi (((capN length) : Nat) : Int), sc gs os (((capN length) + 63) / 64) cs]))]) (l := [0, 1, 2, 3, 4, 5, 6, 7])
     refine St.ordF [400, 400] [0, 1] [5, 6, 10, 11, 16] (rest := [(2, 0), (3, 0), (4, 1), (5, 1), (6, 1), (7, 1), (8, 1)]) hS hap <| segF [(129, .agg #[vi (((capN length) : Nat) : Int), sc gs os (((capN length) + 63) / 64) cs]), (130, .agg #[vi (((capN length) : Nat) : Int), sc gs os (((capN length) + 63) / 64) cs])] [.e (ν6 0), .e (ν6 0), .e (ν6 0), .e (ν6 0)] trivial fun ac hS => ?_
     refine hS.ordC 2 45 #[.agg #[vi (((capN length) : Nat) : Int), sc gs os (((capN length) + 63) / 64) cs]] (bits_Len_ gs os cs (((capN length) + 63) / 64) (capN length) _  ) ?_
     rintro _ wd ⟨rfl, hF⟩
     refine ⟨vi (((capN length) : Nat) : Int), rfl, ?_⟩
     replace hS := (hS.to (hS.mem.keep0 hF)).put (d := 131) (v := vi (((capN length) : Nat) : Int)) (by decide)
     clear hF
     refine hS.ordV (l := [0, 1, 2, 3, 4, 5, 6, 7]) ?_
     refine hS.ordC 3 17 #[.agg #[vi (((capN length) : Nat) : Int), sc gs os (((capN length) + 63) / 64) cs], vi 0, vi (((capN length) : Nat) : Int)] (bits_Count gs os cs (((capN length) + 63) / 64) wsx (capN length) 0 (((capN length) : Nat) : Int) px _ (hS.mem.get 3 gs (.fn os (os + (((capN length) + 63) / 64)) (u64s wsx os))) (by exact hWx) (by exact capN_le _)) ?_
     rintro _ wd ⟨rfl, hF⟩
     refine ⟨.tuple #[vi (cntV px (capN length) 0 (((capN length) : Nat) : Int)), vi (trnE (capN length) 0 (((capN length) : Nat) : Int))], rfl, ?_⟩
     replace hS := (hS.to (hS.mem.keep0 hF)).put (d := 132) (v := .tuple #[vi (cntV px (capN length) 0 (((capN length) : Nat) : Int)), vi (trnE (capN length) 0 (((capN length) : Nat) : Int))]) (by decide)
     clear hF
     refine hS.ordV (l := [0, 1, 2, 3, 4, 5, 6, 7]) ?_
     refine St.ordF [0, 0, 0, 0, 0] [4, 5, 6, 7, 8] [5, 6, 10, 11, 16] (rest := []) hS hap <| segF [(19, vi (cntV px (capN length) 0 (((capN length) : Nat) : Int))), (20, vi (trnE (capN length) 0 (((capN length) : Nat) : Int)))] [] trivial fun ac hS => ?_
     refine ord_nil ?_
     refine hS.regS [0, fx 0 (vb true), 0, 1, 1, fx 1 (vb true), 70, 0, 601, 101, 21, 21, 501, 1, 1, 1, fx 1 (vb true), 70, 200] [6] fun _ => seg [] [(0, none), (2, some ((ν1 1), .cells [vb true] 4))] [.e (ν1 1), .t true, .t true, .p ((vb ((((k_ : Nat) : Int) : Int) == (imin (stop + 1) 0)) : Value) = vb true), .t true, .t true, .t true, .t true, .e (ν14 0), .t true, .p (fit .i64 (stop + 1)), .t true, .p (fit .i64 stop), .t true, .e (ν1 0), .t true, .e (ν18 0), .t true, .t true, .p ((vb (((cntV px (capN length) 0 (((capN length) : Nat) : Int)) : Int) == x11) : Value) = vb true), .t true, .t true, .p ((vb (((trnE (capN length) 0 (((capN length) : Nat) : Int)) : Int) == 0) : Value) = vb true)] ⟨(congrArg Value.bool (by (unfold imin; split <;> exact beq_iff_eq.2 (by first | omega | (rw [hne] at hkk; simp at hkk; omega))))), fit_i64 (by omega), fit_i64 (by omega), (congrArg Value.bool (by (first | (rw [hend]; exact beq_self_eq_true _) | (rw [i1.end_ (by have h_ := i1.len; have h9_ : (flat (runs px (capN length))).length = 0 := (by rw [hne]; rfl); omega)]; exact beq_self_eq_true _)))), (congrArg Value.bool (by (rw [(cnt_allI px (capN length)).2]; rfl))), trivial⟩ fun ac wd hS => ?_
     refine wp_ret ?_
     refine St.retM1 1 hS (vb true) [.e (ν1 1)] trivial fun hw => ?_
     refine ⟨retd rfl, hw.fr0⟩
   ·
    refine wp_region_seq ?_
    refine hS.opsC 1 [500] [5, 6, 7] fun _ => seg [(46, .agg #[vi (((capN length) : Nat) : Int), sc gs os (((capN length) + 63) / 64) cs])] [(0, none), (2, none), (3, none), (4, none), (5, none)] [.e (ν6 0), .e (ν6 0)] trivial fun ac wd hS => ?_
    refine hS.callC 43 #[.agg #[vi (((capN length) : Nat) : Int), sc gs os (((capN length) + 63) / 64) cs]] (rows_someQ gs os cs (((capN length) + 63) / 64) wsx (capN length) px _ (hS.mem.get 0 0 (.fn 0 64 dbT)) (hS.mem.get 3 gs (.fn os (os + (((capN length) + 63) / 64)) (u64s wsx os))) (by exact hWx) (by exact capN_le _) (by exact hne)) ?_
    rintro _ wd ⟨g216, c217, rfl, hog0, hoh0, hF⟩
    have ho18 : w.heap.size ≤ g216 := Nat.le_trans hS.mem.fr.size hog0
    refine ⟨sc g216 0 ((flat (runs px (capN length))).length) c217, rfl, ?_⟩
    replace hS := (hS.to (hS.mem.outs hF [(g216, .fn 0 (0 + (flat (runs px (capN length))).length) (ints (flat (runs px (capN length))) 0))] ⟨⟨rfl, hoh0, .inr hog0⟩, trivial⟩)).put (d := 47) (v := sc g216 0 ((flat (runs px (capN length))).length) c217) (by decide)
    clear hF
    refine hS.opsC 2 [0, 600] [5, 6, 7] fun ν22 => seg [(10, pt (ν22 0) 0)] [(0, none), (1, none), (2, none), (3, none), (4, none), (5, none), (6, some ((ν22 0), .cells [sc g216 0 ((flat (runs px (capN length))).length) c217] 70))] [.e (ν22 0)] trivial fun ac wd hS => ?_
    refine list_nil_seq ?_
    refine hS.regS [0, 0] [5, 6, 7, 10] fun _ => seg [(11, vi 0), (12, vi (-1))] [(0, none), (1, none), (2, none), (3, none), (4, none), (5, none), (6, none)] [] trivial fun ac wd hS => ?_
    refine wp_seq ?_
    refine hS.regS [0] [5, 6, 7, 10, 11, 12] fun _ => seg [(13, vi 0)] [(0, none), (1, none), (2, none), (3, none), (4, none), (5, none), (6, none)] [] trivial fun ac wd hS => ?_
    refine wp_block ?_
    refine St.loopC (σ := Int × Int × Int × (List (Int × Int))) (fun (x : Int × Int × Int × (List (Int × Int))) => match x with | (x11, x12, x13, yl) => ⟨[(5, [], pt (ν1 0) 0), (6, [], pt (ν1 1) 0), (7, [], pt (ν6 0) 0), (10, [], pt (ν22 0) 0), (11, [], vi x11), (12, [], vi x12), (13, [], vi x13)], [(0, .fn 0 64 dbT), ((ν1 0), .cells [v8 stop] 5), ((ν1 1), .cells [vb false] 4), (gs, .fn os (os + (((capN length) + 63) / 64)) (u64s wsx os)), ((ν6 0), .cells [vi (((capN length) : Nat) : Int), sc gs os (((capN length) + 63) / 64) cs] 46), (g216, .fn 0 (0 + (flat (runs px (capN length))).length) (ints (flat (runs px (capN length))) 0)), ((ν22 0), .cells [sc g216 0 ((flat (runs px (capN length))).length) c217] 70)], [], (RowI px (capN length) x13 x12 x11 yl) ∧ True, yl.length⟩) (0, (-1), 0, (runs px (capN length))) ⟨(by exact RowI.zero _ _), trivial⟩ hS ?_
    clear hS
    rintro ⟨x11, x12, x13, yl⟩ ⟨i1, -⟩ ac wd hS
    replace i1 : RowI px (capN length) x13 x12 x11 yl := i1
    have hrl := i1.len
    have hrb := i1.le
    refine wp_seq ?_
    refine hS.regS [0, 20, 600, 0, 0] [5, 6, 7, 10, 11, 12, 13] fun _ => seg [(52, vb (decide (((x13 + 1) : Int) < ((((flat (runs px (capN length))).length) : Nat) : Int))))] [(0, none), (1, none), (2, none), (3, none), (4, none), (5, none), (6, none)] [.e (ν22 0), .p (fit .i64 (x13 + 1))] ⟨fit_i64 (by omega), trivial⟩ fun ac wd hS => ?_
    refine hS.condC (decide (((x13 + 1) : Int) < ((((flat (runs px (capN length))).length) : Nat) : Int))) (fun hb19o hb19 => ?_) (fun hb19o hb19 => ?_)
    ·
     obtain ⟨ra, rn, rL, hyl, hg1, hg2, ⟨hr1, hr2, hr3, hr4, hr5, hr6⟩, hrI⟩ := i1.hd (by omega)
     have hbd := hrI.le
     refine wp_skip ?_
     refine pop_then ?_
     refine wp_seq ?_
     refine wp_block ?_
     refine St.ordBeginS [(0, 1), (1, 1), (2, 1), (3, 1), (4, 1), (5, 1), (6, 1), (7, 1), (8, 1), (9, 1), (10, 0), (11, 1), (12, 1), (13, 1), (14, 1), (15, 1)] [(0, .fn 0 64 dbT), ((ν1 0), .cells [v8 stop] 5), ((ν1 1), .cells [vb false] 4), (gs, .fn os (os + (((capN length) + 63) / 64)) (u64s wsx os)), ((ν6 0), .cells [vi (((capN length) : Nat) : Int), sc gs os (((capN length) + 63) / 64) cs] 46), (g216, .fn 0 (0 + (flat (runs px (capN length))).length) (ints (flat (runs px (capN length))) 0)), ((ν22 0), .cells [sc g216 0 ((flat (runs px (capN length))).length) c217] 70)] [0, 1, 2, 3, 4, 5, 6] hS fun wd hS => ?_
     have hap := hS.mem.pairs (Hf := [(0, .fn 0 64 dbT), ((ν1 0), .cells [v8 stop] 5), ((ν1 1), .cells [vb false] 4), (gs, .fn os (os + (((capN length) + 63) / 64)) (u64s wsx os)), ((ν6 0), .cells [vi (((capN length) : Nat) : Int), sc gs os (((capN length) + 63) / 64) cs] 46), (g216, .fn 0 (0 + (flat (runs px (capN length))).length) (ints (flat (runs px (capN length))) 0)), ((ν22 0), .cells [sc g216 0 ((flat (runs px (capN length))).length) c217] 70)]) (l := [0, 1, 2, 3, 4, 5, 6])
     refine St.ordF [400, 600, 0, 10, fx 500 (vi ra), 600, 0, 20, 10, fx 500 (vi rn)] [0, 1, 2, 3, 4, 5, 6, 7, 8, 9] [5, 6, 7, 10, 11, 12, 13] (rest := [(10, 0), (11, 1), (12, 1), (13, 1), (14, 1), (15, 1)]) hS hap <| segF [(56, .agg #[vi (((capN length) : Nat) : Int), sc gs os (((capN length) + 63) / 64) cs]), (60, vi ra), (65, vi rn)] [.p ((((ints (flat (runs px (capN length))) 0) (Int.toNat (x13 + 1))) : Value) = vi rn), .e g216, .p (0 ≤ Int.toNat (x13 + 1) ∧ Int.toNat (x13 + 1) < (0 + (flat (runs px (capN length))).length)), .p ((0 : Int) ≤ (x13 + 1) ∧ ((x13 + 1) : Int) < ((((flat (runs px (capN length))).length) : Nat) : Int)), .p (fit .i64 (x13 + 1)), .e (ν22 0), .p ((((ints (flat (runs px (capN length))) 0) (Int.toNat x13)) : Value) = vi ra), .e g216, .p (0 ≤ Int.toNat x13 ∧ Int.toNat x13 < (0 + (flat (runs px (capN length))).length)), .p ((0 : Int) ≤ x13 ∧ (x13 : Int) < ((((flat (runs px (capN length))).length) : Nat) : Int)), .e (ν22 0), .e (ν6 0), .e (ν6 0)] ⟨((ints_abs (flat (runs px (capN length))) (Int.toNat (x13 + 1))).trans (vint hg2)), (by omega), (by omega), fit_i64 (by omega), ((ints_abs (flat (runs px (capN length))) (Int.toNat x13)).trans (vint hg1)), (by omega), (by omega), trivial⟩ fun ac hS => ?_
     refine hS.ordC 10 17 #[.agg #[vi (((capN length) : Nat) : Int), sc gs os (((capN length) + 63) / 64) cs], vi ra, vi rn] (bits_CountR gs os cs (((capN length) + 63) / 64) wsx (capN length) ra rn px _ (hS.mem.get 3 gs (.fn os (os + (((capN length) + 63) / 64)) (u64s wsx os))) (by exact hWx) (by exact capN_le _) (by exact hr5) (by exact hr6)) ?_
     rintro _ wd ⟨rfl, hF⟩
     refine ⟨.tuple #[vi rn, vi 0], rfl, ?_⟩
     replace hS := (hS.to (hS.mem.keep0 hF)).put (d := 66) (v := .tuple #[vi rn, vi 0]) (by decide)
     clear hF
     refine hS.ordV (l := [0, 1, 2, 3, 4, 5, 6]) ?_
     refine St.ordF [0, 0, 0, 0, 0] [11, 12, 13, 14, 15] [5, 6, 7, 10, 11, 12, 13] (rest := []) hS hap <| segF [(14, vi rn), (15, vi 0)] [] trivial fun ac hS => ?_
     refine ord_nil ?_
     refine wp_seq ?_
     refine hS.regS [0, 0, 0, 1, 601, 1, 21, 11, fx 501 (vi rn), fx 1 (vb false), 60, 0, 1, 1, 60, 0, 603, 3, 13, fx 503 (vi ra), 3, fx 3 (vb false), 80] [5, 6, 7, 10, 11, 13, 14] fun _ => seg [(91, vb ((decide ((rn : Int) < 1)) || false))] [(0, none), (1, none), (2, none), (3, none), (4, none), (5, none), (6, none)] [.p ((((decide ((rn : Int) < 1)) = false) ∧ True) → AllP [(vb (decide ((ra : Int) ≤ x12)) : Value) = vb false]), .p ((((decide ((rn : Int) < 1)) = false) ∧ True) → AllP [(((ints (flat (runs px (capN length))) 0) (Int.toNat x13)) : Value) = vi ra, (g216 : Nat) = g216, 0 ≤ Int.toNat x13 ∧ Int.toNat x13 < (0 + (flat (runs px (capN length))).length)]), .p ((((decide ((rn : Int) < 1)) = false) ∧ True) → AllP [(0 : Int) ≤ x13 ∧ (x13 : Int) < ((((flat (runs px (capN length))).length) : Nat) : Int)]), .p ((((decide ((rn : Int) < 1)) = false) ∧ True) → AllP [((ν22 0) : Nat) = (ν22 0)]), .t false, .t false, .t false, .t false, .t false, .p ((vb ((rn : Int) != rn) : Value) = vb false), .t false, .p ((((ints (flat (runs px (capN length))) 0) (Int.toNat (x13 + 1))) : Value) = vi rn), .e g216, .p (0 ≤ Int.toNat (x13 + 1) ∧ Int.toNat (x13 + 1) < (0 + (flat (runs px (capN length))).length)), .t false, .p ((0 : Int) ≤ (x13 + 1) ∧ ((x13 + 1) : Int) < ((((flat (runs px (capN length))).length) : Nat) : Int)), .t false, .p (fit .i64 (x13 + 1)), .t false, .t false, .e (ν22 0), .t false] ⟨(fun ⟨hc0, _⟩ => by replace hc0 := nrm hc0; exact ⟨(congrArg Value.bool (by exact decide_eq_false (by omega))), trivial⟩), (fun ⟨hc0, _⟩ => by replace hc0 := nrm hc0; exact ⟨((ints_abs (flat (runs px (capN length))) (Int.toNat x13)).trans (vint hg1)), rfl, (by omega), trivial⟩), (fun ⟨hc0, _⟩ => by replace hc0 := nrm hc0; exact ⟨(by omega), trivial⟩), (fun ⟨hc0, _⟩ => by replace hc0 := nrm hc0; exact ⟨rfl, trivial⟩), (congrArg Value.bool (bne_self_eq_false _)), ((ints_abs (flat (runs px (capN length))) (Int.toNat (x13 + 1))).trans (vint hg2)), (by omega), (by omega), fit_i64 (by omega), trivial⟩ fun ac wd hS => ?_
     refine hS.condK ((decide ((rn : Int) < 1)) || false) false (by (rw [decide_eq_false (show ¬ (rn : Int) < 1 by omega)]; rfl)) ?_
     show Code.wp _ _ _ _ _
     refine wp_skip ?_
     refine pop_then ?_
     refine hS.drawC [0, 0, 20, 600, 0, 10, fx 500 (vi ra), 0, 20, 0, 0] [5, 6, 7, 10, 13] <| seg [(11, vi (x11 + rn)), (12, vi (ra + rn))] [(0, none), (1, none), (2, none), (3, none), (4, none), (5, none), (6, none)] [.p (fit .i64 (ra + rn)), .p ((((ints (flat (runs px (capN length))) 0) (Int.toNat x13)) : Value) = vi ra), .e g216, .p (0 ≤ Int.toNat x13 ∧ Int.toNat x13 < (0 + (flat (runs px (capN length))).length)), .p ((0 : Int) ≤ x13 ∧ (x13 : Int) < ((((flat (runs px (capN length))).length) : Nat) : Int)), .e (ν22 0), .p (fit .i64 (x11 + rn))] ⟨fit_i64 (by omega), ((ints_abs (flat (runs px (capN length))) (Int.toNat x13)).trans (vint hg1)), (by omega), (by omega), fit_i64 (by omega), trivial⟩ fun ac wd hS => ?_
     refine pop_block ?_
     refine pop_then ?_
     refine hS.regC [0, 20, 0] [5, 6, 7, 10, 11, 12] fun _ => seg [(13, vi (x13 + 2))] [(0, none), (1, none), (2, none), (3, none), (4, none), (5, none), (6, none)] [.p (fit .i64 (x13 + 2))] ⟨fit_i64 (by omega), trivial⟩ fun ac wd hS => ?_
     exact pop_then (hS.next ((x11 + rn), (ra + rn), (x13 + 2), rL) ⟨(by exact hrI), trivial⟩ (by (dsimp only; rw [hyl]; simp)))
    ·
     have hend := i1.end_ (by first | omega | (rw [hne]; show (0 : Int) ≤ _; omega))
     refine wp_exit ?_
     refine pop_then_exit ?_
     refine pop_then_exit ?_
     refine pop_block_hit ?_
     refine pop_then ?_
     refine hS.regS [0, 700] [5, 6, 7, 10, 11] fun ν29 => seg [(16, pt (ν29 0) 0)] [(0, none), (1, none), (2, none), (3, none), (4, none), (5, none), (6, none), (7, some ((ν29 0), .cells [vi 0] 3))] [.e (ν29 0)] trivial fun ac wd hS => ?_
     refine wp_seq ?_
     refine wp_region_seq ?_
     refine hS.opsC 1 [400] [5, 6, 7, 10, 11, 16] fun _ => seg [(101, .agg #[vi (((capN length) : Nat) : Int), sc gs os (((capN length) + 63) / 64) cs])] [(0, none), (1, none), (2, none), (3, none), (4, none), (5, none), (6, none), (7, none)] [.e (ν6 0), .e (ν6 0)] trivial fun ac wd hS => ?_
     refine hS.callC 44 #[.agg #[vi (((capN length) : Nat) : Int), sc gs os (((capN length) + 63) / 64) cs]] (bits_RowsK gs os cs (((capN length) + 63) / 64) wsx (capN length) px _ (hS.mem.get 3 gs (.fn os (os + (((capN length) + 63) / 64)) (u64s wsx os))) ) ?_
     rintro _ wd ⟨bn20, rfl, hog0, hoh0, hF⟩
     have ho21 : w.heap.size ≤ bn20 := Nat.le_trans hS.mem.fr.size hog0
     refine ⟨.func (.func 103) #[] #[pt bn20 0], rfl, ?_⟩
     replace hS := (hS.to (hS.mem.outs hF [(bn20, .fn 0 2 (roF [vi (((capN length) : Nat) : Int), sc gs os (((capN length) + 63) / 64) cs]))] ⟨⟨rfl, hoh0, .inr hog0⟩, trivial⟩)).put (d := 102) (v := .func (.func 103) #[] #[pt bn20 0]) (by decide)
     clear hF
     refine list_nil_seq ?_
     refine wp_block ?_
     refine St.rangeRows (bi := 4) (p1 := 103) (p2 := 104) (q1 := 17) (q2 := 18) hS bn20 gs os cs (((capN length) + 63) / 64) wsx (capN length) px hWx (capN_le _) stop (by omega) (show Act.eval _ (.tmp 102) = _ from hS.env.at (look_mem (t := 102) (cs := []) (v := .func (.func 103) #[] #[pt bn20 0]) (by as_aux_lemma => kernel_rfl)) (fun p_ hp_ => nomatch hp_)) (RdS.of (hS.mem.get 8 bn20 (.fn 0 2 (roF [vi (((capN length) : Nat) : Int), sc gs os (((capN length) + 63) / 64) cs]))) (hS.mem.get 0 0 (.fn 0 64 dbT)) (hS.mem.get 3 gs (.fn os (os + (((capN length) + 63) / 64)) (u64s wsx os)))) 7 (ν29 0) 3 (by as_aux_lemma => kernel_rfl) (fun r_ x_ W_ K_ h_ => wpIn_seq (wpIn_assign1 rfl rfl (wpIn_assign1 rfl rfl h_))) (fun r_ k_ x_ W_ hWk hle hlt => ?_) (fun D_ k_ W_ hkk hS => ?_)
     ·
      have hw16 := hWk.get 7 (ν29 0) (.cells [vi ((k_ : Nat) : Int)] 3)
      have hw6 := (hWk.get 2 (ν1 1) (.cells [vb false] 4))
      have hB0 := WS.startMM (H := [(g216, .fn 0 (0 + (flat (runs px (capN length))).length) (ints (flat (runs px (capN length))) 0)), ((ν22 0), .fn 0 1 (roF [sc g216 0 ((flat (runs px (capN length))).length) c217])), ((ν1 0), .fn 0 1 (roF [v8 stop]))]) hw16 hw6 ⟨⟨rfl, (hWk.get 5 g216 (.fn 0 (0 + (flat (runs px (capN length))).length) (ints (flat (runs px (capN length))) 0)))⟩, ⟨rfl, HE.ro (hWk.get 6 (ν22 0) (.cells [sc g216 0 ((flat (runs px (capN length))).length) c217] 70))⟩, ⟨rfl, HE.ro (hWk.get 1 (ν1 0) (.cells [v8 stop] 5))⟩, trivial⟩ ⟨hWk.neq 5 7, hWk.neq 6 7, hWk.neq 1 7, trivial⟩ ⟨hWk.neq 5 2, hWk.neq 6 2, hWk.neq 1 2, trivial⟩ (hWk.neq 7 2)
      have hfl := flat_len (runs px (capN length))
      obtain ⟨y9, hy9⟩ : ∃ q_, q_ = List.getD (runs px (capN length)) k_ ((0, 0) : Int × Int) := ⟨_, rfl⟩
      obtain ⟨hA8, hB8⟩ := flat_get hlt
      have hy8 : y9 = ((runs px (capN length)))[k_] := by rw [hy9, List.getD_eq_getElem?_getD, List.getElem?_eq_getElem hlt]; rfl
      have hA9 : List.getD (flat (runs px (capN length))) (Int.toNat (2 * ((k_ : Nat) : Int))) 0 = y9.1 := by rw [show Int.toNat (2 * ((k_ : Nat) : Int)) = 2 * k_ by omega, hA8, hy8]
      have hB9 : List.getD (flat (runs px (capN length))) (Int.toNat ((2 * ((k_ : Nat) : Int)) + 1)) 0 = y9.2 := by rw [show Int.toNat ((2 * ((k_ : Nat) : Int)) + 1) = 2 * k_ + 1 by omega, hB8, hy8]
      have hS := hS.asg2 103 104 17 18 (vi x_.1) (vi x_.2) (by decide) hB0 rfl
      refine wpIn_block ?_
      refine wpIn_seq ?_
      refine hS.regIS [0, 100, 300, 20, 10, fx 0 (vi y9.1), 0, 0, 3, 103, 303, 23, 23, 13, fx 3 (vi y9.2), 3, 80] [5, 6, 16] fun _ => seg [(121, vb (((x_.1 : Int) != y9.1) || ((x_.2 : Int) != y9.2)))] [(2, none), (3, none), (4, none)] [.p (((((x_.1 : Int) != y9.1) = false) ∧ True) → AllP [(((ints (flat (runs px (capN length))) 0) (Int.toNat ((2 * ((k_ : Nat) : Int)) + 1))) : Value) = vi y9.2, (g216 : Nat) = g216, 0 ≤ Int.toNat ((2 * ((k_ : Nat) : Int)) + 1) ∧ Int.toNat ((2 * ((k_ : Nat) : Int)) + 1) < (0 + (flat (runs px (capN length))).length)]), .p (((((x_.1 : Int) != y9.1) = false) ∧ True) → AllP [(0 : Int) ≤ ((2 * ((k_ : Nat) : Int)) + 1) ∧ (((2 * ((k_ : Nat) : Int)) + 1) : Int) < ((((flat (runs px (capN length))).length) : Nat) : Int)]), .p (((((x_.1 : Int) != y9.1) = false) ∧ True) → AllP [fit .i64 ((2 * ((k_ : Nat) : Int)) + 1)]), .p (((((x_.1 : Int) != y9.1) = false) ∧ True) → AllP [fit .i64 (2 * ((k_ : Nat) : Int))]), .p (((((x_.1 : Int) != y9.1) = false) ∧ True) → AllP [((ν29 0) : Nat) = (ν29 0)]), .p (((((x_.1 : Int) != y9.1) = false) ∧ True) → AllP [((ν22 0) : Nat) = (ν22 0), 0 ≤ 0 ∧ 0 < 1]), .p ((((ints (flat (runs px (capN length))) 0) (Int.toNat (2 * ((k_ : Nat) : Int)))) : Value) = vi y9.1), .e g216, .p (0 ≤ Int.toNat (2 * ((k_ : Nat) : Int)) ∧ Int.toNat (2 * ((k_ : Nat) : Int)) < (0 + (flat (runs px (capN length))).length)), .p ((0 : Int) ≤ (2 * ((k_ : Nat) : Int)) ∧ ((2 * ((k_ : Nat) : Int)) : Int) < ((((flat (runs px (capN length))).length) : Nat) : Int)), .p (fit .i64 (2 * ((k_ : Nat) : Int))), .e (ν29 0), .e (ν22 0), .p (0 ≤ 0 ∧ 0 < 1)] ⟨(fun ⟨hc0, _⟩ => by replace hc0 := nrm hc0; exact ⟨((ints_abs (flat (runs px (capN length))) (Int.toNat ((2 * ((k_ : Nat) : Int)) + 1))).trans (vint hB9)), rfl, (by omega), trivial⟩), (fun ⟨hc0, _⟩ => by replace hc0 := nrm hc0; exact ⟨(by omega), trivial⟩), (fun ⟨hc0, _⟩ => by replace hc0 := nrm hc0; exact ⟨fit_i64 (by omega), trivial⟩), (fun ⟨hc0, _⟩ => by replace hc0 := nrm hc0; exact ⟨fit_i64 (by omega), trivial⟩), (fun ⟨hc0, _⟩ => by replace hc0 := nrm hc0; exact ⟨rfl, trivial⟩), (fun ⟨hc0, _⟩ => by replace hc0 := nrm hc0; exact ⟨rfl, (by decide), trivial⟩), ((ints_abs (flat (runs px (capN length))) (Int.toNat (2 * ((k_ : Nat) : Int)))).trans (vint hA9)), (by omega), (by omega), fit_i64 (by omega), (by decide), trivial⟩ fun ac wd hS => ?_
      refine hS.condCI (((x_.1 : Int) != y9.1) || ((x_.2 : Int) != y9.2)) (fun hb22o hb22 => ?_) (fun hb22o hb22 => ?_)
      ·
       have hx9 := hb22
       refine hS.regIS [200] [] fun _ => seg [] [] [.e (ν1 1)] trivial fun ac wd hS => ?_
       refine wpIn_ret ?_
       refine pop_then_ret ?_
       refine pop_block_ret ?_
       have hF9 := hS.mem.fr0
       exact ⟨keeps_of hF9 hw16 hw6 _, .inr (.inr ⟨rfl, fun e_ => by rw [← hy9] at e_; subst e_; simp at hx9⟩)⟩
      ·
       refine wpIn_skip ?_
       refine pop_then ?_
       refine hS.regIS [100, 20, 100] [5, 6, 16] fun _ => seg [] [(0, none), (1, some ((ν29 0), .cells [vi (((k_ : Nat) : Int) + 1)] 3)), (2, none)] [.e (ν29 0), .p (fit .i64 (((k_ : Nat) : Int) + 1)), .e (ν29 0)] ⟨fit_i64 (by omega), trivial⟩ fun ac wd hS => ?_
       refine hS.regIS [100, 0, 20, 0] [6, 16] fun _ => seg [(127, vb (decide ((stop : Int) < (((k_ : Nat) : Int) + 1))))] [(1, none), (2, none)] [.p (fit .i64 stop), .e (ν1 0), .p (0 ≤ 0 ∧ 0 < 1), .e (ν29 0)] ⟨fit_i64 (by omega), (by decide), trivial⟩ fun ac wd hS => ?_
       refine hS.condCI (decide ((stop : Int) < (((k_ : Nat) : Int) + 1))) (fun hb23o hb23 => ?_) (fun hb23o hb23 => ?_)
       ·
        refine wpIn_exit ?_
        refine pop_block_miss rfl ?_
        have hF9 := hS.mem.fr0
        have hM9 := hS.mem.get 0 (ν29 0) (.cells [vi (((k_ : Nat) : Int) + 1)] 3)
        rw [show (((k_ : Nat) : Int) + 1) = ((k_ + 1 : Nat) : Int) by omega] at hM9
        have hM8 := hS.mem.get 1 (ν1 1) (.cells [vb false] 4)
        have hW9 := hWk.stepMM 7 2 (by decide) (show _ = some ((ν29 0), .cells [vi ((k_ : Nat) : Int)] 3) by as_aux_lemma => kernel_rfl) (show _ = some ((ν1 1), .cells [vb false] 4) by as_aux_lemma => kernel_rfl) rfl rfl rfl rfl hM9 hM8 hF9
        exact ⟨keeps_of hF9 hw16 hw6 _, .inr (.inl ⟨rfl, hW9, by omega⟩)⟩
       ·
        refine wpIn_skip ?_
        refine pop_block ?_
        have hF9 := hS.mem.fr0
        have hM9 := hS.mem.get 0 (ν29 0) (.cells [vi (((k_ : Nat) : Int) + 1)] 3)
        rw [show (((k_ : Nat) : Int) + 1) = ((k_ + 1 : Nat) : Int) by omega] at hM9
        have hM8 := hS.mem.get 1 (ν1 1) (.cells [vb false] 4)
        have hW9 := hWk.stepMM 7 2 (by decide) (show _ = some ((ν29 0), .cells [vi ((k_ : Nat) : Int)] 3) by as_aux_lemma => kernel_rfl) (show _ = some ((ν1 1), .cells [vb false] 4) by as_aux_lemma => kernel_rfl) rfl rfl rfl rfl hM9 hM8 hF9
        refine ⟨keeps_of hF9 hw16 hw6 _, .inl ⟨rfl, keepK_of hF9 (fun q_ hq_ => ?_), hW9, by omega⟩⟩
        rcases hq_ with e_ | e_ | e_
        · rw [e_]; exact ⟨(hWk.get 0 0 (.fn 0 64 dbT)).lt, hWk.neq 0 7, hWk.neq 0 2⟩
        · rw [e_]; exact ⟨(hWk.get 3 gs (.fn os (os + (((capN length) + 63) / 64)) (u64s wsx os))).lt, hWk.neq 3 7, hWk.neq 3 2⟩
        · rw [e_]; exact ⟨(hWk.get 8 bn20 (.fn 0 2 (roF [vi (((capN length) : Nat) : Int), sc gs os (((capN length) + 63) / 64) cs]))).lt, hWk.neq 8 7, hWk.neq 8 2⟩
     ·
      have hfl9 := flat_len (runs px (capN length))
      refine pop_then ?_
      refine St.ordBeginS [(0, 1), (1, 1), (2, 0), (3, 0), (4, 1), (5, 1), (6, 1), (7, 1), (8, 1)] [(0, .fn 0 64 dbT), ((ν1 0), .cells [v8 stop] 5), ((ν1 1), .cells [vb false] 4), (gs, .fn os (os + (((capN length) + 63) / 64)) (u64s wsx os)), ((ν6 0), .cells [vi (((capN length) : Nat) : Int), sc gs os (((capN length) + 63) / 64) cs] 46), (g216, .fn 0 (0 + (flat (runs px (capN length))).length) (ints (flat (runs px (capN length))) 0)), ((ν22 0), .cells [sc g216 0 ((flat (runs px (capN length))).length) c217] 70), ((ν29 0), .cells [vi ((k_ : Nat) : Int)] 3), (bn20, .fn 0 2 (roF [vi (((capN length) : Nat) : Int), sc gs os (((capN length) + 63) / 64) cs]))] [0, 1, 2, 3, 4, 5, 6, 7, 8] hS fun wd hS => ?_
      have hap := hS.mem.pairs (Hf := [(0, .fn 0 64 dbT), ((ν1 0), .cells [v8 stop] 5), ((ν1 1), .cells [vb false] 4), (gs, .fn os (os + (((capN length) + 63) / 64)) (u64s wsx os)), ((ν6 0), .cells [vi (((capN length) : Nat) : Int), sc gs os (((capN length) + 63) / 64) cs] 46), (g216, .fn 0 (0 + (flat (runs px (capN length))).length) (ints (flat (runs px (capN length))) 0)), ((ν22 0), .cells [sc g216 0 ((flat (runs px (capN length))).length) c217] 70), ((ν29 0), .cells [vi ((k_ : Nat) : Int)] 3), (bn20, .fn 0 2 (roF [vi (((capN length) : Nat) : Int), sc gs os (((capN length) + 63) / 64) cs]))]) (l := [0, 1, 2, 3, 4, 5, 6, 7, 8])
      refine St.ordF [400, 400] [0, 1] [5, 6, 10, 11, 16] (rest := [(2, 0), (3, 0), (4, 1), (5, 1), (6, 1), (7, 1), (8, 1)]) hS hap <| segF [(129, .agg #[vi (((capN length) : Nat) : Int), sc gs os (((capN length) + 63) / 64) cs]), (130, .agg #[vi (((capN length) : Nat) : Int), sc gs os (((capN length) + 63) / 64) cs])] [.e (ν6 0), .e (ν6 0), .e (ν6 0), .e (ν6 0)] trivial fun ac hS => ?_
      refine hS.ordC 2 45 #[.agg #[vi (((capN length) : Nat) : Int), sc gs os (((capN length) + 63) / 64) cs]] (bits_Len_ gs os cs (((capN length) + 63) / 64) (capN length) _  ) ?_
      rintro _ wd ⟨rfl, hF⟩
      refine ⟨vi (((capN length) : Nat) : Int), rfl, ?_⟩
      replace hS := (hS.to (hS.mem.keep0 hF)).put (d := 131) (v := vi (((capN length) : Nat) : Int)) (by decide)
      clear hF
      refine hS.ordV (l := [0, 1, 2, 3, 4, 5, 6, 7, 8]) ?_
      refine hS.ordC 3 17 #[.agg #[vi (((capN length) : Nat) : Int), sc gs os (((capN length) + 63) / 64) cs], vi 0, vi (((capN length) : Nat) : Int)] (bits_Count gs os cs (((capN length) + 63) / 64) wsx (capN length) 0 (((capN length) : Nat) : Int) px _ (hS.mem.get 3 gs (.fn os (os + (((capN length) + 63) / 64)) (u64s wsx os))) (by exact hWx) (by exact capN_le _)) ?_
      rintro _ wd ⟨rfl, hF⟩
      refine ⟨.tuple #[vi (cntV px (capN length) 0 (((capN length) : Nat) : Int)), vi (trnE (capN length) 0 (((capN length) : Nat) : Int))], rfl, ?_⟩
      replace hS := (hS.to (hS.mem.keep0 hF)).put (d := 132) (v := .tuple #[vi (cntV px (capN length) 0 (((capN length) : Nat) : Int)), vi (trnE (capN length) 0 (((capN length) : Nat) : Int))]) (by decide)
      clear hF
      refine hS.ordV (l := [0, 1, 2, 3, 4, 5, 6, 7, 8]) ?_
      refine St.ordF [0, 0, 0, 0, 0] [4, 5, 6, 7, 8] [5, 6, 10, 11, 16] (rest := []) hS hap <| segF [(19, vi (cntV px (capN length) 0 (((capN length) : Nat) : Int))), (20, vi (trnE (capN length) 0 (((capN length) : Nat) : Int)))] [] trivial fun ac hS => ?_
      refine ord_nil ?_
      refine hS.regS [0, fx 0 (vb true), 0, 1, 1, fx 1 (vb true), 70, 0, 701, 101, 21, 21, 601, 1, 21, 1, fx 1 (vb true), 70, 200] [6] fun _ => seg [] [(0, none), (2, some ((ν1 1), .cells [vb true] 4))] [.e (ν1 1), .t true, .t true, .p ((vb ((((k_ : Nat) : Int) : Int) == (imin (stop + 1) (((((flat (runs px (capN length))).length) : Nat) : Int) / 2))) : Value) = vb true), .t true, .t true, .p ((2 : Int) ≠ 0 ∧ IntKind.i64.wrap (Int.tdiv ((((flat (runs px (capN length))).length) : Nat) : Int) 2) = ((((flat (runs px (capN length))).length) : Nat) : Int) / 2), .t true, .t true, .e (ν22 0), .t true, .p (fit .i64 (stop + 1)), .t true, .p (fit .i64 stop), .t true, .e (ν1 0), .t true, .e (ν29 0), .t true, .t true, .p ((vb (((cntV px (capN length) 0 (((capN length) : Nat) : Int)) : Int) == x11) : Value) = vb true), .t true, .t true, .p ((vb (((trnE (capN length) 0 (((capN length) : Nat) : Int)) : Int) == 0) : Value) = vb true)] ⟨(congrArg Value.bool (by (unfold imin; split <;> exact beq_iff_eq.2 (by first | omega | (rw [hne] at hkk; simp at hkk; omega))))), quo2 (by omega) (by omega) (by omega), fit_i64 (by omega), fit_i64 (by omega), (congrArg Value.bool (by (first | (rw [hend]; exact beq_self_eq_true _) | (rw [i1.end_ (by have h_ := i1.len; have h9_ : (flat (runs px (capN length))).length = 0 := (by rw [hne]; rfl); omega)]; exact beq_self_eq_true _)))), (congrArg Value.bool (by (rw [(cnt_allI px (capN length)).2]; rfl))), trivial⟩ fun ac wd hS => ?_
      refine wp_ret ?_
      refine St.retM1 1 hS (vb true) [.e (ν1 1)] trivial fun hw => ?_
      refine ⟨retd rfl, hw.fr0⟩

end Go.Proofs.YtdjhdcaanmkblaaDoor.K
