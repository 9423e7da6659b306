/-
  Walks, printed by w2.py.
-/
import Derived.Test.YtnbkafnikpbmbaaDoorBy
import Derived.Test.YtnbkafnikpbmbaaDoorProg
namespace Go.Proofs.YtnbkafnikpbmbaaDoor.K
set_option linter.unusedVariables false
set_option linter.unusedSimpArgs false



set_option maxRecDepth 100000 in
set_option maxHeartbeats 1000000 in
theorem slices_EqualI_nil (w : World) :
    Calls Tryd.prog 88 #[vnil, vnil] w fun e w' => e = .returned (vb true) ∧ Fr w w' no no := by
 refine enter (args := [vnil, vnil]) (D := no) (A := []) Tryd.func88 rfl 26 rfl [] (WS.startL trivial) fun ac hS => ?_
 refine hS.regS [0] [0, 1] fun _ => seg [] [] [] trivial fun ac wd hS => ?_
 refine wp_seq ?_
 refine hS.regS [0, 0, 0, 0, 0] [0, 1] fun _ => seg [(10, vb false)] [] [] trivial fun ac wd hS => ?_
 refine hS.condF ?_
 refine wp_skip ?_
 refine pop_then ?_
 refine wp_seq ?_
 refine hS.regS [0, 0, 0] [0, 1] fun _ => seg [(12, vi 0), (13, vi 0)] [] [] trivial fun ac wd hS => ?_
 refine wp_block ?_
 refine wp_loop_rounds 1 ?_
 refine rounds_in ?_
 refine hS.regS [0] [0, 1, 12, 13] fun _ => seg [(14, vb false)] [] [] trivial fun ac wd hS => ?_
 refine wp_seq ?_
 refine hS.condF ?_
 refine wp_exit ?_
 refine pop_then_exit ?_
 refine pop_then_exit ?_
 refine pop_block_hit ?_
 refine pop_then ?_
 refine hS.regS [0] [] fun _ => seg [(4, vb true)] [] [] trivial fun ac wd hS => ?_
 refine wp_ret ?_
 refine St.retC 0 hS (vb true) [] trivial fun hw => ?_
 refine ⟨retd rfl, hw.fr0⟩

set_option maxRecDepth 100000 in
set_option maxHeartbeats 1000000 in
theorem slices_EqualW (g1 : Nat) (o1 : Nat) (c1 : Nat) (nw1 : Nat) (ws1 : Nat → Nat) (g2 : Nat) (o2 : Nat) (c2 : Nat) (nw2 : Nat) (ws2 : Nat → Nat) (p1 : Nat → Bool) (p2 : Nat → Bool) (w : World) (hh0 : HE.holds w g1 (.fn o1 (o1 + nw1) (u64s ws1 o1))) (hh1 : HE.holds w g2 (.fn o2 (o2 + nw2) (u64s ws2 o2))) (hl : nw1 ≤ 4611686018427387904) :
    Calls Tryd.prog 99 #[sc g1 o1 nw1 c1, sc g2 o2 nw2 c2] w fun e w' => e = .returned (vb (eqW nw1 nw2 ws1 ws2)) ∧ Fr w w' no no := by
 refine enter (args := [sc g1 o1 nw1 c1, sc g2 o2 nw2 c2]) (D := no) (A := []) Tryd.func99 rfl 26 rfl [(g1, .fn o1 (o1 + nw1) (u64s ws1 o1)), (g2, .fn o2 (o2 + nw2) (u64s ws2 o2))] (WS.startL ⟨⟨rfl, hh0⟩, ⟨rfl, hh1⟩, trivial⟩) fun ac hS => ?_
 refine hS.regS [0] [0, 1] fun _ => seg [] [(0, none), (1, none)] [] trivial fun ac wd hS => ?_
 refine wp_seq ?_
 refine hS.regS [0, 0, 0, 0, 0] [0, 1] fun _ => seg [(10, vb ((((nw1 : Nat) : Int) : Int) != ((nw2 : Nat) : Int)))] [(0, none), (1, none)] [] trivial fun ac wd hS => ?_
 refine hS.condC ((((nw1 : Nat) : Int) : Int) != ((nw2 : Nat) : Int)) (fun hb1o hb1 => ?_) (fun hb1o hb1 => ?_)
 ·
  refine hS.regS [0] [] fun _ => seg [(4, vb false)] [] [] trivial fun ac wd hS => ?_
  refine wp_ret ?_
  refine pop_then_ret ?_
  refine St.retC 0 hS (vb false) [] trivial fun hw => ?_
  refine ⟨retd (vbool ?_), hw.fr0⟩
  all_goals (first | exact eqW_len (by omega) | exact eqW_at (x := x13) (by omega) (by assumption) | exact eqW_all (by omega) (fun j hj => i2 j (by omega)))
 ·
  refine wp_skip ?_
  refine pop_then ?_
  refine wp_seq ?_
  refine hS.regS [0, 0, 0] [0, 1] fun _ => seg [(12, vi ((nw1 : Nat) : Int)), (13, vi 0)] [(0, none), (1, none)] [] trivial fun ac wd hS => ?_
  refine wp_block ?_
  refine St.loopC (σ := Int) (fun (x13 : Int) => ⟨[(0, [], sc g1 o1 nw1 c1), (1, [], sc g2 o2 nw2 c2), (12, [], vi ((nw1 : Nat) : Int)), (13, [], vi x13)], [(g1, .fn o1 (o1 + nw1) (u64s ws1 o1)), (g2, .fn o2 (o2 + nw2) (u64s ws2 o2))], [], (0 ≤ x13) ∧ (x13 ≤ (nw1 : Int)) ∧ (∀ j, j < Int.toNat x13 → ws1 j = ws2 j) ∧ True, nw1 - Int.toNat x13⟩) 0 ⟨(by first | omega | (intro j hj; exact absurd hj (by simp))), (by first | omega | (intro j hj; exact absurd hj (by simp))), (by first | omega | (intro j hj; exact absurd hj (by simp))), trivial⟩ hS ?_
  clear hS
  rintro x13 ⟨i0, i1, i2, -⟩ ac wd hS
  replace i0 : 0 ≤ x13 := i0
  replace i1 : x13 ≤ (nw1 : Int) := i1
  replace i2 : ∀ j, j < Int.toNat x13 → ws1 j = ws2 j := i2
  refine hS.regS [0] [0, 1, 12, 13] fun _ => seg [(14, vb (decide ((x13 : Int) < ((nw1 : Nat) : Int))))] [(0, none), (1, none)] [] trivial fun ac wd hS => ?_
  refine wp_seq ?_
  refine hS.condC (decide ((x13 : Int) < ((nw1 : Nat) : Int))) (fun hb2o hb2 => ?_) (fun hb2o hb2 => ?_)
  ·
   refine wp_skip ?_
   refine pop_then ?_
   refine wp_seq ?_
   refine wp_block ?_
   refine hS.regS [0, 0] [0, 1, 12, 13] fun _ => seg [(5, vi x13)] [(0, none), (1, none)] [] trivial fun ac wd hS => ?_
   refine hS.drawS [0, 0, 20, fx 0 (vu ((ws1 (Int.toNat x13) : Nat) : Int)), 0, 0, 20, fx 100 (vu ((ws2 (Int.toNat x13) : Nat) : Int)), 0] [0, 1, 12, 13] <| seg [(24, vb ((((ws1 (Int.toNat x13) : Nat) : Int) : Int) != ((ws2 (Int.toNat x13) : Nat) : Int)))] [(0, none), (1, none)] [.p ((((u64s ws2 o2) (o2 + Int.toNat x13 * 1)) : Value) = vu ((ws2 (Int.toNat x13) : Nat) : Int)), .e g2, .p (o2 ≤ o2 + Int.toNat x13 * 1 ∧ o2 + Int.toNat x13 * 1 < (o2 + nw2)), .p ((0 : Int) ≤ x13 ∧ (x13 : Int) < ((nw2 : Nat) : Int)), .p ((((u64s ws1 o1) (o1 + Int.toNat x13 * 1)) : Value) = vu ((ws1 (Int.toNat x13) : Nat) : Int)), .e g1, .p (o1 ≤ o1 + Int.toNat x13 * 1 ∧ o1 + Int.toNat x13 * 1 < (o1 + nw1)), .p ((0 : Int) ≤ x13 ∧ (x13 : Int) < ((nw1 : Nat) : Int))] ⟨(u64s_rel ws2 o2 (Int.toNat x13)), (by omega), (by omega), (u64s_rel ws1 o1 (Int.toNat x13)), (by omega), (by omega), trivial⟩ fun ac wd hS => ?_
   refine hS.condC ((((ws1 (Int.toNat x13) : Nat) : Int) : Int) != ((ws2 (Int.toNat x13) : Nat) : Int)) (fun hb3o hb3 => ?_) (fun hb3o hb3 => ?_)
   ·
    refine hS.regS [0] [] fun _ => seg [(4, vb false)] [] [] trivial fun ac wd hS => ?_
    refine wp_ret ?_
    refine pop_block_ret ?_
    refine pop_then_ret ?_
    refine pop_then_ret ?_
    refine pop_block_ret ?_
    refine pop_then_ret ?_
    refine St.retC 0 hS (vb false) [] trivial fun hw => ?_
    refine ⟨retd (vbool ?_), hw.fr0⟩
    all_goals (first | exact eqW_len (by omega) | exact eqW_at (x := x13) (by omega) (by assumption) | exact eqW_all (by omega) (fun j hj => i2 j (by omega)))
   ·
    refine wp_skip ?_
    refine pop_block ?_
    refine pop_then ?_
    refine hS.regC [20, 0] [0, 1, 12] fun _ => seg [(13, vi (x13 + 1))] [(0, none), (1, none)] [.p (fit .i64 (x13 + 1))] ⟨fit_i64 (by omega), trivial⟩ fun ac wd hS => ?_
    exact pop_then (hS.next (x13 + 1) ⟨(by first | omega | assumption | (simp; done) | (simp; omega)), (by first | omega | assumption | (simp; done) | (simp; omega)), (by intro j hj; rcases Nat.lt_or_ge j (Int.toNat x13) with h | h; exact i2 j h; (obtain rfl : j = Int.toNat x13 := by omega); omega), trivial⟩ (by dsimp only; omega))
  ·
   refine wp_exit ?_
   refine pop_then_exit ?_
   refine pop_then_exit ?_
   refine pop_block_hit ?_
   refine pop_then ?_
   refine hS.regS [0] [] fun _ => seg [(4, vb true)] [] [] trivial fun ac wd hS => ?_
   refine wp_ret ?_
   refine St.retC 0 hS (vb true) [] trivial fun hw => ?_
   refine ⟨retd (vbool ?_), hw.fr0⟩
   all_goals (first | exact eqW_len (by omega) | exact eqW_at (x := x13) (by omega) (by assumption) | exact eqW_all (by omega) (fun j hj => i2 j (by omega)))

set_option maxRecDepth 100000 in
set_option maxHeartbeats 1000000 in
theorem bits_Same (g1 : Nat) (o1 : Nat) (c1 : Nat) (nw1 : Nat) (ws1 : Nat → Nat) (n1 : Nat) (g2 : Nat) (o2 : Nat) (c2 : Nat) (nw2 : Nat) (ws2 : Nat → Nat) (n2 : Nat) (p1 : Nat → Bool) (p2 : Nat → Bool) (w : World) (hh0 : HE.holds w g1 (.fn o1 (o1 + nw1) (u64s ws1 o1))) (hh1 : HE.holds w g2 (.fn o2 (o2 + nw2) (u64s ws2 o2))) (hl : nw1 ≤ 4611686018427387904) :
    Calls Tryd.prog 22 #[.agg #[vi ((n1 : Nat) : Int), sc g1 o1 nw1 c1], .agg #[vi ((n2 : Nat) : Int), sc g2 o2 nw2 c2]] w fun e w' => e = .returned (vb ((((n1 : Nat) : Int) == ((n2 : Nat) : Int)) && eqW nw1 nw2 ws1 ws2)) ∧ Fr w w' no no := by
 refine enter (args := [.agg #[vi ((n1 : Nat) : Int), sc g1 o1 nw1 c1], .agg #[vi ((n2 : Nat) : Int), sc g2 o2 nw2 c2]]) (D := no) (A := []) Tryd.func22 rfl 17 rfl [(g1, .fn o1 (o1 + nw1) (u64s ws1 o1)), (g2, .fn o2 (o2 + nw2) (u64s ws2 o2))] (WS.startL ⟨⟨rfl, hh0⟩, ⟨rfl, hh1⟩, trivial⟩) fun ac hS => ?_
 refine hS.regS [0, 0, 0] [] fun ν1 => seg [(2, pt (ν1 0) 0), (3, pt (ν1 1) 0)] [(0, none), (1, none), (2, some ((ν1 0), .cells [vi ((n1 : Nat) : Int), sc g1 o1 nw1 c1] 26)), (3, some ((ν1 1), .cells [vi ((n2 : Nat) : Int), sc g2 o2 nw2 c2] 26))] [] trivial fun ac wd hS => ?_
 refine wp_region_seq ?_
 refine hS.opsC 6 [0, 200, 0, 300, 0, 0] [2, 3] fun _ => seg [(10, vb ((((n1 : Nat) : Int) : Int) == ((n2 : Nat) : Int)))] [(0, none), (1, none), (2, none), (3, none)] [.e (ν1 1), .e (ν1 0)] trivial fun ac wd hS => ?_
 rcases Bool.eq_false_or_eq_true ((((n1 : Nat) : Int) : Int) == ((n2 : Nat) : Int)) with hg1o | hg1o
 ·
  have hg1 := nrm hg1o
  replace hS := hS.fix 10 (vb true) (congrArg Value.bool hg1o)
  refine hS.opsC 4 [1, 201, 1, 301] [10] fun _ => seg [(12, sc g1 o1 nw1 c1), (14, sc g2 o2 nw2 c2)] [(0, none), (1, none)] [.t true, .e (ν1 1), .t true, .t true, .e (ν1 0), .t true] trivial fun ac wd hS => ?_
  refine hS.callG true 99 #[sc g1 o1 nw1 c1, sc g2 o2 nw2 c2] (slices_EqualW g1 o1 c1 nw1 ws1 g2 o2 c2 nw2 ws2 p1 p2 _ (hS.mem.get 0 g1 (.fn o1 (o1 + nw1) (u64s ws1 o1))) (hS.mem.get 1 g2 (.fn o2 (o2 + nw2) (u64s ws2 o2))) (by first | assumption | omega | (simp_all; done) | (simp_all; omega))) ?_
  rintro _ wd ⟨rfl, hF⟩
  refine ⟨vb (eqW nw1 nw2 ws1 ws2), rfl, ?_⟩
  replace hS := (hS.to (hS.mem.keep0 hF)).put (d := 15) (v := vb (eqW nw1 nw2 ws1 ws2)) (by decide)
  clear hF
  refine hS.opsC 2 [70, 0] [] fun _ => seg [(4, vb (eqW nw1 nw2 ws1 ws2))] [] [.t true] trivial fun ac wd hS => ?_
  refine list_nil_seq ?_
  refine wp_ret ?_
  refine St.retC 0 hS (vb (eqW nw1 nw2 ws1 ws2)) [] trivial fun hw => ?_
  refine ⟨retd (vbool ?_), hw.fr0⟩
  all_goals (first | rfl | (simp_all; done))
 ·
  have hg1 := nrm hg1o
  replace hS := hS.fix 10 (vb false) (congrArg Value.bool hg1o)
  refine hS.opsC 7 [2, 2, 2, 2, 2, 60, 0] [] fun _ => seg [(4, vb false)] [] [.t false, .t false, .t false, .t false, .t false, .t false] trivial fun ac wd hS => ?_
  refine list_nil_seq ?_
  refine wp_ret ?_
  refine St.retC 0 hS (vb false) [] trivial fun hw => ?_
  refine ⟨retd (vbool ?_), hw.fr0⟩
  all_goals (first | rfl | (simp_all; done))

set_option maxRecDepth 100000 in
set_option maxHeartbeats 1000000 in
theorem law02_done (g : Nat) (o : Nat) (c : Nat) (nw : Nat) (ws : Nat → Nat) (n : Nat) (gq : Nat) (oq : Nat) (cq : Nat) (v : Bool) (f : Int) (k : Int) (p : Nat → Bool) (w : World) (hh0 : HE.holds w g (.fn o (o + nw) (u64s ws o))) (hh1 : HE.holds w gq (.fn oq (oq + n) (boolsV p oq))) (hW : Words ws nw n p) (hn : n ≤ 1048576) :
    Calls Tryd.prog 15 #[.agg #[vi ((n : Nat) : Int), sc g o nw c], sc gq oq n cq, .agg #[vb v, vi f, vi k]] w fun e w' => ∃ (g2 : Nat) (o2 : Nat) (c2 : Nat) (ws2 : Nat → Nat) (g3 : Nat) (o3 : Nat) (c3 : Nat), e = .returned (.tuple #[.agg #[vi ((n : Nat) : Int), sc g2 o2 nw c2], sc g3 o3 n c3, vb true]) ∧ Words ws2 nw n (trn p n f k v) ∧ (g2 = g ∨ w.heap.size ≤ g2) ∧ HE.holds w' g2 (.fn o2 (o2 + nw) (u64s ws2 o2)) ∧ (g3 = gq ∨ w.heap.size ≤ g3) ∧ HE.holds w' g3 (.fn o3 (o3 + n) (boolsV (trn p n f k v) o3)) ∧ Fr w w' no no := by
 refine enter (args := [.agg #[vi ((n : Nat) : Int), sc g o nw c], sc gq oq n cq, .agg #[vb v, vi f, vi k]]) (D := no) (A := []) Tryd.func15 rfl 47 rfl [(g, .fn o (o + nw) (u64s ws o)), (gq, .fn oq (oq + n) (boolsV p oq))] (WS.startL ⟨⟨rfl, hh0⟩, ⟨rfl, hh1⟩, trivial⟩) fun ac hS => ?_
 refine hS.regS [0, 0, 0, 0, 0] [1] fun ν1 => seg [(3, pt (ν1 0) 0), (5, pt (ν1 1) 0), (6, pt (ν1 2) 0)] [(0, none), (1, none), (2, some ((ν1 0), .cells [vi ((n : Nat) : Int), sc g o nw c] 26)), (3, some ((ν1 1), .cells [vb v, vi f, vi k] 29)), (4, some ((ν1 2), .cells [vi 0, vnil] 26))] [] trivial fun ac wd hS => ?_
 refine hS.regS [0] [1, 3, 5, 6] fun _ => seg [] [(0, none), (1, none), (2, none), (3, none), (4, none)] [] trivial fun ac wd hS => ?_
 refine wp_seq ?_
 refine hS.regS [0, 300] [1, 3, 5, 6] fun _ => seg [(12, vb v)] [(0, none), (1, none), (2, none), (3, none), (4, none)] [.e (ν1 1)] trivial fun ac wd hS => ?_
 refine hS.condC v (fun hb1o hb1 => ?_) (fun hb1o hb1 => ?_)
 ·
  refine wp_region_lit ?_
  refine hS.opsC 5 [200, 0, 300, 0, 300] [1, 3, 5, 6] fun _ => seg [(14, .agg #[vi ((n : Nat) : Int), sc g o nw c]), (16, vi f), (18, vi k)] [(0, none), (1, none), (2, none), (3, none), (4, none)] [.e (ν1 1), .e (ν1 1), .e (ν1 0), .e (ν1 0)] trivial fun ac wd hS => ?_
  refine hS.callC 85 #[.agg #[vi ((n : Nat) : Int), sc g o nw c], vi f, vi k] (bits_With g o c nw ws n f k p _ (hS.mem.get 0 g (.fn o (o + nw) (u64s ws o))) (by first | assumption | omega | (simp_all; done) | (simp_all; omega)) (by first | assumption | omega | (simp_all; done) | (simp_all; omega))) ?_
  rintro _ wd ⟨g22, o23, c24, ws25, rfl, hW26, hog0, hoh0, hF⟩
  have ho7 : g22 = g ∨ w.heap.size ≤ g22 := by rcases hog0 with hx | hx; rw [hx]; exact (.inl rfl); exact .inr (Nat.le_trans hS.mem.fr.size hx)
  refine ⟨.tuple #[.agg #[vi ((n : Nat) : Int), sc g22 o23 nw c24], vi (trnE n f k)], rfl, ?_⟩
  replace hS := (hS.to (hS.mem.outs hF [(g22, .fn o23 (o23 + nw) (u64s ws25 o23))] ⟨⟨rfl, hoh0, hog0.imp (fun e => ⟨0, .fn o (o + nw) (u64s ws o), by rw [e]; rfl, rfl⟩) id⟩, trivial⟩)).put (d := 19) (v := .tuple #[.agg #[vi ((n : Nat) : Int), sc g22 o23 nw c24], vi (trnE n f k)]) (by decide)
  clear hF
  refine hS.opsC 5 [0, 0, 0, 200, 0] [1, 3, 5, 6] fun _ => seg [(9, vi (trnE n f k))] [(1, none), (2, some ((ν1 0), .cells [vi ((n : Nat) : Int), sc g22 o23 nw c24] 26)), (3, none), (4, none), (5, none)] [.e (ν1 0), .e (ν1 0)] trivial fun ac wd hS => ?_
  refine list_nil ?_
  refine pop_then ?_
  refine wp_region_seq ?_
  refine hS.opsC 7 [0, 0, 200, 0, 200, 0, 200] [1, 3, 6, 9] fun _ => seg [(32, sc gq oq n cq), (34, vi f), (36, vi k), (38, vb v)] [(0, none), (1, none), (3, none), (4, none)] [.e (ν1 1), .e (ν1 1), .e (ν1 1)] trivial fun ac wd hS => ?_
  refine hS.callC 89 #[sc gq oq n cq, vi f, vi k, vb v] (ref02_Put gq oq cq n f k v p _ (hS.mem.get 0 gq (.fn oq (oq + n) (boolsV p oq))) (by first | assumption | omega | (simp_all; done) | (simp_all; omega))) ?_
  rintro _ wd ⟨g28, o29, c210, rfl, hog0, hoh0, hF⟩
  have ho11 : g28 = gq ∨ w.heap.size ≤ g28 := by rcases hog0 with hx | hx; rw [hx]; exact (.inl rfl); exact .inr (Nat.le_trans hS.mem.fr.size hx)
  refine ⟨.tuple #[sc g28 o29 n c210, vi (trnE n f k)], rfl, ?_⟩
  replace hS := (hS.to (hS.mem.outs hF [(g28, .fn o29 (o29 + n) (boolsV (trn p n f k v) o29))] ⟨⟨rfl, hoh0, hog0.imp (fun e => ⟨0, .fn oq (oq + n) (boolsV p oq), by rw [e]; rfl, rfl⟩) id⟩, trivial⟩)).put (d := 39) (v := .tuple #[sc g28 o29 n c210, vi (trnE n f k)]) (by decide)
  clear hF
  refine hS.opsC 5 [0, 0, 0, 0, 0] [3, 6, 9] fun _ => seg [(1, sc g28 o29 n c210), (10, vi (trnE n f k))] [(1, none), (2, none), (3, none), (4, none)] [] trivial fun ac wd hS => ?_
  refine list_nil_seq ?_
  refine hS.regS [0, 0, 0, 0, 0, 100, 0, 0] [6] fun _ => seg [(7, sc g28 o29 n c210), (8, vb (((trnE n f k) : Int) == (trnE n f k)))] [(1, some ((ν1 2), .cells [vi ((n : Nat) : Int), sc g22 o23 nw c24] 26)), (2, none), (3, none)] [.e (ν1 2), .e (ν1 2), .e (ν1 0), .e (ν1 0)] trivial fun ac wd hS => ?_
  refine wp_ret ?_
  refine St.retC 0 hS (.tuple #[.agg #[vi ((n : Nat) : Int), sc g22 o23 nw c24], sc g28 o29 n c210, vb (((trnE n f k) : Int) == (trnE n f k))]) [.e (ν1 2), .e (ν1 2)] trivial fun hw => ?_
  refine ⟨g22, o23, c24, ws25, g28, o29, c210, retd (tuple3 rfl rfl (vbool ?_)), ?_, ho7, (hw.get 1 g22 (.fn o23 (o23 + nw) (u64s ws25 o23))), ho11, (hw.get 2 g28 (.fn o29 (o29 + n) (boolsV (trn p n f k v) o29))), hw.fr0⟩
  all_goals (first | rfl | assumption | (rw [show v = true by first | assumption | (simp_all; done)]; first | rfl | assumption) | (rw [show v = false by first | assumption | (simp_all; done)]; first | rfl | assumption) | (simp_all; done))
 ·
  refine wp_region_lit ?_
  refine hS.opsC 5 [200, 0, 300, 0, 300] [1, 3, 5, 6] fun _ => seg [(23, .agg #[vi ((n : Nat) : Int), sc g o nw c]), (25, vi f), (27, vi k)] [(0, none), (1, none), (2, none), (3, none), (4, none)] [.e (ν1 1), .e (ν1 1), .e (ν1 0), .e (ν1 0)] trivial fun ac wd hS => ?_
  refine hS.callC 86 #[.agg #[vi ((n : Nat) : Int), sc g o nw c], vi f, vi k] (bits_Without g o c nw ws n f k p _ (hS.mem.get 0 g (.fn o (o + nw) (u64s ws o))) (by first | assumption | omega | (simp_all; done) | (simp_all; omega)) (by first | assumption | omega | (simp_all; done) | (simp_all; omega))) ?_
  rintro _ wd ⟨g212, o213, c214, ws215, rfl, hW216, hog0, hoh0, hF⟩
  have ho17 : g212 = g ∨ w.heap.size ≤ g212 := by rcases hog0 with hx | hx; rw [hx]; exact (.inl rfl); exact .inr (Nat.le_trans hS.mem.fr.size hx)
  refine ⟨.tuple #[.agg #[vi ((n : Nat) : Int), sc g212 o213 nw c214], vi (trnE n f k)], rfl, ?_⟩
  replace hS := (hS.to (hS.mem.outs hF [(g212, .fn o213 (o213 + nw) (u64s ws215 o213))] ⟨⟨rfl, hoh0, hog0.imp (fun e => ⟨0, .fn o (o + nw) (u64s ws o), by rw [e]; rfl, rfl⟩) id⟩, trivial⟩)).put (d := 28) (v := .tuple #[.agg #[vi ((n : Nat) : Int), sc g212 o213 nw c214], vi (trnE n f k)]) (by decide)
  clear hF
  refine hS.opsC 5 [0, 0, 0, 200, 0] [1, 3, 5, 6] fun _ => seg [(9, vi (trnE n f k))] [(1, none), (2, some ((ν1 0), .cells [vi ((n : Nat) : Int), sc g212 o213 nw c214] 26)), (3, none), (4, none), (5, none)] [.e (ν1 0), .e (ν1 0)] trivial fun ac wd hS => ?_
  refine list_nil ?_
  refine pop_then ?_
  refine wp_region_seq ?_
  refine hS.opsC 7 [0, 0, 200, 0, 200, 0, 200] [1, 3, 6, 9] fun _ => seg [(32, sc gq oq n cq), (34, vi f), (36, vi k), (38, vb v)] [(0, none), (1, none), (3, none), (4, none)] [.e (ν1 1), .e (ν1 1), .e (ν1 1)] trivial fun ac wd hS => ?_
  refine hS.callC 89 #[sc gq oq n cq, vi f, vi k, vb v] (ref02_Put gq oq cq n f k v p _ (hS.mem.get 0 gq (.fn oq (oq + n) (boolsV p oq))) (by first | assumption | omega | (simp_all; done) | (simp_all; omega))) ?_
  rintro _ wd ⟨g218, o219, c220, rfl, hog0, hoh0, hF⟩
  have ho21 : g218 = gq ∨ w.heap.size ≤ g218 := by rcases hog0 with hx | hx; rw [hx]; exact (.inl rfl); exact .inr (Nat.le_trans hS.mem.fr.size hx)
  refine ⟨.tuple #[sc g218 o219 n c220, vi (trnE n f k)], rfl, ?_⟩
  replace hS := (hS.to (hS.mem.outs hF [(g218, .fn o219 (o219 + n) (boolsV (trn p n f k v) o219))] ⟨⟨rfl, hoh0, hog0.imp (fun e => ⟨0, .fn oq (oq + n) (boolsV p oq), by rw [e]; rfl, rfl⟩) id⟩, trivial⟩)).put (d := 39) (v := .tuple #[sc g218 o219 n c220, vi (trnE n f k)]) (by decide)
  clear hF
  refine hS.opsC 5 [0, 0, 0, 0, 0] [3, 6, 9] fun _ => seg [(1, sc g218 o219 n c220), (10, vi (trnE n f k))] [(1, none), (2, none), (3, none), (4, none)] [] trivial fun ac wd hS => ?_
  refine list_nil_seq ?_
  refine hS.regS [0, 0, 0, 0, 0, 100, 0, 0] [6] fun _ => seg [(7, sc g218 o219 n c220), (8, vb (((trnE n f k) : Int) == (trnE n f k)))] [(1, some ((ν1 2), .cells [vi ((n : Nat) : Int), sc g212 o213 nw c214] 26)), (2, none), (3, none)] [.e (ν1 2), .e (ν1 2), .e (ν1 0), .e (ν1 0)] trivial fun ac wd hS => ?_
  refine wp_ret ?_
  refine St.retC 0 hS (.tuple #[.agg #[vi ((n : Nat) : Int), sc g212 o213 nw c214], sc g218 o219 n c220, vb (((trnE n f k) : Int) == (trnE n f k))]) [.e (ν1 2), .e (ν1 2)] trivial fun hw => ?_
  refine ⟨g212, o213, c214, ws215, g218, o219, c220, retd (tuple3 rfl rfl (vbool ?_)), ?_, ho17, (hw.get 1 g212 (.fn o213 (o213 + nw) (u64s ws215 o213))), ho21, (hw.get 2 g218 (.fn o219 (o219 + n) (boolsV (trn p n f k v) o219))), hw.fr0⟩
  all_goals (first | rfl | assumption | (rw [show v = true by first | assumption | (simp_all; done)]; first | rfl | assumption) | (rw [show v = false by first | assumption | (simp_all; done)]; first | rfl | assumption) | (simp_all; done))

set_option maxRecDepth 100000 in
set_option maxHeartbeats 1000000 in
theorem law02_told_some (g : Nat) (o : Nat) (c : Nat) (nw : Nat) (ws : Nat → Nat) (n : Nat) (gq : Nat) (oq : Nat) (cq : Nat) (v : Bool) (f : Int) (k : Int) (p : Nat → Bool) (w : World) (hh0 : HE.holds w 0 (.fn 0 64 dbT)) (hh1 : HE.holds w g (.fn o (o + nw) (u64s ws o))) (hh2 : HE.holds w gq (.fn oq (oq + n) (boolsV p oq))) (hW : Words ws nw n p) (hn : n ≤ 1048576) (hne : runs p n ≠ []) :
    Calls Tryd.prog 21 #[.agg #[vi ((n : Nat) : Int), sc g o nw c], sc gq oq n cq, .agg #[vb v, vi f, vi k]] w fun e w' => e = .returned (vb true) ∧ Fr w w' no no := by
 refine enter (args := [.agg #[vi ((n : Nat) : Int), sc g o nw c], sc gq oq n cq, .agg #[vb v, vi f, vi k]]) (D := no) (A := []) Tryd.func21 rfl 106 rfl [(0, .fn 0 64 dbT), (g, .fn o (o + nw) (u64s ws o)), (gq, .fn oq (oq + n) (boolsV p oq))] (WS.startL ⟨⟨rfl, hh0⟩, ⟨rfl, hh1⟩, ⟨rfl, hh2⟩, trivial⟩) fun ac hS => ?_
 refine hS.regS [0, 0, 0] [1] fun ν1 => seg [(3, pt (ν1 0) 0), (5, pt (ν1 1) 0)] [(0, none), (1, none), (2, none), (3, some ((ν1 0), .cells [vi ((n : Nat) : Int), sc g o nw c] 26)), (4, some ((ν1 1), .cells [vb v, vi f, vi k] 29))] [] trivial fun ac wd hS => ?_
 refine wp_region_seq ?_
 refine hS.opsC 5 [300, 0, 400, 0, 400] [1, 3, 5] fun _ => seg [(17, .agg #[vi ((n : Nat) : Int), sc g o nw c]), (19, vi f), (21, vi k)] [(0, none), (1, none), (2, none), (3, none), (4, none)] [.e (ν1 1), .e (ν1 1), .e (ν1 0), .e (ν1 0)] trivial fun ac wd hS => ?_
 refine hS.call0 17 #[.agg #[vi ((n : Nat) : Int), sc g o nw c], vi f, vi k] 22 (bits_Count g o c nw ws n f k p _ (hS.mem.get 1 g (.fn o (o + nw) (u64s ws o))) (by first | assumption | omega | (simp_all; done) | (simp_all; omega)) (by first | assumption | omega | (simp_all; done) | (simp_all; omega))) fun ac wd hS => ?_
 refine hS.opsC 5 [0, 0, 0, 0, 0] [1, 3, 5] fun _ => seg [(7, vi (cntV p n f k)), (8, vi (trnE n f k))] [(0, none), (1, none), (2, none), (3, none), (4, none)] [] trivial fun ac wd hS => ?_
 refine list_nil_seq ?_
 refine wp_region_seq ?_
 refine hS.opsC 5 [0, 0, 400, 0, 400] [1, 3, 5, 7, 8] fun _ => seg [(26, sc gq oq n cq), (28, vi f), (30, vi k)] [(0, none), (1, none), (2, none), (3, none), (4, none)] [.e (ν1 1), .e (ν1 1)] trivial fun ac wd hS => ?_
 refine hS.call0 95 #[sc gq oq n cq, vi f, vi k] 31 (ref02_Count gq oq cq n f k p _ (hS.mem.get 2 gq (.fn oq (oq + n) (boolsV p oq))) (by first | assumption | omega | (simp_all; done) | (simp_all; omega))) fun ac wd hS => ?_
 refine hS.opsC 5 [0, 0, 0, 0, 0] [1, 3, 5, 7, 8] fun _ => seg [(9, vi (cntV p n f k)), (10, vi (trnE n f k))] [(0, none), (1, none), (2, none), (3, none), (4, none)] [] trivial fun ac wd hS => ?_
 refine list_nil_seq ?_
 refine wp_region_seq ?_
 refine hS.opsC 5 [300, 0, 400, 0, 400] [1, 3, 5, 7, 8, 9, 10] fun _ => seg [(35, .agg #[vi ((n : Nat) : Int), sc g o nw c]), (37, vi f), (39, vb v)] [(0, none), (1, none), (2, none), (3, none), (4, none)] [.e (ν1 1), .e (ν1 1), .e (ν1 0), .e (ν1 0)] trivial fun ac wd hS => ?_
 refine hS.call0 87 #[.agg #[vi ((n : Nat) : Int), sc g o nw c], vi f, vb v] 40 (bits_First g o c nw ws n f v p _ (hS.mem.get 0 0 (.fn 0 64 dbT)) (hS.mem.get 1 g (.fn o (o + nw) (u64s ws o))) (by first | assumption | omega | (simp_all; done) | (simp_all; omega)) (by first | assumption | omega | (simp_all; done) | (simp_all; omega))) fun ac wd hS => ?_
 refine hS.opsC 5 [0, 0, 0, 0, 0] [1, 3, 5, 7, 8, 9, 10] fun _ => seg [(11, vi (fst1 p n f v)), (12, vb (fst2 p n f v))] [(0, none), (1, none), (2, none), (3, none), (4, none)] [] trivial fun ac wd hS => ?_
 refine list_nil_seq ?_
 refine wp_region_seq ?_
 refine hS.opsC 5 [0, 0, 400, 0, 400] [1, 3, 7, 8, 9, 10, 11, 12] fun _ => seg [(44, sc gq oq n cq), (46, vi f), (48, vb v)] [(0, none), (1, none), (2, none), (3, none)] [.e (ν1 1), .e (ν1 1)] trivial fun ac wd hS => ?_
 refine hS.call0 96 #[sc gq oq n cq, vi f, vb v] 49 (ref02_First gq oq cq n f v p _ (hS.mem.get 2 gq (.fn oq (oq + n) (boolsV p oq))) (by first | assumption | omega | (simp_all; done) | (simp_all; omega))) fun ac wd hS => ?_
 refine hS.opsC 5 [0, 0, 0, 0, 0] [1, 3, 7, 8, 9, 10, 11, 12] fun _ => seg [(13, vi (fst1 p n f v)), (14, vb (fst2 p n f v))] [(0, none), (1, none), (2, none), (3, none)] [] trivial fun ac wd hS => ?_
 refine list_nil_seq ?_
 refine wp_seq ?_
 refine wp_region_seq ?_
 refine hS.opsC 19 [0, 0, fx 0 (vb false), 0, 1, 1, fx 1 (vb false), 60, 0, 1, 1, fx 1 (vb false), 60, 0, 1, 1, fx 1 (vb false), 60, 0] [1, 3] fun _ => seg [(70, vb false)] [(0, none), (1, none), (2, none), (3, none)] [.t false, .t false, .p ((vb (!((fst2 p n f v) == (fst2 p n f v))) : Value) = vb false), .t false, .t false, .t false, .t false, .p ((vb (((fst1 p n f v) : Int) != (fst1 p n f v)) : Value) = vb false), .t false, .t false, .t false, .t false, .p ((vb (((trnE n f k) : Int) != (trnE n f k)) : Value) = vb false), .t false, .t false, .p ((vb (((cntV p n f k) : Int) != (cntV p n f k)) : Value) = vb false)] ⟨(congrArg Value.bool (by simp)), (congrArg Value.bool (by simp)), (congrArg Value.bool (by simp)), (congrArg Value.bool (by simp)), trivial⟩ fun ac wd hS => ?_
 refine hS.opsC 1 [301] [1, 3, 70] fun _ => seg [(71, .agg #[vi ((n : Nat) : Int), sc g o nw c])] [(0, none), (1, none), (2, none), (3, none)] [.t false, .e (ν1 0), .e (ν1 0)] trivial fun ac wd hS => ?_
 refine hS.callG false 19 #[.agg #[vi ((n : Nat) : Int), sc g o nw c]] (bits_Len_ g o c nw n _  ) ?_
 rintro _ wd ⟨rfl, hF⟩
 refine ⟨vi ((n : Nat) : Int), rfl, ?_⟩
 replace hS := (hS.to (hS.mem.keep0 hF)).put (d := 72) (v := vi ((n : Nat) : Int)) (by decide)
 clear hF
 refine hS.opsC 4 [1, 1, 1, 60] [1, 3] fun _ => seg [(76, vb ((((n : Nat) : Int) : Int) != ((n : Nat) : Int)))] [(0, none), (1, none), (2, none), (3, none)] [.t false, .t false, .t false, .t false] trivial fun ac wd hS => ?_
 refine list_nil_seq ?_
 refine hS.condK ((((n : Nat) : Int) : Int) != ((n : Nat) : Int)) false (by simp) ?_
 show Code.wp _ _ _ _ _
 refine wp_skip ?_
 refine pop_then ?_
 refine wp_seq ?_
 refine hS.regS [0] [1, 3] fun _ => seg [(15, vi (-1))] [(0, none), (1, none), (2, none), (3, none)] [] trivial fun ac wd hS => ?_
 refine wp_block ?_
 refine St.loopC (σ := Int) (fun (x15 : Int) => ⟨[(1, [], sc gq oq n cq), (3, [], pt (ν1 0) 0), (15, [], vi x15)], [(0, .fn 0 64 dbT), (g, .fn o (o + nw) (u64s ws o)), (gq, .fn oq (oq + n) (boolsV p oq)), ((ν1 0), .cells [vi ((n : Nat) : Int), sc g o nw c] 26)], [], (-1 ≤ x15 ∧ x15 ≤ (n : Int) + 1) ∧ True, Int.toNat ((n : Int) + 1 - x15)⟩) (-1) ⟨(by omega), trivial⟩ hS ?_
 clear hS
 rintro x15 ⟨i0, -⟩ ac wd hS
 replace i0 : -1 ≤ x15 ∧ x15 ≤ (n : Int) + 1 := i0
 refine wp_seq ?_
 refine hS.regS [0, 0, 0, 0] [1, 3, 15] fun _ => seg [(80, vb (decide ((x15 : Int) ≤ ((n : Nat) : Int))))] [(0, none), (1, none), (2, none), (3, none)] [] trivial fun ac wd hS => ?_
 refine hS.condC (decide ((x15 : Int) ≤ ((n : Nat) : Int))) (fun hb1o hb1 => ?_) (fun hb1o hb1 => ?_)
 ·
  refine wp_skip ?_
  refine pop_then ?_
  refine wp_seq ?_
  refine wp_block ?_
  refine wp_region_seq ?_
  refine hS.opsC 2 [300, 0] [1, 3, 15] fun _ => seg [(83, .agg #[vi ((n : Nat) : Int), sc g o nw c]), (84, vi x15)] [(0, none), (1, none), (2, none), (3, none)] [.e (ν1 0), .e (ν1 0)] trivial fun ac wd hS => ?_
  refine hS.call0 97 #[.agg #[vi ((n : Nat) : Int), sc g o nw c], vi x15] 85 (bits_Has g o c nw ws n x15 p _ (hS.mem.get 1 g (.fn o (o + nw) (u64s ws o))) (by first | assumption | omega | (simp_all; done) | (simp_all; omega)) (by first | assumption | omega | (simp_all; done) | (simp_all; omega))) fun ac wd hS => ?_
  refine hS.opsC 15 [0, 0, 0, 3, 3, 3, 3, 80, 0, 3, 3, 23, fx 203 (vb (p (Int.toNat x15))), 80, 0] [1, 3, 15] fun _ => seg [(100, vb (!((hasV p n x15) == (((decide ((0 : Int) ≤ x15)) && (decide ((x15 : Int) < ((n : Nat) : Int)))) && (p (Int.toNat x15))))))] [(0, none), (1, none), (2, none), (3, none)] [.p (((((decide ((0 : Int) ≤ x15)) && (decide ((x15 : Int) < ((n : Nat) : Int)))) = true) ∧ True) → AllP [(((boolsV p oq) (oq + Int.toNat x15 * 1)) : Value) = vb (p (Int.toNat x15)), (gq : Nat) = gq, oq ≤ oq + Int.toNat x15 * 1 ∧ oq + Int.toNat x15 * 1 < (oq + n)]), .p (((((decide ((0 : Int) ≤ x15)) && (decide ((x15 : Int) < ((n : Nat) : Int)))) = true) ∧ True) → AllP [(0 : Int) ≤ x15 ∧ (x15 : Int) < ((n : Nat) : Int)])] ⟨(fun ⟨hc0, _⟩ => by replace hc0 := nrm hc0; exact ⟨(boolsV_rel p oq (Int.toNat x15)), rfl, (by omega), trivial⟩), (fun ⟨hc0, _⟩ => by replace hc0 := nrm hc0; exact ⟨(by omega), trivial⟩), trivial⟩ fun ac wd hS => ?_
  refine list_nil_seq ?_
  refine hS.condK (!((hasV p n x15) == (((decide ((0 : Int) ≤ x15)) && (decide ((x15 : Int) < ((n : Nat) : Int)))) && (p (Int.toNat x15))))) false (by first | exact has_told _ _ _ | (simp [hasV]; done) | (simp [hasV]; omega)) ?_
  show Code.wp _ _ _ _ _
  refine wp_skip ?_
  refine pop_block ?_
  refine pop_then ?_
  refine hS.regC [0, 20, 0] [1, 3] fun _ => seg [(15, vi (x15 + 1))] [(0, none), (1, none), (2, none), (3, none)] [.p (fit .i64 (x15 + 1))] ⟨fit_i64 (by omega), trivial⟩ fun ac wd hS => ?_
  exact pop_then (hS.next (x15 + 1) ⟨(by first | omega | assumption | (simp; done) | (simp; omega)), trivial⟩ (by dsimp only; omega))
 ·
  refine wp_exit ?_
  refine pop_then_exit ?_
  refine pop_then_exit ?_
  refine pop_block_hit ?_
  refine pop_then ?_
  refine wp_region_seq ?_
  refine hS.opsC 1 [300] [1] fun _ => seg [(101, .agg #[vi ((n : Nat) : Int), sc g o nw c])] [(0, none), (1, none), (2, none)] [.e (ν1 0), .e (ν1 0)] trivial fun ac wd hS => ?_
  refine hS.callC 16 #[.agg #[vi ((n : Nat) : Int), sc g o nw c]] (law02_rows_some g o c nw ws n p _ (hS.mem.get 0 0 (.fn 0 64 dbT)) (hS.mem.get 1 g (.fn o (o + nw) (u64s ws o))) (by first | assumption | omega | (simp_all; done) | (simp_all; omega)) (by first | assumption | omega | (simp_all; done) | (simp_all; omega)) (by first | assumption | omega | (simp_all; done) | (simp_all; omega))) ?_
  rintro _ wd ⟨g22, c23, rfl, hog0, hoh0, hF⟩
  have ho4 : w.heap.size ≤ g22 := Nat.le_trans hS.mem.fr.size hog0
  refine ⟨sc g22 0 ((flat (runs p n)).length) c23, rfl, ?_⟩
  replace hS := (hS.to (hS.mem.outs hF [(g22, .fn 0 (0 + (flat (runs p n)).length) (ints (flat (runs p n)) 0))] ⟨⟨rfl, hoh0, .inr hog0⟩, trivial⟩)).put (d := 102) (v := sc g22 0 ((flat (runs p n)).length) c23) (by decide)
  clear hF
  refine hS.opsC 1 [0] [102] fun _ => seg [(103, sc gq oq n cq)] [(0, none), (2, none), (3, none)] [] trivial fun ac wd hS => ?_
  refine hS.callC 98 #[sc gq oq n cq] (ref02_Rows_some gq oq cq n p _ (hS.mem.get 1 gq (.fn oq (oq + n) (boolsV p oq))) (by first | assumption | omega | (simp_all; done) | (simp_all; omega)) (by exact rows_ne hne)) ?_
  rintro _ wd ⟨g25, c26, rfl, hog0, hoh0, hF⟩
  have ho7 : w.heap.size ≤ g25 := Nat.le_trans hS.mem.fr.size hog0
  refine ⟨sc g25 0 ((rowsUp p n).length) c26, rfl, ?_⟩
  replace hS := (hS.to (hS.mem.outs hF [(g25, .fn 0 (0 + (rowsUp p n).length) (ints (rowsUp p n) 0))] ⟨⟨rfl, hoh0, .inr hog0⟩, trivial⟩)).put (d := 104) (v := sc g25 0 ((rowsUp p n).length) c26) (by decide)
  clear hF
  refine hS.call0 88 #[sc g22 0 ((flat (runs p n)).length) c23, sc g25 0 ((rowsUp p n).length) c26] 105 (slices_EqualI g22 0 c23 (flat (runs p n)) g25 0 c26 (rowsUp p n) _ (hS.mem.get 2 g22 (.fn 0 (0 + (flat (runs p n)).length) (ints (flat (runs p n)) 0))) (hS.mem.get 3 g25 (.fn 0 (0 + (rowsUp p n).length) (ints (rowsUp p n) 0))) (by (have h9_ := flat_runs_le p n hn; omega))) fun ac wd hS => ?_
  refine hS.opsC 1 [0] [] fun _ => seg [(6, vb ((flat (runs p n)) == (rowsUp p n)))] [(0, none)] [] trivial fun ac wd hS => ?_
  refine list_nil_seq ?_
  refine wp_ret ?_
  refine St.retC 0 hS (vb ((flat (runs p n)) == (rowsUp p n))) [] trivial fun hw => ?_
  refine ⟨retd (vbool ?_), hw.fr0⟩
  all_goals (first | rfl | exact (rows_same _ _).symm | exact rows_same _ _)

set_option maxRecDepth 100000 in
set_option maxHeartbeats 1000000 in
theorem law02_told_none (g : Nat) (o : Nat) (c : Nat) (nw : Nat) (ws : Nat → Nat) (n : Nat) (gq : Nat) (oq : Nat) (cq : Nat) (v : Bool) (f : Int) (k : Int) (p : Nat → Bool) (w : World) (hh0 : HE.holds w 0 (.fn 0 64 dbT)) (hh1 : HE.holds w g (.fn o (o + nw) (u64s ws o))) (hh2 : HE.holds w gq (.fn oq (oq + n) (boolsV p oq))) (hW : Words ws nw n p) (hn : n ≤ 1048576) (hne : runs p n = []) :
    Calls Tryd.prog 21 #[.agg #[vi ((n : Nat) : Int), sc g o nw c], sc gq oq n cq, .agg #[vb v, vi f, vi k]] w fun e w' => e = .returned (vb true) ∧ Fr w w' no no := by
 refine enter (args := [.agg #[vi ((n : Nat) : Int), sc g o nw c], sc gq oq n cq, .agg #[vb v, vi f, vi k]]) (D := no) (A := []) Tryd.func21 rfl 106 rfl [(0, .fn 0 64 dbT), (g, .fn o (o + nw) (u64s ws o)), (gq, .fn oq (oq + n) (boolsV p oq))] (WS.startL ⟨⟨rfl, hh0⟩, ⟨rfl, hh1⟩, ⟨rfl, hh2⟩, trivial⟩) fun ac hS => ?_
 refine hS.regS [0, 0, 0] [1] fun ν1 => seg [(3, pt (ν1 0) 0), (5, pt (ν1 1) 0)] [(0, none), (1, none), (2, none), (3, some ((ν1 0), .cells [vi ((n : Nat) : Int), sc g o nw c] 26)), (4, some ((ν1 1), .cells [vb v, vi f, vi k] 29))] [] trivial fun ac wd hS => ?_
 refine wp_region_seq ?_
 refine hS.opsC 5 [300, 0, 400, 0, 400] [1, 3, 5] fun _ => seg [(17, .agg #[vi ((n : Nat) : Int), sc g o nw c]), (19, vi f), (21, vi k)] [(0, none), (1, none), (2, none), (3, none), (4, none)] [.e (ν1 1), .e (ν1 1), .e (ν1 0), .e (ν1 0)] trivial fun ac wd hS => ?_
 refine hS.call0 17 #[.agg #[vi ((n : Nat) : Int), sc g o nw c], vi f, vi k] 22 (bits_Count g o c nw ws n f k p _ (hS.mem.get 1 g (.fn o (o + nw) (u64s ws o))) (by first | assumption | omega | (simp_all; done) | (simp_all; omega)) (by first | assumption | omega | (simp_all; done) | (simp_all; omega))) fun ac wd hS => ?_
 refine hS.opsC 5 [0, 0, 0, 0, 0] [1, 3, 5] fun _ => seg [(7, vi (cntV p n f k)), (8, vi (trnE n f k))] [(0, none), (1, none), (2, none), (3, none), (4, none)] [] trivial fun ac wd hS => ?_
 refine list_nil_seq ?_
 refine wp_region_seq ?_
 refine hS.opsC 5 [0, 0, 400, 0, 400] [1, 3, 5, 7, 8] fun _ => seg [(26, sc gq oq n cq), (28, vi f), (30, vi k)] [(0, none), (1, none), (2, none), (3, none), (4, none)] [.e (ν1 1), .e (ν1 1)] trivial fun ac wd hS => ?_
 refine hS.call0 95 #[sc gq oq n cq, vi f, vi k] 31 (ref02_Count gq oq cq n f k p _ (hS.mem.get 2 gq (.fn oq (oq + n) (boolsV p oq))) (by first | assumption | omega | (simp_all; done) | (simp_all; omega))) fun ac wd hS => ?_
 refine hS.opsC 5 [0, 0, 0, 0, 0] [1, 3, 5, 7, 8] fun _ => seg [(9, vi (cntV p n f k)), (10, vi (trnE n f k))] [(0, none), (1, none), (2, none), (3, none), (4, none)] [] trivial fun ac wd hS => ?_
 refine list_nil_seq ?_
 refine wp_region_seq ?_
 refine hS.opsC 5 [300, 0, 400, 0, 400] [1, 3, 5, 7, 8, 9, 10] fun _ => seg [(35, .agg #[vi ((n : Nat) : Int), sc g o nw c]), (37, vi f), (39, vb v)] [(0, none), (1, none), (2, none), (3, none), (4, none)] [.e (ν1 1), .e (ν1 1), .e (ν1 0), .e (ν1 0)] trivial fun ac wd hS => ?_
 refine hS.call0 87 #[.agg #[vi ((n : Nat) : Int), sc g o nw c], vi f, vb v] 40 (bits_First g o c nw ws n f v p _ (hS.mem.get 0 0 (.fn 0 64 dbT)) (hS.mem.get 1 g (.fn o (o + nw) (u64s ws o))) (by first | assumption | omega | (simp_all; done) | (simp_all; omega)) (by first | assumption | omega | (simp_all; done) | (simp_all; omega))) fun ac wd hS => ?_
 refine hS.opsC 5 [0, 0, 0, 0, 0] [1, 3, 5, 7, 8, 9, 10] fun _ => seg [(11, vi (fst1 p n f v)), (12, vb (fst2 p n f v))] [(0, none), (1, none), (2, none), (3, none), (4, none)] [] trivial fun ac wd hS => ?_
 refine list_nil_seq ?_
 refine wp_region_seq ?_
 refine hS.opsC 5 [0, 0, 400, 0, 400] [1, 3, 7, 8, 9, 10, 11, 12] fun _ => seg [(44, sc gq oq n cq), (46, vi f), (48, vb v)] [(0, none), (1, none), (2, none), (3, none)] [.e (ν1 1), .e (ν1 1)] trivial fun ac wd hS => ?_
 refine hS.call0 96 #[sc gq oq n cq, vi f, vb v] 49 (ref02_First gq oq cq n f v p _ (hS.mem.get 2 gq (.fn oq (oq + n) (boolsV p oq))) (by first | assumption | omega | (simp_all; done) | (simp_all; omega))) fun ac wd hS => ?_
 refine hS.opsC 5 [0, 0, 0, 0, 0] [1, 3, 7, 8, 9, 10, 11, 12] fun _ => seg [(13, vi (fst1 p n f v)), (14, vb (fst2 p n f v))] [(0, none), (1, none), (2, none), (3, none)] [] trivial fun ac wd hS => ?_
 refine list_nil_seq ?_
 refine wp_seq ?_
 refine wp_region_seq ?_
 refine hS.opsC 19 [0, 0, fx 0 (vb false), 0, 1, 1, fx 1 (vb false), 60, 0, 1, 1, fx 1 (vb false), 60, 0, 1, 1, fx 1 (vb false), 60, 0] [1, 3] fun _ => seg [(70, vb false)] [(0, none), (1, none), (2, none), (3, none)] [.t false, .t false, .p ((vb (!((fst2 p n f v) == (fst2 p n f v))) : Value) = vb false), .t false, .t false, .t false, .t false, .p ((vb (((fst1 p n f v) : Int) != (fst1 p n f v)) : Value) = vb false), .t false, .t false, .t false, .t false, .p ((vb (((trnE n f k) : Int) != (trnE n f k)) : Value) = vb false), .t false, .t false, .p ((vb (((cntV p n f k) : Int) != (cntV p n f k)) : Value) = vb false)] ⟨(congrArg Value.bool (by simp)), (congrArg Value.bool (by simp)), (congrArg Value.bool (by simp)), (congrArg Value.bool (by simp)), trivial⟩ fun ac wd hS => ?_
 refine hS.opsC 1 [301] [1, 3, 70] fun _ => seg [(71, .agg #[vi ((n : Nat) : Int), sc g o nw c])] [(0, none), (1, none), (2, none), (3, none)] [.t false, .e (ν1 0), .e (ν1 0)] trivial fun ac wd hS => ?_
 refine hS.callG false 19 #[.agg #[vi ((n : Nat) : Int), sc g o nw c]] (bits_Len_ g o c nw n _  ) ?_
 rintro _ wd ⟨rfl, hF⟩
 refine ⟨vi ((n : Nat) : Int), rfl, ?_⟩
 replace hS := (hS.to (hS.mem.keep0 hF)).put (d := 72) (v := vi ((n : Nat) : Int)) (by decide)
 clear hF
 refine hS.opsC 4 [1, 1, 1, 60] [1, 3] fun _ => seg [(76, vb ((((n : Nat) : Int) : Int) != ((n : Nat) : Int)))] [(0, none), (1, none), (2, none), (3, none)] [.t false, .t false, .t false, .t false] trivial fun ac wd hS => ?_
 refine list_nil_seq ?_
 refine hS.condK ((((n : Nat) : Int) : Int) != ((n : Nat) : Int)) false (by simp) ?_
 show Code.wp _ _ _ _ _
 refine wp_skip ?_
 refine pop_then ?_
 refine wp_seq ?_
 refine hS.regS [0] [1, 3] fun _ => seg [(15, vi (-1))] [(0, none), (1, none), (2, none), (3, none)] [] trivial fun ac wd hS => ?_
 refine wp_block ?_
 refine St.loopC (σ := Int) (fun (x15 : Int) => ⟨[(1, [], sc gq oq n cq), (3, [], pt (ν1 0) 0), (15, [], vi x15)], [(0, .fn 0 64 dbT), (g, .fn o (o + nw) (u64s ws o)), (gq, .fn oq (oq + n) (boolsV p oq)), ((ν1 0), .cells [vi ((n : Nat) : Int), sc g o nw c] 26)], [], (-1 ≤ x15 ∧ x15 ≤ (n : Int) + 1) ∧ True, Int.toNat ((n : Int) + 1 - x15)⟩) (-1) ⟨(by omega), trivial⟩ hS ?_
 clear hS
 rintro x15 ⟨i0, -⟩ ac wd hS
 replace i0 : -1 ≤ x15 ∧ x15 ≤ (n : Int) + 1 := i0
 refine wp_seq ?_
 refine hS.regS [0, 0, 0, 0] [1, 3, 15] fun _ => seg [(80, vb (decide ((x15 : Int) ≤ ((n : Nat) : Int))))] [(0, none), (1, none), (2, none), (3, none)] [] trivial fun ac wd hS => ?_
 refine hS.condC (decide ((x15 : Int) ≤ ((n : Nat) : Int))) (fun hb1o hb1 => ?_) (fun hb1o hb1 => ?_)
 ·
  refine wp_skip ?_
  refine pop_then ?_
  refine wp_seq ?_
  refine wp_block ?_
  refine wp_region_seq ?_
  refine hS.opsC 2 [300, 0] [1, 3, 15] fun _ => seg [(83, .agg #[vi ((n : Nat) : Int), sc g o nw c]), (84, vi x15)] [(0, none), (1, none), (2, none), (3, none)] [.e (ν1 0), .e (ν1 0)] trivial fun ac wd hS => ?_
  refine hS.call0 97 #[.agg #[vi ((n : Nat) : Int), sc g o nw c], vi x15] 85 (bits_Has g o c nw ws n x15 p _ (hS.mem.get 1 g (.fn o (o + nw) (u64s ws o))) (by first | assumption | omega | (simp_all; done) | (simp_all; omega)) (by first | assumption | omega | (simp_all; done) | (simp_all; omega))) fun ac wd hS => ?_
  refine hS.opsC 15 [0, 0, 0, 3, 3, 3, 3, 80, 0, 3, 3, 23, fx 203 (vb (p (Int.toNat x15))), 80, 0] [1, 3, 15] fun _ => seg [(100, vb (!((hasV p n x15) == (((decide ((0 : Int) ≤ x15)) && (decide ((x15 : Int) < ((n : Nat) : Int)))) && (p (Int.toNat x15))))))] [(0, none), (1, none), (2, none), (3, none)] [.p (((((decide ((0 : Int) ≤ x15)) && (decide ((x15 : Int) < ((n : Nat) : Int)))) = true) ∧ True) → AllP [(((boolsV p oq) (oq + Int.toNat x15 * 1)) : Value) = vb (p (Int.toNat x15)), (gq : Nat) = gq, oq ≤ oq + Int.toNat x15 * 1 ∧ oq + Int.toNat x15 * 1 < (oq + n)]), .p (((((decide ((0 : Int) ≤ x15)) && (decide ((x15 : Int) < ((n : Nat) : Int)))) = true) ∧ True) → AllP [(0 : Int) ≤ x15 ∧ (x15 : Int) < ((n : Nat) : Int)])] ⟨(fun ⟨hc0, _⟩ => by replace hc0 := nrm hc0; exact ⟨(boolsV_rel p oq (Int.toNat x15)), rfl, (by omega), trivial⟩), (fun ⟨hc0, _⟩ => by replace hc0 := nrm hc0; exact ⟨(by omega), trivial⟩), trivial⟩ fun ac wd hS => ?_
  refine list_nil_seq ?_
  refine hS.condK (!((hasV p n x15) == (((decide ((0 : Int) ≤ x15)) && (decide ((x15 : Int) < ((n : Nat) : Int)))) && (p (Int.toNat x15))))) false (by first | exact has_told _ _ _ | (simp [hasV]; done) | (simp [hasV]; omega)) ?_
  show Code.wp _ _ _ _ _
  refine wp_skip ?_
  refine pop_block ?_
  refine pop_then ?_
  refine hS.regC [0, 20, 0] [1, 3] fun _ => seg [(15, vi (x15 + 1))] [(0, none), (1, none), (2, none), (3, none)] [.p (fit .i64 (x15 + 1))] ⟨fit_i64 (by omega), trivial⟩ fun ac wd hS => ?_
  exact pop_then (hS.next (x15 + 1) ⟨(by first | omega | assumption | (simp; done) | (simp; omega)), trivial⟩ (by dsimp only; omega))
 ·
  refine wp_exit ?_
  refine pop_then_exit ?_
  refine pop_then_exit ?_
  refine pop_block_hit ?_
  refine pop_then ?_
  refine wp_region_seq ?_
  refine hS.opsC 1 [300] [1] fun _ => seg [(101, .agg #[vi ((n : Nat) : Int), sc g o nw c])] [(0, none), (1, none), (2, none)] [.e (ν1 0), .e (ν1 0)] trivial fun ac wd hS => ?_
  refine hS.call0 16 #[.agg #[vi ((n : Nat) : Int), sc g o nw c]] 102 (law02_rows_none g o c nw ws n p _ (hS.mem.get 0 0 (.fn 0 64 dbT)) (hS.mem.get 1 g (.fn o (o + nw) (u64s ws o))) (by first | assumption | omega | (simp_all; done) | (simp_all; omega)) (by first | assumption | omega | (simp_all; done) | (simp_all; omega)) (by first | assumption | omega | (simp_all; done) | (simp_all; omega))) fun ac wd hS => ?_
  refine hS.opsC 1 [0] [102] fun _ => seg [(103, sc gq oq n cq)] [(0, none), (2, none)] [] trivial fun ac wd hS => ?_
  refine hS.call0 98 #[sc gq oq n cq] 104 (ref02_Rows_none gq oq cq n p _ (hS.mem.get 1 gq (.fn oq (oq + n) (boolsV p oq))) (by first | assumption | omega | (simp_all; done) | (simp_all; omega)) (by exact rows_no hne)) fun ac wd hS => ?_
  refine hS.call0 88 #[vnil, vnil] 105 (slices_EqualI_nil  _  ) fun ac wd hS => ?_
  refine hS.opsC 1 [0] [] fun _ => seg [(6, vb true)] [(0, none)] [] trivial fun ac wd hS => ?_
  refine list_nil_seq ?_
  refine wp_ret ?_
  refine St.retC 0 hS (vb true) [] trivial fun hw => ?_
  refine ⟨retd rfl, hw.fr0⟩

theorem law02_told (g : Nat) (o : Nat) (c : Nat) (nw : Nat) (ws : Nat → Nat) (n : Nat) (gq : Nat) (oq : Nat) (cq : Nat) (v : Bool) (f : Int) (k : Int) (p : Nat → Bool) (w : World) (hh0 : HE.holds w 0 (.fn 0 64 dbT)) (hh1 : HE.holds w g (.fn o (o + nw) (u64s ws o))) (hh2 : HE.holds w gq (.fn oq (oq + n) (boolsV p oq))) (hW : Words ws nw n p) (hn : n ≤ 1048576) :
    Calls Tryd.prog 21 #[.agg #[vi ((n : Nat) : Int), sc g o nw c], sc gq oq n cq, .agg #[vb v, vi f, vi k]] w fun e w' => e = .returned (vb true) ∧ Fr w w' no no := by
 by_cases hne : runs p n = []
 · exact law02_told_none g o c nw ws n gq oq cq v f k p w hh0 hh1 hh2 hW hn hne
 · exact law02_told_some g o c nw ws n gq oq cq v f k p w hh0 hh1 hh2 hW hn hne

end Go.Proofs.YtnbkafnikpbmbaaDoor.K
