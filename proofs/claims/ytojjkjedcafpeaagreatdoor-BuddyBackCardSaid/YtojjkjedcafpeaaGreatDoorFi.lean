/-
  Walks, printed by w2.py.
-/
import Derived.Test.YtojjkjedcafpeaaGreatDoorEv
import Derived.Test.YtojjkjedcafpeaaGreatDoorM6
import Derived.Test.YtojjkjedcafpeaaGreatDoorProg
namespace Go.Proofs.YtojjkjedcafpeaaGreatDoor.K
set_option linter.unusedVariables false
set_option linter.unusedSimpArgs false

set_option maxRecDepth 100000 in
set_option maxHeartbeats 1000000 in
theorem l08_Do0 (b : Nat) (F : Nat → Prop) (m : AM) (bb : Nat) (N : Nat) (d : Int) (k : Int) (n : Int) (g : Nat) (r : Int) (q : List Tg) (Q : Nat → List Int) (w : World) (hr : (arR b F m).R w) (hh0 : HE.holds w 1 (.fn 0 64 dbT)) (hh1 : HE.holds w bb (.fn 0 12 (roF [pt b 0, vi 1, vi ((N : Nat) : Int), pt b 0, vi 0, vi 256, pt b 0, vi 0, vi 88, pt b 0, vi 257, vi ((N : Nat) : Int)]))) (hf0 : ¬ F 1) (hf1 : ¬ F bb) (hB : Bdy m N g r q Q) (hfl : FullG g q) (hd : 0 ≤ d ∧ d ≤ 255) (hn : n ≤ 9223372036854775807) :
    Calls Tryz.prog 15 #[pt bb 0, .agg #[vi 1, vi 0, vi 0, vi 0, vnil], .agg #[v8 d, vi k, vi n]] w fun e w' => ∃ (g2 : Nat) (r2 : Int) (mo : AM) (q2 : List Tg) (Q2 : Nat → List Int) (dq : Value) (db : Bool) (F' : Nat → Prop), e = .returned (.tuple #[dq, vb db]) ∧ Bdy mo N g2 r2 q2 Q2 ∧ FullG g2 q2 ∧ StepP N g r q d k n g2 r2 q2 ∧ KeepB m mo q q2 ∧ (arR b F' mo).R w' ∧ Fr w w' F F' := by
 have hpk := pk_rng hB n
 refine enter (args := [pt bb 0, .agg #[vi 1, vi 0, vi 0, vi 0, vnil], .agg #[v8 d, vi k, vi n]]) (D := F) (A := [arR b F m]) Tryz.func15 rfl 154 rfl [(1, .fn 0 64 dbT), (bb, .fn 0 12 (roF [pt b 0, vi 1, vi ((N : Nat) : Int), pt b 0, vi 0, vi 256, pt b 0, vi 0, vi 88, pt b 0, vi 257, vi ((N : Nat) : Int)]))] (WS.startA (r := arR b F m) hr ⟨⟨rfl, hh0⟩, ⟨rfl, hh1⟩, trivial⟩ ⟨hf0, hf1, trivial⟩) fun ac hS => ?_
 refine hS.regS [0, 0, 0, 0] [0] fun ν1 => seg [(4, pt (ν1 0) 0), (5, pt (ν1 1) 0), (6, pt (ν1 2) 0)] [(0, none), (1, none), (2, some ((ν1 0), .cells [vi 1, vi 0, vi 0, vi 0, vnil] 34)), (3, some ((ν1 1), .cells [v8 d, vi k, vi n] 31)), (4, some ((ν1 2), .cells [vi 0, vi 0, vi 0, vi 0, vnil] 34))] [] trivial fun ac wd hS => ?_
 refine hS.regS [0, 0] [0, 4, 5, 6] fun _ => seg [(8, vi 0), (9, vi 0)] [(0, none), (1, none), (2, none), (3, none), (4, none)] [] trivial fun ac wd hS => ?_
 refine wp_seq ?_
 refine hS.regS [0, 300, 20] [0, 4, 5, 6, 8, 9] fun _ => seg [(25, v8 (d % 8))] [(0, none), (1, none), (2, none), (3, none), (4, none)] [.p ((8 : Int) ≠ 0 ∧ Int.tmod d 8 = d % 8), .e (ν1 1)] ⟨rem2 (by omega) (by omega), trivial⟩ fun ac wd hS => ?_
 refine wp_block ?_
 refine wp_seq ?_
 refine hS.regS [0, 0] [0, 4, 5, 6, 8, 9, 25] fun _ => seg [(66, vb (((d % 8) : Int) == 3))] [(0, none), (1, none), (2, none), (3, none), (4, none)] [] trivial fun ac wd hS => ?_
 refine hS.condC (((d % 8) : Int) == 3) (fun hb1o hb1 => ?_) (fun hb1o hb1 => ?_)
 ·
  refine wp_skip ?_
  refine pop_then ?_
  refine hS.condC (((d % 8) : Int) == 3) (fun hb2o hb2 => ?_) (fun hb2o hb2 => ?_)
  ·
   refine wp_region_seq ?_
   refine hS.opsC 3 [0, 0, 300] [0, 4, 6] fun _ => seg [(69, pt bb 0), (71, vi n)] [(0, none), (1, none), (2, none), (4, none)] [.e (ν1 1)] trivial fun ac wd hS => ?_
   refine hS.call0 26 #[pt bb 0, vi n] 72 (l08_Pick b F m bb N n g r q Q _ (hS.mem.res 0) (hS.mem.get 0 1 (.fn 0 64 dbT)) (hS.mem.get 1 bb (.fn 0 12 (roF [pt b 0, vi 1, vi ((N : Nat) : Int), pt b 0, vi 0, vi 256, pt b 0, vi 0, vi 88, pt b 0, vi 257, vi ((N : Nat) : Int)]))) (by exact hB) (by exact hfl)) fun ac wd hS => ?_
   refine hS.opsC 1 [0] [0, 4, 6] fun _ => seg [(10, vi (pkA (rnTo q g) n))] [(0, none), (1, none), (2, none), (3, none)] [] trivial fun ac wd hS => ?_
   refine list_nil_seq ?_
   refine wp_region_seq ?_
   refine hS.opsC 2 [0, 0] [0, 4, 6, 10] fun _ => seg [(74, pt bb 0), (75, vi (pkA (rnTo q g) n))] [(0, none), (1, none), (2, none), (3, none)] [] trivial fun ac wd hS => ?_
   refine hS.call0 18 #[pt bb 0, vi (pkA (rnTo q g) n)] 76 (bu_Order b F m bb N (pkA (rnTo q g) n) g r q Q _ (hS.mem.res 0) (hS.mem.get 1 bb (.fn 0 12 (roF [pt b 0, vi 1, vi ((N : Nat) : Int), pt b 0, vi 0, vi 256, pt b 0, vi 0, vi 88, pt b 0, vi 257, vi ((N : Nat) : Int)]))) (by exact hB) (by (have := pk_rng hB n; omega))) fun ac wd hS => ?_
   refine hS.opsC 5 [0, 0, 0, 0, 0] [0, 4, 6, 10] fun _ => seg [(11, vi (tkK q (pkA (rnTo q g) n))), (12, vi (tkE q (pkA (rnTo q g) n)))] [(0, none), (1, none), (2, none), (3, none)] [] trivial fun ac wd hS => ?_
   refine list_nil_seq ?_
   refine wp_region_seq ?_
   refine hS.opsC 6 [200, 0, 20, 0, 200, 20] [0, 4, 6, 10, 11, 12] fun _ => seg [(80, .agg #[vi 1, vi 0, vi 0, vi 0, vnil]), (85, vi (((pkA (rnTo q g) n) / 4096) - 1))] [(0, none), (1, none), (2, none), (3, none)] [.p (fit .i64 (((pkA (rnTo q g) n) / 4096) - 1)), .e (ν1 0), .p ((4096 : Int) ≠ 0 ∧ IntKind.i64.wrap (Int.tdiv (pkA (rnTo q g) n) 4096) = (pkA (rnTo q g) n) / 4096), .e (ν1 0), .e (ν1 0), .e (ν1 0), .e (ν1 0), .e (ν1 0)] ⟨fit_i64 (by omega), quo2 (by omega) (by omega) (by omega), trivial⟩ fun ac wd hS => ?_
   refine hS.call0 61 #[.agg #[vi 1, vi 0, vi 0, vi 0, vnil], vi (((pkA (rnTo q g) n) / 4096) - 1)] 86 (r8_Order0 (((pkA (rnTo q g) n) / 4096) - 1) _  ) fun ac wd hS => ?_
   refine hS.opsC 5 [0, 0, 0, 0, 0] [0, 4, 6, 10, 11, 12] fun _ => seg [(13, vi 0), (14, vi 8)] [(0, none), (1, none), (2, none), (3, none)] [] trivial fun ac wd hS => ?_
   refine list_nil_seq ?_
   refine wp_region_seq ?_
   refine hS.opsC 2 [0, 0] [4, 6, 10, 11, 12, 13, 14] fun _ => seg [(89, pt bb 0), (90, vi (pkA (rnTo q g) n))] [(0, none), (1, none), (2, none), (3, none)] [] trivial fun ac wd hS => ?_
   refine hS.callC 19 #[pt bb 0, vi (pkA (rnTo q g) n)] (bu_Free b F m bb N (pkA (rnTo q g) n) g r q Q _ (hS.mem.res 0) (hS.mem.get 1 bb (.fn 0 12 (roF [pt b 0, vi 1, vi ((N : Nat) : Int), pt b 0, vi 0, vi 256, pt b 0, vi 0, vi 88, pt b 0, vi 257, vi ((N : Nat) : Int)]))) (hS.mem.nF (g := bb) (r := arR b F m) 1 0) (by exact hB) (by (have := pk_rng hB n; omega))) ?_
   rintro _ wd ⟨mo3, q24, Q25, F6, rfl, hB27, hF28, hK29, hA, hF⟩
   refine ⟨vi (tkE q (pkA (rnTo q g) n)), rfl, ?_⟩
   replace hS := (hS.to (hS.mem.stepA 0 rfl hA hF)).put (d := 91) (v := vi (tkE q (pkA (rnTo q g) n))) (by decide)
   clear hF
   refine hS.opsC 1 [0] [4, 6, 10, 11, 12, 13, 14] fun _ => seg [(8, vi (tkE q (pkA (rnTo q g) n)))] [(0, none), (2, none), (3, none)] [] trivial fun ac wd hS => ?_
   refine list_nil_seq ?_
   refine wp_region_seq ?_
   refine hS.opsC 6 [100, 0, 20, 0, 100, 20] [4, 6, 8, 11, 12, 13, 14] fun _ => seg [(93, .agg #[vi 1, vi 0, vi 0, vi 0, vnil]), (98, vi (((pkA (rnTo q g) n) / 4096) - 1))] [(0, none), (1, none), (2, none)] [.p (fit .i64 (((pkA (rnTo q g) n) / 4096) - 1)), .e (ν1 0), .p ((4096 : Int) ≠ 0 ∧ IntKind.i64.wrap (Int.tdiv (pkA (rnTo q g) n) 4096) = (pkA (rnTo q g) n) / 4096), .e (ν1 0), .e (ν1 0), .e (ν1 0), .e (ν1 0), .e (ν1 0)] ⟨fit_i64 (by omega), quo2 (by omega) (by omega) (by omega), trivial⟩ fun ac wd hS => ?_
   refine hS.call0 62 #[.agg #[vi 1, vi 0, vi 0, vi 0, vnil], vi (((pkA (rnTo q g) n) / 4096) - 1)] 99 (r8_Free0 (((pkA (rnTo q g) n) / 4096) - 1) _  ) fun ac wd hS => ?_
   refine hS.opsC 5 [0, 0, 0, 100, 0] [4, 6, 8, 11, 12, 13, 14] fun _ => seg [(9, vi 8)] [(0, none), (1, none), (2, none)] [.e (ν1 0), .e (ν1 0), .e (ν1 0), .e (ν1 0), .e (ν1 0)] trivial fun ac wd hS => ?_
   refine list_nil_seq ?_
   refine hS.regS [0, 0, 0, 0, 3, 3, 3, 80] [4, 6, 8, 9] fun _ => seg [(109, vb ((((tkK q (pkA (rnTo q g) n)) : Int) != 0) || (((tkE q (pkA (rnTo q g) n)) : Int) != 8)))] [(0, none), (1, none), (2, none)] [] trivial fun ac wd hS => ?_
   refine hS.condC ((((tkK q (pkA (rnTo q g) n)) : Int) != 0) || (((tkE q (pkA (rnTo q g) n)) : Int) != 8)) (fun hb10o hb10 => ?_) (fun hb10o hb10 => ?_)
   ·
    refine hS.regS [100, 200, 0] [6] fun _ => seg [(7, vb false)] [(0, none), (2, some ((ν1 2), .cells [vi 1, vi 0, vi 0, vi 0, vnil] 34))] [.e (ν1 2), .e (ν1 2), .e (ν1 2), .e (ν1 2), .e (ν1 2), .e (ν1 0), .e (ν1 0), .e (ν1 0), .e (ν1 0), .e (ν1 0)] trivial fun ac wd hS => ?_
    refine wp_ret ?_
    refine pop_block_ret ?_
    refine pop_then_ret ?_
    refine St.retC 1 hS (.tuple #[.agg #[vi 1, vi 0, vi 0, vi 0, vnil], vb false]) [.e (ν1 2), .e (ν1 2), .e (ν1 2), .e (ν1 2), .e (ν1 2)] trivial fun hw => ?_
    refine ⟨g, r, mo3, q24, Q25, .agg #[vi 1, vi 0, vi 0, vi 0, vnil], false, F6, retd (tuple2 ?_ rfl), ?_, ?_, ?_, ?_, (hw.res 0), hw.frA⟩
    all_goals (first | rfl | assumption | exact hB.refM n | exact hfl | exact FreeP.full hfl (by assumption) | exact refM_keep n | exact KeepT.b2 (by assumption) | exact KeepT.b1 (by assumption) | exact .inl ⟨by omega, rfl, rfl, by assumption⟩ | exact .inr (.inl ⟨by omega, rfl, rfl, by assumption, by assumption⟩) | exact .inr (.inr (.inl ⟨by omega, rfl, by assumption⟩)) | exact .inr (.inr (.inr (.inl ⟨by omega, rfl, rfl, rfl⟩))) | exact .inr (.inr (.inr (.inr ⟨by omega, by omega, by omega, by omega, by omega, _, _, by assumption⟩))))
   ·
    refine wp_skip ?_
    refine pop_block ?_
    refine pop_then ?_
    refine hS.regS [100, 0, 0, 0, 200, 0] [6] fun _ => seg [(7, vb (((tkE q (pkA (rnTo q g) n)) : Int) == 8))] [(0, none), (2, some ((ν1 2), .cells [vi 1, vi 0, vi 0, vi 0, vnil] 34))] [.e (ν1 2), .e (ν1 2), .e (ν1 2), .e (ν1 2), .e (ν1 2), .e (ν1 0), .e (ν1 0), .e (ν1 0), .e (ν1 0), .e (ν1 0)] trivial fun ac wd hS => ?_
    refine wp_ret ?_
    refine St.retC 1 hS (.tuple #[.agg #[vi 1, vi 0, vi 0, vi 0, vnil], vb (((tkE q (pkA (rnTo q g) n)) : Int) == 8)]) [.e (ν1 2), .e (ν1 2), .e (ν1 2), .e (ν1 2), .e (ν1 2)] trivial fun hw => ?_
    refine ⟨g, r, mo3, q24, Q25, .agg #[vi 1, vi 0, vi 0, vi 0, vnil], (((tkE q (pkA (rnTo q g) n)) : Int) == 8), F6, retd (tuple2 ?_ rfl), ?_, ?_, ?_, ?_, (hw.res 0), hw.frA⟩
    all_goals (first | rfl | assumption | exact hB.refM n | exact hfl | exact FreeP.full hfl (by assumption) | exact refM_keep n | exact KeepT.b2 (by assumption) | exact KeepT.b1 (by assumption) | exact .inl ⟨by omega, rfl, rfl, by assumption⟩ | exact .inr (.inl ⟨by omega, rfl, rfl, by assumption, by assumption⟩) | exact .inr (.inr (.inl ⟨by omega, rfl, by assumption⟩)) | exact .inr (.inr (.inr (.inl ⟨by omega, rfl, rfl, rfl⟩))) | exact .inr (.inr (.inr (.inr ⟨by omega, by omega, by omega, by omega, by omega, _, _, by assumption⟩))))
  ·
   refine hS.regS [0, 0] [0, 4, 5, 6, 8, 9, 25] fun _ => seg [(111, vb (((d % 8) : Int) == 5))] [(0, none), (1, none), (2, none), (3, none), (4, none)] [] trivial fun ac wd hS => ?_
   refine hS.condC (((d % 8) : Int) == 5) (fun hb11o hb11 => ?_) (fun hb11o hb11 => ?_)
   ·
    refine wp_region_seq ?_
    refine hS.opsC 3 [0, 0, 300] [4, 5, 6, 8] fun _ => seg [(113, pt bb 0), (115, vi k)] [(0, none), (1, none), (2, none), (3, none), (4, none)] [.e (ν1 1)] trivial fun ac wd hS => ?_
    refine hS.callC 23 #[pt bb 0, vi k] (bu_Grow b F m bb N k g r q Q _ (hS.mem.res 0) (hS.mem.get 0 1 (.fn 0 64 dbT)) (hS.mem.get 1 bb (.fn 0 12 (roF [pt b 0, vi 1, vi ((N : Nat) : Int), pt b 0, vi 0, vi 256, pt b 0, vi 0, vi 88, pt b 0, vi 257, vi ((N : Nat) : Int)]))) (hS.mem.nF (g := 1) (r := arR b F m) 0 0) (hS.mem.nF (g := bb) (r := arR b F m) 1 0) (by exact hB) (by exact hfl)) ?_
    rintro _ wd ⟨mo12, q213, Q214, F15, rfl, hB216, hF217, hT218, hS219, hK220, hA, hF⟩
    refine ⟨vi (gwE N g r k), rfl, ?_⟩
    replace hS := (hS.to (hS.mem.stepA 0 rfl hA hF)).put (d := 116) (v := vi (gwE N g r k)) (by decide)
    clear hF
    refine hS.opsC 1 [0] [4, 5, 6] fun _ => seg [(8, vi (gwE N g r k))] [(0, none), (2, none), (3, none), (4, none)] [] trivial fun ac wd hS => ?_
    refine list_nil_seq ?_
    refine wp_region_lit ?_
    refine hS.opsC 3 [100, 0, 200] [4, 6, 8] fun _ => seg [(118, .agg #[vi 1, vi 0, vi 0, vi 0, vnil]), (120, vi k)] [(0, none), (1, none), (3, none)] [.e (ν1 1), .e (ν1 0), .e (ν1 0), .e (ν1 0), .e (ν1 0), .e (ν1 0)] trivial fun ac wd hS => ?_
    refine hS.call0 63 #[.agg #[vi 1, vi 0, vi 0, vi 0, vnil], vi k] 121 (r8_Grow0 k _  ) fun ac wd hS => ?_
    refine hS.opsC 5 [0, 0, 0, 100, 0] [4, 6, 8] fun _ => seg [(9, vi (g0E k))] [(0, none), (1, none), (2, none)] [.e (ν1 0), .e (ν1 0), .e (ν1 0), .e (ν1 0), .e (ν1 0)] trivial fun ac wd hS => ?_
    refine list_nil ?_
    refine pop_block ?_
    refine pop_then ?_
    refine hS.regS [100, 0, 0, 0, 200, 0] [6] fun _ => seg [(7, vb (((gwE N g r k) : Int) == (g0E k)))] [(0, none), (2, some ((ν1 2), .cells [vi 1, vi 0, vi 0, vi 0, vnil] 34))] [.e (ν1 2), .e (ν1 2), .e (ν1 2), .e (ν1 2), .e (ν1 2), .e (ν1 0), .e (ν1 0), .e (ν1 0), .e (ν1 0), .e (ν1 0)] trivial fun ac wd hS => ?_
    refine wp_ret ?_
    refine St.retC 1 hS (.tuple #[.agg #[vi 1, vi 0, vi 0, vi 0, vnil], vb (((gwE N g r k) : Int) == (g0E k))]) [.e (ν1 2), .e (ν1 2), .e (ν1 2), .e (ν1 2), .e (ν1 2)] trivial fun hw => ?_
    refine ⟨(gwG N g r k), (gwR N g r k), mo12, q213, Q214, .agg #[vi 1, vi 0, vi 0, vi 0, vnil], (((gwE N g r k) : Int) == (g0E k)), F15, retd (tuple2 ?_ rfl), ?_, ?_, ?_, ?_, (hw.res 0), hw.frA⟩
    all_goals (first | rfl | assumption | exact hB.refM n | exact hfl | exact FreeP.full hfl (by assumption) | exact refM_keep n | exact KeepT.b2 (by assumption) | exact KeepT.b1 (by assumption) | exact .inl ⟨by omega, rfl, rfl, by assumption⟩ | exact .inr (.inl ⟨by omega, rfl, rfl, by assumption, by assumption⟩) | exact .inr (.inr (.inl ⟨by omega, rfl, by assumption⟩)) | exact .inr (.inr (.inr (.inl ⟨by omega, rfl, rfl, rfl⟩))) | exact .inr (.inr (.inr (.inr ⟨by omega, by omega, by omega, by omega, by omega, _, _, by assumption⟩))))
   ·
    refine hS.regS [0, 0] [0, 4, 5, 6, 8, 9, 25] fun _ => seg [(124, vb (((d % 8) : Int) == 6))] [(0, none), (1, none), (2, none), (3, none), (4, none)] [] trivial fun ac wd hS => ?_
    refine hS.condC (((d % 8) : Int) == 6) (fun hb21o hb21 => ?_) (fun hb21o hb21 => ?_)
    ·
     refine wp_region_seq ?_
     refine hS.opsC 1 [0] [4, 6] fun _ => seg [(126, pt bb 0)] [(0, none), (1, none), (2, none), (4, none)] [] trivial fun ac wd hS => ?_
     refine hS.callC 25 #[pt bb 0] (bu_Shrink b F m bb N g r q Q _ (hS.mem.res 0) (hS.mem.get 1 bb (.fn 0 12 (roF [pt b 0, vi 1, vi ((N : Nat) : Int), pt b 0, vi 0, vi 256, pt b 0, vi 0, vi 88, pt b 0, vi 257, vi ((N : Nat) : Int)]))) (hS.mem.nF (g := bb) (r := arR b F m) 1 0) (by exact hB) (by exact hfl)) ?_
     rintro _ wd ⟨g222, mo23, q224, Q225, F26, rfl, hB227, hF228, hS229, hK230, hA, hF⟩
     refine ⟨vi ((g : Int) - (g222 : Int)), rfl, ?_⟩
     replace hS := (hS.to (hS.mem.stepA 0 rfl hA hF)).put (d := 127) (v := vi ((g : Int) - (g222 : Int))) (by decide)
     clear hF
     refine hS.opsC 1 [0] [4, 6] fun _ => seg [(15, vi ((g : Int) - (g222 : Int)))] [(0, none), (2, none), (3, none)] [] trivial fun ac wd hS => ?_
     refine list_nil_seq ?_
     refine wp_region_seq ?_
     refine hS.opsC 1 [100] [6, 15] fun _ => seg [(129, .agg #[vi 1, vi 0, vi 0, vi 0, vnil])] [(0, none), (2, none)] [.e (ν1 0), .e (ν1 0), .e (ν1 0), .e (ν1 0), .e (ν1 0)] trivial fun ac wd hS => ?_
     refine hS.call0 64 #[.agg #[vi 1, vi 0, vi 0, vi 0, vnil]] 130 (r8_Shrink0  _  ) fun ac wd hS => ?_
     refine hS.opsC 6 [0, 0, 0, 0, 200, 0] [6, 15] fun ν28 => seg [(16, pt (ν28 0) 0), (17, vi 0)] [(0, none), (1, none), (2, some ((ν28 0), .cells [vi 1, vi 0, vi 0, vi 0, vnil] 34))] [.e (ν28 0), .e (ν28 0), .e (ν28 0), .e (ν28 0), .e (ν28 0)] trivial fun ac wd hS => ?_
     refine list_nil_seq ?_
     refine hS.regS [200, 0, 0, 0, 100, 0] [6] fun _ => seg [(7, vb ((((g : Int) - (g222 : Int)) : Int) == 0))] [(0, none), (1, some ((ν1 2), .cells [vi 1, vi 0, vi 0, vi 0, vnil] 34))] [.e (ν1 2), .e (ν1 2), .e (ν1 2), .e (ν1 2), .e (ν1 2), .e (ν28 0), .e (ν28 0), .e (ν28 0), .e (ν28 0), .e (ν28 0)] trivial fun ac wd hS => ?_
     refine wp_ret ?_
     refine pop_block_ret ?_
     refine pop_then_ret ?_
     refine St.retC 1 hS (.tuple #[.agg #[vi 1, vi 0, vi 0, vi 0, vnil], vb ((((g : Int) - (g222 : Int)) : Int) == 0)]) [.e (ν1 2), .e (ν1 2), .e (ν1 2), .e (ν1 2), .e (ν1 2)] trivial fun hw => ?_
     refine ⟨g222, r, mo23, q224, Q225, .agg #[vi 1, vi 0, vi 0, vi 0, vnil], ((((g : Int) - (g222 : Int)) : Int) == 0), F26, retd (tuple2 ?_ rfl), ?_, ?_, ?_, ?_, (hw.res 0), hw.frA⟩
     all_goals (first | rfl | assumption | exact hB.refM n | exact hfl | exact FreeP.full hfl (by assumption) | exact refM_keep n | exact KeepT.b2 (by assumption) | exact KeepT.b1 (by assumption) | exact .inl ⟨by omega, rfl, rfl, by assumption⟩ | exact .inr (.inl ⟨by omega, rfl, rfl, by assumption, by assumption⟩) | exact .inr (.inr (.inl ⟨by omega, rfl, by assumption⟩)) | exact .inr (.inr (.inr (.inl ⟨by omega, rfl, rfl, rfl⟩))) | exact .inr (.inr (.inr (.inr ⟨by omega, by omega, by omega, by omega, by omega, _, _, by assumption⟩))))
    ·
     refine hS.regS [0, 0] [0, 4, 5, 6, 8, 9] fun _ => seg [(137, vb (((d % 8) : Int) == 7))] [(0, none), (1, none), (2, none), (3, none), (4, none)] [] trivial fun ac wd hS => ?_
     refine hS.condC (((d % 8) : Int) == 7) (fun hb31o hb31 => ?_) (fun hb31o hb31 => ?_)
     ·
      refine St.ordBeginS [(0, 1), (1, 1), (2, 1), (3, 1), (4, 1), (5, 1), (6, 0)] [(1, .fn 0 64 dbT), (bb, .fn 0 12 (roF [pt b 0, vi 1, vi ((N : Nat) : Int), pt b 0, vi 0, vi 256, pt b 0, vi 0, vi 88, pt b 0, vi 257, vi ((N : Nat) : Int)])), ((ν1 0), .cells [vi 1, vi 0, vi 0, vi 0, vnil] 34), ((ν1 1), .cells [v8 d, vi k, vi n] 31), ((ν1 2), .cells [vi 0, vi 0, vi 0, vi 0, vnil] 34)] [0, 1, 2, 3, 4] hS fun wd hS => ?_
      have hap := hS.mem.pairs (Hf := [(1, .fn 0 64 dbT), (bb, .fn 0 12 (roF [pt b 0, vi 1, vi ((N : Nat) : Int), pt b 0, vi 0, vi 256, pt b 0, vi 0, vi 88, pt b 0, vi 257, vi ((N : Nat) : Int)])), ((ν1 0), .cells [vi 1, vi 0, vi 0, vi 0, vnil] 34), ((ν1 1), .cells [v8 d, vi k, vi n] 31), ((ν1 2), .cells [vi 0, vi 0, vi 0, vi 0, vnil] 34)]) (l := [0, 1, 2, 3, 4])
      refine St.ordF [0, 0, 0, 100, 0, 300] [0, 1, 2, 3, 4, 5] [4, 5, 6, 8, 9] (rest := [(6, 0)]) hS hap <| segF [(142, pt b 0), (144, vi n)] [.e (ν1 1), .e bb, .p (0 ≤ 0 ∧ 0 < 12)] ⟨(by decide), trivial⟩ fun ac hS => ?_
      refine hS.ordC 6 28 #[pt b 0, vi n] (ar_Refuse b F m n _ (hS.mem.res 0) (by first | assumption | omega | (simp_all; done) | (simp_all; omega))) ?_
      rintro _ wd ⟨F32, rfl, hA, hF⟩
      refine ⟨.tuple #[], rfl, ?_⟩
      replace hS := (hS.to (hS.mem.stepA 0 rfl hA hF)).put (d := 145) (v := .tuple #[]) (by decide)
      clear hF
      refine hS.ordV (l := [0, 1, 2, 3, 4]) ?_
      refine ord_nil ?_
      refine hS.regC [0, 300, 0, 0, 200] [4, 6, 8, 9] fun _ => seg [] [(0, none), (2, some ((ν1 0), .cells [vi 1, vi 0, vi 0, vi (imax n 0), vnil] 34)), (4, none)] [.e (ν1 0), .e (ν1 1)] trivial fun ac wd hS => ?_
      refine pop_block ?_
      refine pop_then ?_
      refine hS.regS [100, 0, 0, 0, 200, 0] [6] fun _ => seg [(7, vb true)] [(0, none), (2, some ((ν1 2), .cells [vi 1, vi 0, vi 0, vi (imax n 0), vnil] 34))] [.e (ν1 2), .e (ν1 2), .e (ν1 2), .e (ν1 2), .e (ν1 2), .e (ν1 0), .e (ν1 0), .e (ν1 0), .e (ν1 0), .e (ν1 0)] trivial fun ac wd hS => ?_
      refine wp_ret ?_
      refine St.retC 1 hS (.tuple #[.agg #[vi 1, vi 0, vi 0, vi (imax n 0), vnil], vb true]) [.e (ν1 2), .e (ν1 2), .e (ν1 2), .e (ν1 2), .e (ν1 2)] trivial fun hw => ?_
      refine ⟨g, (imax 0 n), (refM m n), q, Q, .agg #[vi 1, vi 0, vi 0, vi (imax n 0), vnil], true, F32, retd (tuple2 ?_ rfl), ?_, ?_, ?_, ?_, (hw.res 0), hw.frA⟩
      all_goals (first | rfl | assumption | exact hB.refM n | exact hfl | exact FreeP.full hfl (by assumption) | exact refM_keep n | exact KeepT.b2 (by assumption) | exact KeepT.b1 (by assumption) | exact .inl ⟨by omega, rfl, rfl, by assumption⟩ | exact .inr (.inl ⟨by omega, rfl, rfl, by assumption, by assumption⟩) | exact .inr (.inr (.inl ⟨by omega, rfl, by assumption⟩)) | exact .inr (.inr (.inr (.inl ⟨by omega, rfl, rfl, rfl⟩))) | exact .inr (.inr (.inr (.inr ⟨by omega, by omega, by omega, by omega, by omega, _, _, by assumption⟩))))
     ·
      refine wp_region_seq ?_
      refine hS.opsC 3 [0, 0, 300] [4, 5, 6] fun _ => seg [(27, pt bb 0), (29, vi k)] [(0, none), (1, none), (2, none), (3, none), (4, none)] [.e (ν1 1)] trivial fun ac wd hS => ?_
      refine hS.callC 21 #[pt bb 0, vi k] (bu_Alloc b F m bb N k g r q Q _ (hS.mem.res 0) (hS.mem.get 0 1 (.fn 0 64 dbT)) (hS.mem.get 1 bb (.fn 0 12 (roF [pt b 0, vi 1, vi ((N : Nat) : Int), pt b 0, vi 0, vi 256, pt b 0, vi 0, vi 88, pt b 0, vi 257, vi ((N : Nat) : Int)]))) (hS.mem.nF (g := 1) (r := arR b F m) 0 0) (hS.mem.nF (g := bb) (r := arR b F m) 1 0) (by exact hB) (by exact hfl)) ?_
      rintro _ wd ⟨ao_33, ae_34, g235, r236, mo37, q238, Q239, F40, rfl, hB241, hF242, hA243, hK244, hA, hF⟩
      refine ⟨.tuple #[vi ao_33, vi ae_34], rfl, ?_⟩
      replace hS := (hS.to (hS.mem.stepA 0 rfl hA hF)).put (d := 30) (v := .tuple #[vi ao_33, vi ae_34]) (by decide)
      clear hF
      refine hS.opsC 5 [0, 0, 0, 0, 0] [4, 5, 6] fun _ => seg [(18, vi ao_33), (19, vi ae_34)] [(0, none), (2, none), (3, none), (4, none)] [] trivial fun ac wd hS => ?_
      refine list_nil_seq ?_
      refine wp_region_seq ?_
      refine hS.opsC 3 [100, 0, 200] [4, 6, 18, 19] fun _ => seg [(34, .agg #[vi 1, vi 0, vi 0, vi 0, vnil]), (36, vi k)] [(0, none), (1, none), (3, none)] [.e (ν1 1), .e (ν1 0), .e (ν1 0), .e (ν1 0), .e (ν1 0), .e (ν1 0)] trivial fun ac wd hS => ?_
      refine hS.call0 65 #[.agg #[vi 1, vi 0, vi 0, vi 0, vnil], vi k] 37 (r8_Alloc0 k _  ) fun ac wd hS => ?_
      refine hS.opsC 8 [0, 0, 0, 0, 0, 300, 0, 0] [4, 6, 18, 19] fun ν36 => seg [(20, pt (ν36 0) 0), (21, vi 0), (22, vi (g0E k))] [(0, none), (1, none), (2, none), (3, some ((ν36 0), .cells [vi 1, vi 0, vi 0, vi 0, vnil] 34))] [.e (ν36 0), .e (ν36 0), .e (ν36 0), .e (ν36 0), .e (ν36 0)] trivial fun ac wd hS => ?_
      refine list_nil_seq ?_
      refine St.ordBeginS [(0, 1), (1, 1), (2, 1), (3, 1), (4, 1), (5, 1), (6, 1), (7, 1), (8, 1), (9, 1), (10, 1), (11, 1), (12, 1), (13, 1), (14, 1), (15, 1), (16, 1), (17, 1), (18, 1), (19, 1), (20, 1), (21, 1), (22, 1), (23, 1), (24, 1), (25, 0), (26, 1)] [(1, .fn 0 64 dbT), ((ν1 0), .cells [vi 1, vi 0, vi 0, vi 0, vnil] 34), ((ν36 0), .cells [vi 1, vi 0, vi 0, vi 0, vnil] 34)] [0, 1, 3] hS fun wd hS => ?_
      have hap := hS.mem.pairs (Hf := [(1, .fn 0 64 dbT), ((ν1 0), .cells [vi 1, vi 0, vi 0, vi 0, vnil] 34), ((ν36 0), .cells [vi 1, vi 0, vi 0, vi 0, vnil] 34)]) (l := [0, 1, 3])
      refine St.ordF [200, 0, 0, 0, 0, 3, 3, 3, 3, 3, 83, 3, 3, 3, 3, 3, 3, 3, 103, 3, 3, 3, 83, 83, 80] [0, 1, 2, 3, 4, 5, 6, 7, 8, 9, 10, 11, 12, 13, 14, 15, 16, 17, 18, 19, 20, 21, 22, 23, 24] [6] (rest := [(25, 0), (26, 1)]) hS hap <| segF [(41, .agg #[vi 1, vi 0, vi 0, vi 0, vnil]), (65, vb (((ae_34 : Int) == (g0E k)) && (((((g0E k) : Int) != 0) && ((ao_33 : Int) == 0)) || ((((g0E k) : Int) == 0) && ((ao_33 : Int) == 4096)))))] [.p ((((((g0E k) : Int) == 0) = true) ∧ (((((g0E k) : Int) != 0) && ((ao_33 : Int) == 0)) = false) ∧ (((ae_34 : Int) == (g0E k)) = true) ∧ True) → AllP [((ν1 0) : Nat) = (ν1 0)]), .e (ν36 0), .e (ν36 0), .e (ν36 0), .e (ν36 0), .e (ν36 0)] ⟨(fun ⟨hc0, hc1, hc2, _⟩ => by replace hc0 := nrm hc0; replace hc1 := nrm hc1; replace hc2 := nrm hc2; exact ⟨rfl, trivial⟩), trivial⟩ fun ac hS => ?_
      refine St.ord1 25 [200] [6, 65] [0, 1, 3] hS rfl fun _ => seg [] [(0, none), (1, none), (2, some ((ν1 2), .cells [vi 1, vi 0, vi 0, vi 0, vnil] 34)), (3, none)] [.e (ν1 2), .e (ν1 2), .e (ν1 2), .e (ν1 2), .e (ν1 2)] trivial ⟨by as_aux_lemma => kernel_rfl, fun ac wd hS => ?_⟩
      refine St.ordF [0] [26] [6] (rest := []) hS hap <| segF [(7, vb (((ae_34 : Int) == (g0E k)) && (((((g0E k) : Int) != 0) && ((ao_33 : Int) == 0)) || ((((g0E k) : Int) == 0) && ((ao_33 : Int) == 4096)))))] [] trivial fun ac hS => ?_
      refine ord_nil ?_
      refine wp_ret ?_
      refine pop_block_ret ?_
      refine pop_then_ret ?_
      refine St.retC 2 hS (.tuple #[.agg #[vi 1, vi 0, vi 0, vi 0, vnil], vb (((ae_34 : Int) == (g0E k)) && (((((g0E k) : Int) != 0) && ((ao_33 : Int) == 0)) || ((((g0E k) : Int) == 0) && ((ao_33 : Int) == 4096))))]) [.e (ν1 2), .e (ν1 2), .e (ν1 2), .e (ν1 2), .e (ν1 2)] trivial fun hw => ?_
      refine ⟨g235, r236, mo37, q238, Q239, .agg #[vi 1, vi 0, vi 0, vi 0, vnil], (((ae_34 : Int) == (g0E k)) && (((((g0E k) : Int) != 0) && ((ao_33 : Int) == 0)) || ((((g0E k) : Int) == 0) && ((ao_33 : Int) == 4096)))), F40, retd (tuple2 ?_ rfl), ?_, ?_, ?_, ?_, (hw.res 0), hw.frA⟩
      all_goals (first | rfl | assumption | exact hB.refM n | exact hfl | exact FreeP.full hfl (by assumption) | exact refM_keep n | exact KeepT.b2 (by assumption) | exact KeepT.b1 (by assumption) | exact .inl ⟨by omega, rfl, rfl, by assumption⟩ | exact .inr (.inl ⟨by omega, rfl, rfl, by assumption, by assumption⟩) | exact .inr (.inr (.inl ⟨by omega, rfl, by assumption⟩)) | exact .inr (.inr (.inr (.inl ⟨by omega, rfl, rfl, rfl⟩))) | exact .inr (.inr (.inr (.inr ⟨by omega, by omega, by omega, by omega, by omega, _, _, by assumption⟩))))
 ·
  refine hS.regC [0, 0] [0, 4, 5, 6, 8, 9, 25] fun _ => seg [(66, vb (((d % 8) : Int) == 4))] [(0, none), (1, none), (2, none), (3, none), (4, none)] [] trivial fun ac wd hS => ?_
  refine pop_then ?_
  refine hS.condC (((d % 8) : Int) == 4) (fun hb45o hb45 => ?_) (fun hb45o hb45 => ?_)
  ·
   refine wp_region_seq ?_
   refine hS.opsC 3 [0, 0, 300] [0, 4, 6] fun _ => seg [(69, pt bb 0), (71, vi n)] [(0, none), (1, none), (2, none), (4, none)] [.e (ν1 1)] trivial fun ac wd hS => ?_
   refine hS.call0 26 #[pt bb 0, vi n] 72 (l08_Pick b F m bb N n g r q Q _ (hS.mem.res 0) (hS.mem.get 0 1 (.fn 0 64 dbT)) (hS.mem.get 1 bb (.fn 0 12 (roF [pt b 0, vi 1, vi ((N : Nat) : Int), pt b 0, vi 0, vi 256, pt b 0, vi 0, vi 88, pt b 0, vi 257, vi ((N : Nat) : Int)]))) (by exact hB) (by exact hfl)) fun ac wd hS => ?_
   refine hS.opsC 1 [0] [0, 4, 6] fun _ => seg [(10, vi (pkA (rnTo q g) n))] [(0, none), (1, none), (2, none), (3, none)] [] trivial fun ac wd hS => ?_
   refine list_nil_seq ?_
   refine wp_region_seq ?_
   refine hS.opsC 2 [0, 0] [0, 4, 6, 10] fun _ => seg [(74, pt bb 0), (75, vi (pkA (rnTo q g) n))] [(0, none), (1, none), (2, none), (3, none)] [] trivial fun ac wd hS => ?_
   refine hS.call0 18 #[pt bb 0, vi (pkA (rnTo q g) n)] 76 (bu_Order b F m bb N (pkA (rnTo q g) n) g r q Q _ (hS.mem.res 0) (hS.mem.get 1 bb (.fn 0 12 (roF [pt b 0, vi 1, vi ((N : Nat) : Int), pt b 0, vi 0, vi 256, pt b 0, vi 0, vi 88, pt b 0, vi 257, vi ((N : Nat) : Int)]))) (by exact hB) (by (have := pk_rng hB n; omega))) fun ac wd hS => ?_
   refine hS.opsC 5 [0, 0, 0, 0, 0] [0, 4, 6, 10] fun _ => seg [(11, vi (tkK q (pkA (rnTo q g) n))), (12, vi (tkE q (pkA (rnTo q g) n)))] [(0, none), (1, none), (2, none), (3, none)] [] trivial fun ac wd hS => ?_
   refine list_nil_seq ?_
   refine wp_region_seq ?_
   refine hS.opsC 6 [200, 0, 20, 0, 200, 20] [0, 4, 6, 10, 11, 12] fun _ => seg [(80, .agg #[vi 1, vi 0, vi 0, vi 0, vnil]), (85, vi (((pkA (rnTo q g) n) / 4096) - 1))] [(0, none), (1, none), (2, none), (3, none)] [.p (fit .i64 (((pkA (rnTo q g) n) / 4096) - 1)), .e (ν1 0), .p ((4096 : Int) ≠ 0 ∧ IntKind.i64.wrap (Int.tdiv (pkA (rnTo q g) n) 4096) = (pkA (rnTo q g) n) / 4096), .e (ν1 0), .e (ν1 0), .e (ν1 0), .e (ν1 0), .e (ν1 0)] ⟨fit_i64 (by omega), quo2 (by omega) (by omega) (by omega), trivial⟩ fun ac wd hS => ?_
   refine hS.call0 61 #[.agg #[vi 1, vi 0, vi 0, vi 0, vnil], vi (((pkA (rnTo q g) n) / 4096) - 1)] 86 (r8_Order0 (((pkA (rnTo q g) n) / 4096) - 1) _  ) fun ac wd hS => ?_
   refine hS.opsC 5 [0, 0, 0, 0, 0] [0, 4, 6, 10, 11, 12] fun _ => seg [(13, vi 0), (14, vi 8)] [(0, none), (1, none), (2, none), (3, none)] [] trivial fun ac wd hS => ?_
   refine list_nil_seq ?_
   refine wp_region_seq ?_
   refine hS.opsC 2 [0, 0] [4, 6, 10, 11, 12, 13, 14] fun _ => seg [(89, pt bb 0), (90, vi (pkA (rnTo q g) n))] [(0, none), (1, none), (2, none), (3, none)] [] trivial fun ac wd hS => ?_
   refine hS.callC 19 #[pt bb 0, vi (pkA (rnTo q g) n)] (bu_Free b F m bb N (pkA (rnTo q g) n) g r q Q _ (hS.mem.res 0) (hS.mem.get 1 bb (.fn 0 12 (roF [pt b 0, vi 1, vi ((N : Nat) : Int), pt b 0, vi 0, vi 256, pt b 0, vi 0, vi 88, pt b 0, vi 257, vi ((N : Nat) : Int)]))) (hS.mem.nF (g := bb) (r := arR b F m) 1 0) (by exact hB) (by (have := pk_rng hB n; omega))) ?_
   rintro _ wd ⟨mo46, q247, Q248, F49, rfl, hB250, hF251, hK252, hA, hF⟩
   refine ⟨vi (tkE q (pkA (rnTo q g) n)), rfl, ?_⟩
   replace hS := (hS.to (hS.mem.stepA 0 rfl hA hF)).put (d := 91) (v := vi (tkE q (pkA (rnTo q g) n))) (by decide)
   clear hF
   refine hS.opsC 1 [0] [4, 6, 10, 11, 12, 13, 14] fun _ => seg [(8, vi (tkE q (pkA (rnTo q g) n)))] [(0, none), (2, none), (3, none)] [] trivial fun ac wd hS => ?_
   refine list_nil_seq ?_
   refine wp_region_seq ?_
   refine hS.opsC 6 [100, 0, 20, 0, 100, 20] [4, 6, 8, 11, 12, 13, 14] fun _ => seg [(93, .agg #[vi 1, vi 0, vi 0, vi 0, vnil]), (98, vi (((pkA (rnTo q g) n) / 4096) - 1))] [(0, none), (1, none), (2, none)] [.p (fit .i64 (((pkA (rnTo q g) n) / 4096) - 1)), .e (ν1 0), .p ((4096 : Int) ≠ 0 ∧ IntKind.i64.wrap (Int.tdiv (pkA (rnTo q g) n) 4096) = (pkA (rnTo q g) n) / 4096), .e (ν1 0), .e (ν1 0), .e (ν1 0), .e (ν1 0), .e (ν1 0)] ⟨fit_i64 (by omega), quo2 (by omega) (by omega) (by omega), trivial⟩ fun ac wd hS => ?_
   refine hS.call0 62 #[.agg #[vi 1, vi 0, vi 0, vi 0, vnil], vi (((pkA (rnTo q g) n) / 4096) - 1)] 99 (r8_Free0 (((pkA (rnTo q g) n) / 4096) - 1) _  ) fun ac wd hS => ?_
   refine hS.opsC 5 [0, 0, 0, 100, 0] [4, 6, 8, 11, 12, 13, 14] fun _ => seg [(9, vi 8)] [(0, none), (1, none), (2, none)] [.e (ν1 0), .e (ν1 0), .e (ν1 0), .e (ν1 0), .e (ν1 0)] trivial fun ac wd hS => ?_
   refine list_nil_seq ?_
   refine hS.regS [0, 0, 0, 0, 3, 3, 3, 80] [4, 6, 8, 9] fun _ => seg [(109, vb ((((tkK q (pkA (rnTo q g) n)) : Int) != 0) || (((tkE q (pkA (rnTo q g) n)) : Int) != 8)))] [(0, none), (1, none), (2, none)] [] trivial fun ac wd hS => ?_
   refine hS.condC ((((tkK q (pkA (rnTo q g) n)) : Int) != 0) || (((tkE q (pkA (rnTo q g) n)) : Int) != 8)) (fun hb53o hb53 => ?_) (fun hb53o hb53 => ?_)
   ·
    refine hS.regS [100, 200, 0] [6] fun _ => seg [(7, vb false)] [(0, none), (2, some ((ν1 2), .cells [vi 1, vi 0, vi 0, vi 0, vnil] 34))] [.e (ν1 2), .e (ν1 2), .e (ν1 2), .e (ν1 2), .e (ν1 2), .e (ν1 0), .e (ν1 0), .e (ν1 0), .e (ν1 0), .e (ν1 0)] trivial fun ac wd hS => ?_
    refine wp_ret ?_
    refine pop_block_ret ?_
    refine pop_then_ret ?_
    refine St.retC 1 hS (.tuple #[.agg #[vi 1, vi 0, vi 0, vi 0, vnil], vb false]) [.e (ν1 2), .e (ν1 2), .e (ν1 2), .e (ν1 2), .e (ν1 2)] trivial fun hw => ?_
    refine ⟨g, r, mo46, q247, Q248, .agg #[vi 1, vi 0, vi 0, vi 0, vnil], false, F49, retd (tuple2 ?_ rfl), ?_, ?_, ?_, ?_, (hw.res 0), hw.frA⟩
    all_goals (first | rfl | assumption | exact hB.refM n | exact hfl | exact FreeP.full hfl (by assumption) | exact refM_keep n | exact KeepT.b2 (by assumption) | exact KeepT.b1 (by assumption) | exact .inl ⟨by omega, rfl, rfl, by assumption⟩ | exact .inr (.inl ⟨by omega, rfl, rfl, by assumption, by assumption⟩) | exact .inr (.inr (.inl ⟨by omega, rfl, by assumption⟩)) | exact .inr (.inr (.inr (.inl ⟨by omega, rfl, rfl, rfl⟩))) | exact .inr (.inr (.inr (.inr ⟨by omega, by omega, by omega, by omega, by omega, _, _, by assumption⟩))))
   ·
    refine wp_skip ?_
    refine pop_block ?_
    refine pop_then ?_
    refine hS.regS [100, 0, 0, 0, 200, 0] [6] fun _ => seg [(7, vb (((tkE q (pkA (rnTo q g) n)) : Int) == 8))] [(0, none), (2, some ((ν1 2), .cells [vi 1, vi 0, vi 0, vi 0, vnil] 34))] [.e (ν1 2), .e (ν1 2), .e (ν1 2), .e (ν1 2), .e (ν1 2), .e (ν1 0), .e (ν1 0), .e (ν1 0), .e (ν1 0), .e (ν1 0)] trivial fun ac wd hS => ?_
    refine wp_ret ?_
    refine St.retC 1 hS (.tuple #[.agg #[vi 1, vi 0, vi 0, vi 0, vnil], vb (((tkE q (pkA (rnTo q g) n)) : Int) == 8)]) [.e (ν1 2), .e (ν1 2), .e (ν1 2), .e (ν1 2), .e (ν1 2)] trivial fun hw => ?_
    refine ⟨g, r, mo46, q247, Q248, .agg #[vi 1, vi 0, vi 0, vi 0, vnil], (((tkE q (pkA (rnTo q g) n)) : Int) == 8), F49, retd (tuple2 ?_ rfl), ?_, ?_, ?_, ?_, (hw.res 0), hw.frA⟩
    all_goals (first | rfl | assumption | exact hB.refM n | exact hfl | exact FreeP.full hfl (by assumption) | exact refM_keep n | exact KeepT.b2 (by assumption) | exact KeepT.b1 (by assumption) | exact .inl ⟨by omega, rfl, rfl, by assumption⟩ | exact .inr (.inl ⟨by omega, rfl, rfl, by assumption, by assumption⟩) | exact .inr (.inr (.inl ⟨by omega, rfl, by assumption⟩)) | exact .inr (.inr (.inr (.inl ⟨by omega, rfl, rfl, rfl⟩))) | exact .inr (.inr (.inr (.inr ⟨by omega, by omega, by omega, by omega, by omega, _, _, by assumption⟩))))
  ·
   refine hS.regS [0, 0] [0, 4, 5, 6, 8, 9, 25] fun _ => seg [(111, vb (((d % 8) : Int) == 5))] [(0, none), (1, none), (2, none), (3, none), (4, none)] [] trivial fun ac wd hS => ?_
   refine hS.condC (((d % 8) : Int) == 5) (fun hb54o hb54 => ?_) (fun hb54o hb54 => ?_)
   ·
    refine wp_region_seq ?_
    refine hS.opsC 3 [0, 0, 300] [4, 5, 6, 8] fun _ => seg [(113, pt bb 0), (115, vi k)] [(0, none), (1, none), (2, none), (3, none), (4, none)] [.e (ν1 1)] trivial fun ac wd hS => ?_
    refine hS.callC 23 #[pt bb 0, vi k] (bu_Grow b F m bb N k g r q Q _ (hS.mem.res 0) (hS.mem.get 0 1 (.fn 0 64 dbT)) (hS.mem.get 1 bb (.fn 0 12 (roF [pt b 0, vi 1, vi ((N : Nat) : Int), pt b 0, vi 0, vi 256, pt b 0, vi 0, vi 88, pt b 0, vi 257, vi ((N : Nat) : Int)]))) (hS.mem.nF (g := 1) (r := arR b F m) 0 0) (hS.mem.nF (g := bb) (r := arR b F m) 1 0) (by exact hB) (by exact hfl)) ?_
    rintro _ wd ⟨mo55, q256, Q257, F58, rfl, hB259, hF260, hT261, hS262, hK263, hA, hF⟩
    refine ⟨vi (gwE N g r k), rfl, ?_⟩
    replace hS := (hS.to (hS.mem.stepA 0 rfl hA hF)).put (d := 116) (v := vi (gwE N g r k)) (by decide)
    clear hF
    refine hS.opsC 1 [0] [4, 5, 6] fun _ => seg [(8, vi (gwE N g r k))] [(0, none), (2, none), (3, none), (4, none)] [] trivial fun ac wd hS => ?_
    refine list_nil_seq ?_
    refine wp_region_lit ?_
    refine hS.opsC 3 [100, 0, 200] [4, 6, 8] fun _ => seg [(118, .agg #[vi 1, vi 0, vi 0, vi 0, vnil]), (120, vi k)] [(0, none), (1, none), (3, none)] [.e (ν1 1), .e (ν1 0), .e (ν1 0), .e (ν1 0), .e (ν1 0), .e (ν1 0)] trivial fun ac wd hS => ?_
    refine hS.call0 63 #[.agg #[vi 1, vi 0, vi 0, vi 0, vnil], vi k] 121 (r8_Grow0 k _  ) fun ac wd hS => ?_
    refine hS.opsC 5 [0, 0, 0, 100, 0] [4, 6, 8] fun _ => seg [(9, vi (g0E k))] [(0, none), (1, none), (2, none)] [.e (ν1 0), .e (ν1 0), .e (ν1 0), .e (ν1 0), .e (ν1 0)] trivial fun ac wd hS => ?_
    refine list_nil ?_
    refine pop_block ?_
    refine pop_then ?_
    refine hS.regS [100, 0, 0, 0, 200, 0] [6] fun _ => seg [(7, vb (((gwE N g r k) : Int) == (g0E k)))] [(0, none), (2, some ((ν1 2), .cells [vi 1, vi 0, vi 0, vi 0, vnil] 34))] [.e (ν1 2), .e (ν1 2), .e (ν1 2), .e (ν1 2), .e (ν1 2), .e (ν1 0), .e (ν1 0), .e (ν1 0), .e (ν1 0), .e (ν1 0)] trivial fun ac wd hS => ?_
    refine wp_ret ?_
    refine St.retC 1 hS (.tuple #[.agg #[vi 1, vi 0, vi 0, vi 0, vnil], vb (((gwE N g r k) : Int) == (g0E k))]) [.e (ν1 2), .e (ν1 2), .e (ν1 2), .e (ν1 2), .e (ν1 2)] trivial fun hw => ?_
    refine ⟨(gwG N g r k), (gwR N g r k), mo55, q256, Q257, .agg #[vi 1, vi 0, vi 0, vi 0, vnil], (((gwE N g r k) : Int) == (g0E k)), F58, retd (tuple2 ?_ rfl), ?_, ?_, ?_, ?_, (hw.res 0), hw.frA⟩
    all_goals (first | rfl | assumption | exact hB.refM n | exact hfl | exact FreeP.full hfl (by assumption) | exact refM_keep n | exact KeepT.b2 (by assumption) | exact KeepT.b1 (by assumption) | exact .inl ⟨by omega, rfl, rfl, by assumption⟩ | exact .inr (.inl ⟨by omega, rfl, rfl, by assumption, by assumption⟩) | exact .inr (.inr (.inl ⟨by omega, rfl, by assumption⟩)) | exact .inr (.inr (.inr (.inl ⟨by omega, rfl, rfl, rfl⟩))) | exact .inr (.inr (.inr (.inr ⟨by omega, by omega, by omega, by omega, by omega, _, _, by assumption⟩))))
   ·
    refine hS.regS [0, 0] [0, 4, 5, 6, 8, 9, 25] fun _ => seg [(124, vb (((d % 8) : Int) == 6))] [(0, none), (1, none), (2, none), (3, none), (4, none)] [] trivial fun ac wd hS => ?_
    refine hS.condC (((d % 8) : Int) == 6) (fun hb64o hb64 => ?_) (fun hb64o hb64 => ?_)
    ·
     refine wp_region_seq ?_
     refine hS.opsC 1 [0] [4, 6] fun _ => seg [(126, pt bb 0)] [(0, none), (1, none), (2, none), (4, none)] [] trivial fun ac wd hS => ?_
     refine hS.callC 25 #[pt bb 0] (bu_Shrink b F m bb N g r q Q _ (hS.mem.res 0) (hS.mem.get 1 bb (.fn 0 12 (roF [pt b 0, vi 1, vi ((N : Nat) : Int), pt b 0, vi 0, vi 256, pt b 0, vi 0, vi 88, pt b 0, vi 257, vi ((N : Nat) : Int)]))) (hS.mem.nF (g := bb) (r := arR b F m) 1 0) (by exact hB) (by exact hfl)) ?_
     rintro _ wd ⟨g265, mo66, q267, Q268, F69, rfl, hB270, hF271, hS272, hK273, hA, hF⟩
     refine ⟨vi ((g : Int) - (g265 : Int)), rfl, ?_⟩
     replace hS := (hS.to (hS.mem.stepA 0 rfl hA hF)).put (d := 127) (v := vi ((g : Int) - (g265 : Int))) (by decide)
     clear hF
     refine hS.opsC 1 [0] [4, 6] fun _ => seg [(15, vi ((g : Int) - (g265 : Int)))] [(0, none), (2, none), (3, none)] [] trivial fun ac wd hS => ?_
     refine list_nil_seq ?_
     refine wp_region_seq ?_
     refine hS.opsC 1 [100] [6, 15] fun _ => seg [(129, .agg #[vi 1, vi 0, vi 0, vi 0, vnil])] [(0, none), (2, none)] [.e (ν1 0), .e (ν1 0), .e (ν1 0), .e (ν1 0), .e (ν1 0)] trivial fun ac wd hS => ?_
     refine hS.call0 64 #[.agg #[vi 1, vi 0, vi 0, vi 0, vnil]] 130 (r8_Shrink0  _  ) fun ac wd hS => ?_
     refine hS.opsC 6 [0, 0, 0, 0, 200, 0] [6, 15] fun ν62 => seg [(16, pt (ν62 0) 0), (17, vi 0)] [(0, none), (1, none), (2, some ((ν62 0), .cells [vi 1, vi 0, vi 0, vi 0, vnil] 34))] [.e (ν62 0), .e (ν62 0), .e (ν62 0), .e (ν62 0), .e (ν62 0)] trivial fun ac wd hS => ?_
     refine list_nil_seq ?_
     refine hS.regS [200, 0, 0, 0, 100, 0] [6] fun _ => seg [(7, vb ((((g : Int) - (g265 : Int)) : Int) == 0))] [(0, none), (1, some ((ν1 2), .cells [vi 1, vi 0, vi 0, vi 0, vnil] 34))] [.e (ν1 2), .e (ν1 2), .e (ν1 2), .e (ν1 2), .e (ν1 2), .e (ν62 0), .e (ν62 0), .e (ν62 0), .e (ν62 0), .e (ν62 0)] trivial fun ac wd hS => ?_
     refine wp_ret ?_
     refine pop_block_ret ?_
     refine pop_then_ret ?_
     refine St.retC 1 hS (.tuple #[.agg #[vi 1, vi 0, vi 0, vi 0, vnil], vb ((((g : Int) - (g265 : Int)) : Int) == 0)]) [.e (ν1 2), .e (ν1 2), .e (ν1 2), .e (ν1 2), .e (ν1 2)] trivial fun hw => ?_
     refine ⟨g265, r, mo66, q267, Q268, .agg #[vi 1, vi 0, vi 0, vi 0, vnil], ((((g : Int) - (g265 : Int)) : Int) == 0), F69, retd (tuple2 ?_ rfl), ?_, ?_, ?_, ?_, (hw.res 0), hw.frA⟩
     all_goals (first | rfl | assumption | exact hB.refM n | exact hfl | exact FreeP.full hfl (by assumption) | exact refM_keep n | exact KeepT.b2 (by assumption) | exact KeepT.b1 (by assumption) | exact .inl ⟨by omega, rfl, rfl, by assumption⟩ | exact .inr (.inl ⟨by omega, rfl, rfl, by assumption, by assumption⟩) | exact .inr (.inr (.inl ⟨by omega, rfl, by assumption⟩)) | exact .inr (.inr (.inr (.inl ⟨by omega, rfl, rfl, rfl⟩))) | exact .inr (.inr (.inr (.inr ⟨by omega, by omega, by omega, by omega, by omega, _, _, by assumption⟩))))
    ·
     refine hS.regS [0, 0] [0, 4, 5, 6, 8, 9] fun _ => seg [(137, vb (((d % 8) : Int) == 7))] [(0, none), (1, none), (2, none), (3, none), (4, none)] [] trivial fun ac wd hS => ?_
     refine hS.condC (((d % 8) : Int) == 7) (fun hb74o hb74 => ?_) (fun hb74o hb74 => ?_)
     ·
      refine St.ordBeginS [(0, 1), (1, 1), (2, 1), (3, 1), (4, 1), (5, 1), (6, 0)] [(1, .fn 0 64 dbT), (bb, .fn 0 12 (roF [pt b 0, vi 1, vi ((N : Nat) : Int), pt b 0, vi 0, vi 256, pt b 0, vi 0, vi 88, pt b 0, vi 257, vi ((N : Nat) : Int)])), ((ν1 0), .cells [vi 1, vi 0, vi 0, vi 0, vnil] 34), ((ν1 1), .cells [v8 d, vi k, vi n] 31), ((ν1 2), .cells [vi 0, vi 0, vi 0, vi 0, vnil] 34)] [0, 1, 2, 3, 4] hS fun wd hS => ?_
      have hap := hS.mem.pairs (Hf := [(1, .fn 0 64 dbT), (bb, .fn 0 12 (roF [pt b 0, vi 1, vi ((N : Nat) : Int), pt b 0, vi 0, vi 256, pt b 0, vi 0, vi 88, pt b 0, vi 257, vi ((N : Nat) : Int)])), ((ν1 0), .cells [vi 1, vi 0, vi 0, vi 0, vnil] 34), ((ν1 1), .cells [v8 d, vi k, vi n] 31), ((ν1 2), .cells [vi 0, vi 0, vi 0, vi 0, vnil] 34)]) (l := [0, 1, 2, 3, 4])
      refine St.ordF [0, 0, 0, 100, 0, 300] [0, 1, 2, 3, 4, 5] [4, 5, 6, 8, 9] (rest := [(6, 0)]) hS hap <| segF [(142, pt b 0), (144, vi n)] [.e (ν1 1), .e bb, .p (0 ≤ 0 ∧ 0 < 12)] ⟨(by decide), trivial⟩ fun ac hS => ?_
      refine hS.ordC 6 28 #[pt b 0, vi n] (ar_Refuse b F m n _ (hS.mem.res 0) (by first | assumption | omega | (simp_all; done) | (simp_all; omega))) ?_
      rintro _ wd ⟨F75, rfl, hA, hF⟩
      refine ⟨.tuple #[], rfl, ?_⟩
      replace hS := (hS.to (hS.mem.stepA 0 rfl hA hF)).put (d := 145) (v := .tuple #[]) (by decide)
      clear hF
      refine hS.ordV (l := [0, 1, 2, 3, 4]) ?_
      refine ord_nil ?_
      refine hS.regC [0, 300, 0, 0, 200] [4, 6, 8, 9] fun _ => seg [] [(0, none), (2, some ((ν1 0), .cells [vi 1, vi 0, vi 0, vi (imax n 0), vnil] 34)), (4, none)] [.e (ν1 0), .e (ν1 1)] trivial fun ac wd hS => ?_
      refine pop_block ?_
      refine pop_then ?_
      refine hS.regS [100, 0, 0, 0, 200, 0] [6] fun _ => seg [(7, vb true)] [(0, none), (2, some ((ν1 2), .cells [vi 1, vi 0, vi 0, vi (imax n 0), vnil] 34))] [.e (ν1 2), .e (ν1 2), .e (ν1 2), .e (ν1 2), .e (ν1 2), .e (ν1 0), .e (ν1 0), .e (ν1 0), .e (ν1 0), .e (ν1 0)] trivial fun ac wd hS => ?_
      refine wp_ret ?_
      refine St.retC 1 hS (.tuple #[.agg #[vi 1, vi 0, vi 0, vi (imax n 0), vnil], vb true]) [.e (ν1 2), .e (ν1 2), .e (ν1 2), .e (ν1 2), .e (ν1 2)] trivial fun hw => ?_
      refine ⟨g, (imax 0 n), (refM m n), q, Q, .agg #[vi 1, vi 0, vi 0, vi (imax n 0), vnil], true, F75, retd (tuple2 ?_ rfl), ?_, ?_, ?_, ?_, (hw.res 0), hw.frA⟩
      all_goals (first | rfl | assumption | exact hB.refM n | exact hfl | exact FreeP.full hfl (by assumption) | exact refM_keep n | exact KeepT.b2 (by assumption) | exact KeepT.b1 (by assumption) | exact .inl ⟨by omega, rfl, rfl, by assumption⟩ | exact .inr (.inl ⟨by omega, rfl, rfl, by assumption, by assumption⟩) | exact .inr (.inr (.inl ⟨by omega, rfl, by assumption⟩)) | exact .inr (.inr (.inr (.inl ⟨by omega, rfl, rfl, rfl⟩))) | exact .inr (.inr (.inr (.inr ⟨by omega, by omega, by omega, by omega, by omega, _, _, by assumption⟩))))
     ·
      refine wp_region_seq ?_
      refine hS.opsC 3 [0, 0, 300] [4, 5, 6] fun _ => seg [(27, pt bb 0), (29, vi k)] [(0, none), (1, none), (2, none), (3, none), (4, none)] [.e (ν1 1)] trivial fun ac wd hS => ?_
      refine hS.callC 21 #[pt bb 0, vi k] (bu_Alloc b F m bb N k g r q Q _ (hS.mem.res 0) (hS.mem.get 0 1 (.fn 0 64 dbT)) (hS.mem.get 1 bb (.fn 0 12 (roF [pt b 0, vi 1, vi ((N : Nat) : Int), pt b 0, vi 0, vi 256, pt b 0, vi 0, vi 88, pt b 0, vi 257, vi ((N : Nat) : Int)]))) (hS.mem.nF (g := 1) (r := arR b F m) 0 0) (hS.mem.nF (g := bb) (r := arR b F m) 1 0) (by exact hB) (by exact hfl)) ?_
      rintro _ wd ⟨ao_76, ae_77, g278, r279, mo80, q281, Q282, F83, rfl, hB284, hF285, hA286, hK287, hA, hF⟩
      refine ⟨.tuple #[vi ao_76, vi ae_77], rfl, ?_⟩
      replace hS := (hS.to (hS.mem.stepA 0 rfl hA hF)).put (d := 30) (v := .tuple #[vi ao_76, vi ae_77]) (by decide)
      clear hF
      refine hS.opsC 5 [0, 0, 0, 0, 0] [4, 5, 6] fun _ => seg [(18, vi ao_76), (19, vi ae_77)] [(0, none), (2, none), (3, none), (4, none)] [] trivial fun ac wd hS => ?_
      refine list_nil_seq ?_
      refine wp_region_seq ?_
      refine hS.opsC 3 [100, 0, 200] [4, 6, 18, 19] fun _ => seg [(34, .agg #[vi 1, vi 0, vi 0, vi 0, vnil]), (36, vi k)] [(0, none), (1, none), (3, none)] [.e (ν1 1), .e (ν1 0), .e (ν1 0), .e (ν1 0), .e (ν1 0), .e (ν1 0)] trivial fun ac wd hS => ?_
      refine hS.call0 65 #[.agg #[vi 1, vi 0, vi 0, vi 0, vnil], vi k] 37 (r8_Alloc0 k _  ) fun ac wd hS => ?_
      refine hS.opsC 8 [0, 0, 0, 0, 0, 300, 0, 0] [4, 6, 18, 19] fun ν70 => seg [(20, pt (ν70 0) 0), (21, vi 0), (22, vi (g0E k))] [(0, none), (1, none), (2, none), (3, some ((ν70 0), .cells [vi 1, vi 0, vi 0, vi 0, vnil] 34))] [.e (ν70 0), .e (ν70 0), .e (ν70 0), .e (ν70 0), .e (ν70 0)] trivial fun ac wd hS => ?_
      refine list_nil_seq ?_
      refine St.ordBeginS [(0, 1), (1, 1), (2, 1), (3, 1), (4, 1), (5, 1), (6, 1), (7, 1), (8, 1), (9, 1), (10, 1), (11, 1), (12, 1), (13, 1), (14, 1), (15, 1), (16, 1), (17, 1), (18, 1), (19, 1), (20, 1), (21, 1), (22, 1), (23, 1), (24, 1), (25, 0), (26, 1)] [(1, .fn 0 64 dbT), ((ν1 0), .cells [vi 1, vi 0, vi 0, vi 0, vnil] 34), ((ν70 0), .cells [vi 1, vi 0, vi 0, vi 0, vnil] 34)] [0, 1, 3] hS fun wd hS => ?_
      have hap := hS.mem.pairs (Hf := [(1, .fn 0 64 dbT), ((ν1 0), .cells [vi 1, vi 0, vi 0, vi 0, vnil] 34), ((ν70 0), .cells [vi 1, vi 0, vi 0, vi 0, vnil] 34)]) (l := [0, 1, 3])
      refine St.ordF [200, 0, 0, 0, 0, 3, 3, 3, 3, 3, 83, 3, 3, 3, 3, 3, 3, 3, 103, 3, 3, 3, 83, 83, 80] [0, 1, 2, 3, 4, 5, 6, 7, 8, 9, 10, 11, 12, 13, 14, 15, 16, 17, 18, 19, 20, 21, 22, 23, 24] [6] (rest := [(25, 0), (26, 1)]) hS hap <| segF [(41, .agg #[vi 1, vi 0, vi 0, vi 0, vnil]), (65, vb (((ae_77 : Int) == (g0E k)) && (((((g0E k) : Int) != 0) && ((ao_76 : Int) == 0)) || ((((g0E k) : Int) == 0) && ((ao_76 : Int) == 4096)))))] [.p ((((((g0E k) : Int) == 0) = true) ∧ (((((g0E k) : Int) != 0) && ((ao_76 : Int) == 0)) = false) ∧ (((ae_77 : Int) == (g0E k)) = true) ∧ True) → AllP [((ν1 0) : Nat) = (ν1 0)]), .e (ν70 0), .e (ν70 0), .e (ν70 0), .e (ν70 0), .e (ν70 0)] ⟨(fun ⟨hc0, hc1, hc2, _⟩ => by replace hc0 := nrm hc0; replace hc1 := nrm hc1; replace hc2 := nrm hc2; exact ⟨rfl, trivial⟩), trivial⟩ fun ac hS => ?_
      refine St.ord1 25 [200] [6, 65] [0, 1, 3] hS rfl fun _ => seg [] [(0, none), (1, none), (2, some ((ν1 2), .cells [vi 1, vi 0, vi 0, vi 0, vnil] 34)), (3, none)] [.e (ν1 2), .e (ν1 2), .e (ν1 2), .e (ν1 2), .e (ν1 2)] trivial ⟨by as_aux_lemma => kernel_rfl, fun ac wd hS => ?_⟩
      refine St.ordF [0] [26] [6] (rest := []) hS hap <| segF [(7, vb (((ae_77 : Int) == (g0E k)) && (((((g0E k) : Int) != 0) && ((ao_76 : Int) == 0)) || ((((g0E k) : Int) == 0) && ((ao_76 : Int) == 4096)))))] [] trivial fun ac hS => ?_
      refine ord_nil ?_
      refine wp_ret ?_
      refine pop_block_ret ?_
      refine pop_then_ret ?_
      refine St.retC 2 hS (.tuple #[.agg #[vi 1, vi 0, vi 0, vi 0, vnil], vb (((ae_77 : Int) == (g0E k)) && (((((g0E k) : Int) != 0) && ((ao_76 : Int) == 0)) || ((((g0E k) : Int) == 0) && ((ao_76 : Int) == 4096))))]) [.e (ν1 2), .e (ν1 2), .e (ν1 2), .e (ν1 2), .e (ν1 2)] trivial fun hw => ?_
      refine ⟨g278, r279, mo80, q281, Q282, .agg #[vi 1, vi 0, vi 0, vi 0, vnil], (((ae_77 : Int) == (g0E k)) && (((((g0E k) : Int) != 0) && ((ao_76 : Int) == 0)) || ((((g0E k) : Int) == 0) && ((ao_76 : Int) == 4096)))), F83, retd (tuple2 ?_ rfl), ?_, ?_, ?_, ?_, (hw.res 0), hw.frA⟩
      all_goals (first | rfl | assumption | exact hB.refM n | exact hfl | exact FreeP.full hfl (by assumption) | exact refM_keep n | exact KeepT.b2 (by assumption) | exact KeepT.b1 (by assumption) | exact .inl ⟨by omega, rfl, rfl, by assumption⟩ | exact .inr (.inl ⟨by omega, rfl, rfl, by assumption, by assumption⟩) | exact .inr (.inr (.inl ⟨by omega, rfl, by assumption⟩)) | exact .inr (.inr (.inr (.inl ⟨by omega, rfl, rfl, rfl⟩))) | exact .inr (.inr (.inr (.inr ⟨by omega, by omega, by omega, by omega, by omega, _, _, by assumption⟩))))

end Go.Proofs.YtojjkjedcafpeaaGreatDoor.K
