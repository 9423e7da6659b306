/-
  Walks, printed by w2.py.
-/
import Derived.Test.YtghohcgbmceiaaaDoorHg
import Derived.Test.YtghohcgbmceiaaaDoorProg
namespace Go.Proofs.YtghohcgbmceiaaaDoor.K
set_option linter.unusedVariables false
set_option linter.unusedSimpArgs false

set_option maxRecDepth 100000 in
set_option maxHeartbeats 1000000 in
theorem law21_awake (w : World) (hh0 : HE.holds w 1 (.fn 0 64 dbT)) :
    Calls Tryd.prog 81 #[] w fun e w' => e = .returned (vb true) ∧ Fr w w' no no := by
 refine enter (args := []) (D := no) (A := []) Tryd.func81 rfl 68 rfl [(1, .fn 0 64 dbT)] (WS.startL ⟨⟨rfl, hh0⟩, trivial⟩) fun ac hS => ?_
 refine hS.regS [0] [] fun _ => seg [] [(0, none)] [] trivial fun ac wd hS => ?_
 refine wp_region_seq ?_
 refine hS.callC 80 #[vi 96] (law21_open 96 _  (by first | decide | decide +kernel)) ?_
 rintro _ wd ⟨b'1, F2, rfl, hN, hF⟩
 refine ⟨.tuple #[pt b'1 0, .agg #[pt b'1 0, vi 40, vi 96], vb true], rfl, ?_⟩
 replace hS := (hS.to (hS.mem.newA hN hF)).put (d := 12) (v := .tuple #[pt b'1 0, .agg #[pt b'1 0, vi 40, vi 96], vb true]) (by decide)
 clear hF
 refine hS.opsC 8 [0, 0, 0, 0, 0, 0, 100, 0] [] fun ν2 => seg [(2, pt (ν2 0) 0), (3, vb true)] [(0, none), (1, some ((ν2 0), .cells [pt b'1 0, vi 40, vi 96] 112))] [.e (ν2 0), .e (ν2 0), .e (ν2 0)] trivial fun ac wd hS => ?_
 refine list_nil_seq ?_
 refine wp_seq ?_
 refine hS.regS [0] [2, 3] fun _ => seg [(16, vu 0)] [(0, none), (1, none)] [] trivial fun ac wd hS => ?_
 refine wp_block ?_
 refine wp_loop_rounds 4 ?_
 refine rounds_in ?_
 refine hS.regS [0] [2, 3, 16] fun _ => seg [(17, vb true)] [(0, none), (1, none)] [] trivial fun ac wd hS => ?_
 refine wp_seq ?_
 refine hS.condT ?_
 refine wp_skip ?_
 refine pop_then ?_
 refine wp_seq ?_
 refine wp_block ?_
 refine hS.regS [0, 0] [2, 3, 16] fun _ => seg [(4, vu 0)] [(0, none), (1, none)] [] trivial fun ac wd hS => ?_
 refine wp_region_lit ?_
 refine hS.opsC 2 [0, 0] [2, 3, 4, 16] fun _ => seg [(20, vb true)] [(0, none), (1, none)] [] trivial fun ac wd hS => ?_
 refine hS.opsC 4 [101, 1, 1, 1] [2, 3, 16, 20] fun _ => seg [(21, .agg #[pt b'1 0, vi 40, vi 96]), (24, .agg #[vu 1, v8 0, v8 0, vu 0])] [(0, none), (1, none)] [.t true, .t true, .t true, .t true, .e (ν2 0), .e (ν2 0), .e (ν2 0)] trivial fun ac wd hS => ?_
 refine hS.callG true 82 #[.agg #[pt b'1 0, vi 40, vi 96], .agg #[vu 1, v8 0, v8 0, vu 0]] (cl_Add b'1 F2 (comM (AM.new 1) 0 1) 40 96 1 0 0 0 _ (hS.mem.res 0) (by first | decide | decide +kernel) (by first | decide | decide +kernel) (by first | decide | decide +kernel)) ?_
 rintro _ wd ⟨F3, rfl, hA, hF⟩
 refine ⟨vi (addE (comM (AM.new 1) 0 1) 40 96 1), rfl, ?_⟩
 replace hS := (hS.to (hS.mem.stepA 0 rfl hA hF)).put (d := 25) (v := vi (addE (comM (AM.new 1) 0 1) 40 96 1)) (by decide)
 clear hF
 replace hS := hS.fix 25 (vi 0) (show (vi (addE (comM (AM.new 1) 0 1) 40 96 1) : Value) = vi 0 from (vint (by decide +kernel)))
 refine hS.opsC 3 [1, 70, 0] [2, 16] fun _ => seg [(3, vb true)] [(0, none), (1, none)] [.t true, .t true] trivial fun ac wd hS => ?_
 refine list_nil ?_
 refine pop_block ?_
 refine pop_then ?_
 refine hS.regC [0, 0] [2, 3] fun _ => seg [(16, vu 1)] [(0, none), (1, none)] [] trivial fun ac wd hS => ?_
 refine pop_then ?_
 refine rounds_in ?_
 refine hS.regS [0] [2, 3, 16] fun _ => seg [(17, vb true)] [(0, none), (1, none)] [] trivial fun ac wd hS => ?_
 refine wp_seq ?_
 refine hS.condT ?_
 refine wp_skip ?_
 refine pop_then ?_
 refine wp_seq ?_
 refine wp_block ?_
 refine hS.regS [0, 0] [2, 3, 16] fun _ => seg [(4, vu 1)] [(0, none), (1, none)] [] trivial fun ac wd hS => ?_
 refine wp_region_lit ?_
 refine hS.opsC 2 [0, 0] [2, 3, 4, 16] fun _ => seg [(20, vb true)] [(0, none), (1, none)] [] trivial fun ac wd hS => ?_
 refine hS.opsC 4 [101, 1, 1, 1] [2, 3, 16, 20] fun _ => seg [(21, .agg #[pt b'1 0, vi 40, vi 96]), (24, .agg #[vu 2, v8 0, v8 0, vu 0])] [(0, none), (1, none)] [.t true, .t true, .t true, .t true, .e (ν2 0), .e (ν2 0), .e (ν2 0)] trivial fun ac wd hS => ?_
 refine hS.callG true 82 #[.agg #[pt b'1 0, vi 40, vi 96], .agg #[vu 2, v8 0, v8 0, vu 0]] (cl_Add b'1 F3 (addM (comM (AM.new 1) 0 1) 40 96 1 0 0 0) 40 96 2 0 0 0 _ (hS.mem.res 0) (by first | decide | decide +kernel) (by first | decide | decide +kernel) (by first | decide | decide +kernel)) ?_
 rintro _ wd ⟨F4, rfl, hA, hF⟩
 refine ⟨vi (addE (addM (comM (AM.new 1) 0 1) 40 96 1 0 0 0) 40 96 2), rfl, ?_⟩
 replace hS := (hS.to (hS.mem.stepA 0 rfl hA hF)).put (d := 25) (v := vi (addE (addM (comM (AM.new 1) 0 1) 40 96 1 0 0 0) 40 96 2)) (by decide)
 clear hF
 replace hS := hS.fix 25 (vi 0) (show (vi (addE (addM (comM (AM.new 1) 0 1) 40 96 1 0 0 0) 40 96 2) : Value) = vi 0 from (vint (by decide +kernel)))
 refine hS.opsC 3 [1, 70, 0] [2, 16] fun _ => seg [(3, vb true)] [(0, none), (1, none)] [.t true, .t true] trivial fun ac wd hS => ?_
 refine list_nil ?_
 refine pop_block ?_
 refine pop_then ?_
 refine hS.regC [0, 0] [2, 3] fun _ => seg [(16, vu 2)] [(0, none), (1, none)] [] trivial fun ac wd hS => ?_
 refine pop_then ?_
 refine rounds_in ?_
 refine hS.regS [0] [2, 3, 16] fun _ => seg [(17, vb true)] [(0, none), (1, none)] [] trivial fun ac wd hS => ?_
 refine wp_seq ?_
 refine hS.condT ?_
 refine wp_skip ?_
 refine pop_then ?_
 refine wp_seq ?_
 refine wp_block ?_
 refine hS.regS [0, 0] [2, 3, 16] fun _ => seg [(4, vu 2)] [(0, none), (1, none)] [] trivial fun ac wd hS => ?_
 refine wp_region_lit ?_
 refine hS.opsC 2 [0, 0] [2, 3, 4, 16] fun _ => seg [(20, vb true)] [(0, none), (1, none)] [] trivial fun ac wd hS => ?_
 refine hS.opsC 4 [101, 1, 1, 1] [2, 3, 16, 20] fun _ => seg [(21, .agg #[pt b'1 0, vi 40, vi 96]), (24, .agg #[vu 3, v8 0, v8 0, vu 0])] [(0, none), (1, none)] [.t true, .t true, .t true, .t true, .e (ν2 0), .e (ν2 0), .e (ν2 0)] trivial fun ac wd hS => ?_
 refine hS.callG true 82 #[.agg #[pt b'1 0, vi 40, vi 96], .agg #[vu 3, v8 0, v8 0, vu 0]] (cl_Add b'1 F4 (addM (addM (comM (AM.new 1) 0 1) 40 96 1 0 0 0) 40 96 2 0 0 0) 40 96 3 0 0 0 _ (hS.mem.res 0) (by first | decide | decide +kernel) (by first | decide | decide +kernel) (by first | decide | decide +kernel)) ?_
 rintro _ wd ⟨F5, rfl, hA, hF⟩
 refine ⟨vi (addE (addM (addM (comM (AM.new 1) 0 1) 40 96 1 0 0 0) 40 96 2 0 0 0) 40 96 3), rfl, ?_⟩
 replace hS := (hS.to (hS.mem.stepA 0 rfl hA hF)).put (d := 25) (v := vi (addE (addM (addM (comM (AM.new 1) 0 1) 40 96 1 0 0 0) 40 96 2 0 0 0) 40 96 3)) (by decide)
 clear hF
 replace hS := hS.fix 25 (vi 0) (show (vi (addE (addM (addM (comM (AM.new 1) 0 1) 40 96 1 0 0 0) 40 96 2 0 0 0) 40 96 3) : Value) = vi 0 from (vint (by decide +kernel)))
 refine hS.opsC 3 [1, 70, 0] [2, 16] fun _ => seg [(3, vb true)] [(0, none), (1, none)] [.t true, .t true] trivial fun ac wd hS => ?_
 refine list_nil ?_
 refine pop_block ?_
 refine pop_then ?_
 refine hS.regC [0, 0] [2, 3] fun _ => seg [(16, vu 3)] [(0, none), (1, none)] [] trivial fun ac wd hS => ?_
 refine pop_then ?_
 refine rounds_in ?_
 refine hS.regS [0] [2, 3, 16] fun _ => seg [(17, vb false)] [(0, none), (1, none)] [] trivial fun ac wd hS => ?_
 refine wp_seq ?_
 refine hS.condF ?_
 refine wp_exit ?_
 refine pop_then_exit ?_
 refine pop_then_exit ?_
 refine pop_block_hit ?_
 refine pop_then ?_
 refine wp_region_seq ?_
 refine hS.opsC 1 [100] [2, 3] fun _ => seg [(30, .agg #[pt b'1 0, vi 40, vi 96])] [(0, none), (1, none)] [.e (ν2 0), .e (ν2 0), .e (ν2 0)] trivial fun ac wd hS => ?_
 refine hS.callC 78 #[.agg #[pt b'1 0, vi 40, vi 96], vu 2] (cl_Kill b'1 F5 (addM (addM (addM (comM (AM.new 1) 0 1) 40 96 1 0 0 0) 40 96 2 0 0 0) 40 96 3 0 0 0) 40 96 2 _ (hS.mem.res 0) (by first | decide | decide +kernel) (by first | decide | decide +kernel)) ?_
 rintro _ wd ⟨F6, rfl, hA, hF⟩
 refine ⟨.tuple #[.agg #[vu (kIf (addM (addM (addM (comM (AM.new 1) 0 1) 40 96 1 0 0 0) 40 96 2 0 0 0) 40 96 3 0 0 0) 40 96 2 (cId (addM (addM (addM (comM (AM.new 1) 0 1) 40 96 1 0 0 0) 40 96 2 0 0 0) 40 96 3 0 0 0) 40 (cFind (addM (addM (addM (comM (AM.new 1) 0 1) 40 96 1 0 0 0) 40 96 2 0 0 0) 40 96 3 0 0 0) 40 96 2))), v8 (kIf (addM (addM (addM (comM (AM.new 1) 0 1) 40 96 1 0 0 0) 40 96 2 0 0 0) 40 96 3 0 0 0) 40 96 2 (cKd (addM (addM (addM (comM (AM.new 1) 0 1) 40 96 1 0 0 0) 40 96 2 0 0 0) 40 96 3 0 0 0) 40 (cFind (addM (addM (addM (comM (AM.new 1) 0 1) 40 96 1 0 0 0) 40 96 2 0 0 0) 40 96 3 0 0 0) 40 96 2))), v8 (kIf (addM (addM (addM (comM (AM.new 1) 0 1) 40 96 1 0 0 0) 40 96 2 0 0 0) 40 96 3 0 0 0) 40 96 2 (cLv (addM (addM (addM (comM (AM.new 1) 0 1) 40 96 1 0 0 0) 40 96 2 0 0 0) 40 96 3 0 0 0) 40 (cFind (addM (addM (addM (comM (AM.new 1) 0 1) 40 96 1 0 0 0) 40 96 2 0 0 0) 40 96 3 0 0 0) 40 96 2))), vu (kIf (addM (addM (addM (comM (AM.new 1) 0 1) 40 96 1 0 0 0) 40 96 2 0 0 0) 40 96 3 0 0 0) 40 96 2 (cN1 (addM (addM (addM (comM (AM.new 1) 0 1) 40 96 1 0 0 0) 40 96 2 0 0 0) 40 96 3 0 0 0) 40 (cFind (addM (addM (addM (comM (AM.new 1) 0 1) 40 96 1 0 0 0) 40 96 2 0 0 0) 40 96 3 0 0 0) 40 96 2)))], vi (killE (addM (addM (addM (comM (AM.new 1) 0 1) 40 96 1 0 0 0) 40 96 2 0 0 0) 40 96 3 0 0 0) 40 96 2)], rfl, ?_⟩
 replace hS := (hS.to (hS.mem.stepA 0 rfl hA hF)).put (d := 31) (v := .tuple #[.agg #[vu (kIf (addM (addM (addM (comM (AM.new 1) 0 1) 40 96 1 0 0 0) 40 96 2 0 0 0) 40 96 3 0 0 0) 40 96 2 (cId (addM (addM (addM (comM (AM.new 1) 0 1) 40 96 1 0 0 0) 40 96 2 0 0 0) 40 96 3 0 0 0) 40 (cFind (addM (addM (addM (comM (AM.new 1) 0 1) 40 96 1 0 0 0) 40 96 2 0 0 0) 40 96 3 0 0 0) 40 96 2))), v8 (kIf (addM (addM (addM (comM (AM.new 1) 0 1) 40 96 1 0 0 0) 40 96 2 0 0 0) 40 96 3 0 0 0) 40 96 2 (cKd (addM (addM (addM (comM (AM.new 1) 0 1) 40 96 1 0 0 0) 40 96 2 0 0 0) 40 96 3 0 0 0) 40 (cFind (addM (addM (addM (comM (AM.new 1) 0 1) 40 96 1 0 0 0) 40 96 2 0 0 0) 40 96 3 0 0 0) 40 96 2))), v8 (kIf (addM (addM (addM (comM (AM.new 1) 0 1) 40 96 1 0 0 0) 40 96 2 0 0 0) 40 96 3 0 0 0) 40 96 2 (cLv (addM (addM (addM (comM (AM.new 1) 0 1) 40 96 1 0 0 0) 40 96 2 0 0 0) 40 96 3 0 0 0) 40 (cFind (addM (addM (addM (comM (AM.new 1) 0 1) 40 96 1 0 0 0) 40 96 2 0 0 0) 40 96 3 0 0 0) 40 96 2))), vu (kIf (addM (addM (addM (comM (AM.new 1) 0 1) 40 96 1 0 0 0) 40 96 2 0 0 0) 40 96 3 0 0 0) 40 96 2 (cN1 (addM (addM (addM (comM (AM.new 1) 0 1) 40 96 1 0 0 0) 40 96 2 0 0 0) 40 96 3 0 0 0) 40 (cFind (addM (addM (addM (comM (AM.new 1) 0 1) 40 96 1 0 0 0) 40 96 2 0 0 0) 40 96 3 0 0 0) 40 96 2)))], vi (killE (addM (addM (addM (comM (AM.new 1) 0 1) 40 96 1 0 0 0) 40 96 2 0 0 0) 40 96 3 0 0 0) 40 96 2)]) (by decide)
 clear hF
 replace hS := hS.fix 31 (.tuple #[.agg #[vu (kIf (addM (addM (addM (comM (AM.new 1) 0 1) 40 96 1 0 0 0) 40 96 2 0 0 0) 40 96 3 0 0 0) 40 96 2 (cId (addM (addM (addM (comM (AM.new 1) 0 1) 40 96 1 0 0 0) 40 96 2 0 0 0) 40 96 3 0 0 0) 40 (cFind (addM (addM (addM (comM (AM.new 1) 0 1) 40 96 1 0 0 0) 40 96 2 0 0 0) 40 96 3 0 0 0) 40 96 2))), v8 (kIf (addM (addM (addM (comM (AM.new 1) 0 1) 40 96 1 0 0 0) 40 96 2 0 0 0) 40 96 3 0 0 0) 40 96 2 (cKd (addM (addM (addM (comM (AM.new 1) 0 1) 40 96 1 0 0 0) 40 96 2 0 0 0) 40 96 3 0 0 0) 40 (cFind (addM (addM (addM (comM (AM.new 1) 0 1) 40 96 1 0 0 0) 40 96 2 0 0 0) 40 96 3 0 0 0) 40 96 2))), v8 (kIf (addM (addM (addM (comM (AM.new 1) 0 1) 40 96 1 0 0 0) 40 96 2 0 0 0) 40 96 3 0 0 0) 40 96 2 (cLv (addM (addM (addM (comM (AM.new 1) 0 1) 40 96 1 0 0 0) 40 96 2 0 0 0) 40 96 3 0 0 0) 40 (cFind (addM (addM (addM (comM (AM.new 1) 0 1) 40 96 1 0 0 0) 40 96 2 0 0 0) 40 96 3 0 0 0) 40 96 2))), vu (kIf (addM (addM (addM (comM (AM.new 1) 0 1) 40 96 1 0 0 0) 40 96 2 0 0 0) 40 96 3 0 0 0) 40 96 2 (cN1 (addM (addM (addM (comM (AM.new 1) 0 1) 40 96 1 0 0 0) 40 96 2 0 0 0) 40 96 3 0 0 0) 40 (cFind (addM (addM (addM (comM (AM.new 1) 0 1) 40 96 1 0 0 0) 40 96 2 0 0 0) 40 96 3 0 0 0) 40 96 2)))], vi 0]) (show (.tuple #[.agg #[vu (kIf (addM (addM (addM (comM (AM.new 1) 0 1) 40 96 1 0 0 0) 40 96 2 0 0 0) 40 96 3 0 0 0) 40 96 2 (cId (addM (addM (addM (comM (AM.new 1) 0 1) 40 96 1 0 0 0) 40 96 2 0 0 0) 40 96 3 0 0 0) 40 (cFind (addM (addM (addM (comM (AM.new 1) 0 1) 40 96 1 0 0 0) 40 96 2 0 0 0) 40 96 3 0 0 0) 40 96 2))), v8 (kIf (addM (addM (addM (comM (AM.new 1) 0 1) 40 96 1 0 0 0) 40 96 2 0 0 0) 40 96 3 0 0 0) 40 96 2 (cKd (addM (addM (addM (comM (AM.new 1) 0 1) 40 96 1 0 0 0) 40 96 2 0 0 0) 40 96 3 0 0 0) 40 (cFind (addM (addM (addM (comM (AM.new 1) 0 1) 40 96 1 0 0 0) 40 96 2 0 0 0) 40 96 3 0 0 0) 40 96 2))), v8 (kIf (addM (addM (addM (comM (AM.new 1) 0 1) 40 96 1 0 0 0) 40 96 2 0 0 0) 40 96 3 0 0 0) 40 96 2 (cLv (addM (addM (addM (comM (AM.new 1) 0 1) 40 96 1 0 0 0) 40 96 2 0 0 0) 40 96 3 0 0 0) 40 (cFind (addM (addM (addM (comM (AM.new 1) 0 1) 40 96 1 0 0 0) 40 96 2 0 0 0) 40 96 3 0 0 0) 40 96 2))), vu (kIf (addM (addM (addM (comM (AM.new 1) 0 1) 40 96 1 0 0 0) 40 96 2 0 0 0) 40 96 3 0 0 0) 40 96 2 (cN1 (addM (addM (addM (comM (AM.new 1) 0 1) 40 96 1 0 0 0) 40 96 2 0 0 0) 40 96 3 0 0 0) 40 (cFind (addM (addM (addM (comM (AM.new 1) 0 1) 40 96 1 0 0 0) 40 96 2 0 0 0) 40 96 3 0 0 0) 40 96 2)))], vi (killE (addM (addM (addM (comM (AM.new 1) 0 1) 40 96 1 0 0 0) 40 96 2 0 0 0) 40 96 3 0 0 0) 40 96 2)] : Value) = .tuple #[.agg #[vu (kIf (addM (addM (addM (comM (AM.new 1) 0 1) 40 96 1 0 0 0) 40 96 2 0 0 0) 40 96 3 0 0 0) 40 96 2 (cId (addM (addM (addM (comM (AM.new 1) 0 1) 40 96 1 0 0 0) 40 96 2 0 0 0) 40 96 3 0 0 0) 40 (cFind (addM (addM (addM (comM (AM.new 1) 0 1) 40 96 1 0 0 0) 40 96 2 0 0 0) 40 96 3 0 0 0) 40 96 2))), v8 (kIf (addM (addM (addM (comM (AM.new 1) 0 1) 40 96 1 0 0 0) 40 96 2 0 0 0) 40 96 3 0 0 0) 40 96 2 (cKd (addM (addM (addM (comM (AM.new 1) 0 1) 40 96 1 0 0 0) 40 96 2 0 0 0) 40 96 3 0 0 0) 40 (cFind (addM (addM (addM (comM (AM.new 1) 0 1) 40 96 1 0 0 0) 40 96 2 0 0 0) 40 96 3 0 0 0) 40 96 2))), v8 (kIf (addM (addM (addM (comM (AM.new 1) 0 1) 40 96 1 0 0 0) 40 96 2 0 0 0) 40 96 3 0 0 0) 40 96 2 (cLv (addM (addM (addM (comM (AM.new 1) 0 1) 40 96 1 0 0 0) 40 96 2 0 0 0) 40 96 3 0 0 0) 40 (cFind (addM (addM (addM (comM (AM.new 1) 0 1) 40 96 1 0 0 0) 40 96 2 0 0 0) 40 96 3 0 0 0) 40 96 2))), vu (kIf (addM (addM (addM (comM (AM.new 1) 0 1) 40 96 1 0 0 0) 40 96 2 0 0 0) 40 96 3 0 0 0) 40 96 2 (cN1 (addM (addM (addM (comM (AM.new 1) 0 1) 40 96 1 0 0 0) 40 96 2 0 0 0) 40 96 3 0 0 0) 40 (cFind (addM (addM (addM (comM (AM.new 1) 0 1) 40 96 1 0 0 0) 40 96 2 0 0 0) 40 96 3 0 0 0) 40 96 2)))], vi 0] from (tuple2 rfl (vint (by decide +kernel))))
 refine hS.opsC 6 [0, 0, 0, 0, 200, 0] [2, 3] fun ν24 => seg [(6, vi 0)] [(0, none), (1, none)] [.e (ν24 0), .e (ν24 0), .e (ν24 0), .e (ν24 0)] trivial fun ac wd hS => ?_
 refine list_nil_seq ?_
 refine wp_region_seq ?_
 refine hS.opsC 1 [100] [2, 3, 6] fun _ => seg [(35, .agg #[pt b'1 0, vi 40, vi 96])] [(0, none), (1, none)] [.e (ν2 0), .e (ν2 0), .e (ν2 0)] trivial fun ac wd hS => ?_
 refine hS.callC 79 #[.agg #[pt b'1 0, vi 40, vi 96]] (cl_Pop b'1 F6 (killM (addM (addM (addM (comM (AM.new 1) 0 1) 40 96 1 0 0 0) 40 96 2 0 0 0) 40 96 3 0 0 0) 40 96 2) 40 96 _ (hS.mem.res 0) (by first | decide | decide +kernel) (by first | decide | decide +kernel)) ?_
 rintro _ wd ⟨F7, rfl, hA, hF⟩
 refine ⟨.tuple #[.agg #[vu (pIf (killM (addM (addM (addM (comM (AM.new 1) 0 1) 40 96 1 0 0 0) 40 96 2 0 0 0) 40 96 3 0 0 0) 40 96 2) 40 96 (cId (killM (addM (addM (addM (comM (AM.new 1) 0 1) 40 96 1 0 0 0) 40 96 2 0 0 0) 40 96 3 0 0 0) 40 96 2) 40 (((cCnt (killM (addM (addM (addM (comM (AM.new 1) 0 1) 40 96 1 0 0 0) 40 96 2 0 0 0) 40 96 3 0 0 0) 40 96 2) 40 96 : Nat) : Int) - 1))), v8 (pIf (killM (addM (addM (addM (comM (AM.new 1) 0 1) 40 96 1 0 0 0) 40 96 2 0 0 0) 40 96 3 0 0 0) 40 96 2) 40 96 (cKd (killM (addM (addM (addM (comM (AM.new 1) 0 1) 40 96 1 0 0 0) 40 96 2 0 0 0) 40 96 3 0 0 0) 40 96 2) 40 (((cCnt (killM (addM (addM (addM (comM (AM.new 1) 0 1) 40 96 1 0 0 0) 40 96 2 0 0 0) 40 96 3 0 0 0) 40 96 2) 40 96 : Nat) : Int) - 1))), v8 (pIf (killM (addM (addM (addM (comM (AM.new 1) 0 1) 40 96 1 0 0 0) 40 96 2 0 0 0) 40 96 3 0 0 0) 40 96 2) 40 96 (cLv (killM (addM (addM (addM (comM (AM.new 1) 0 1) 40 96 1 0 0 0) 40 96 2 0 0 0) 40 96 3 0 0 0) 40 96 2) 40 (((cCnt (killM (addM (addM (addM (comM (AM.new 1) 0 1) 40 96 1 0 0 0) 40 96 2 0 0 0) 40 96 3 0 0 0) 40 96 2) 40 96 : Nat) : Int) - 1))), vu (pIf (killM (addM (addM (addM (comM (AM.new 1) 0 1) 40 96 1 0 0 0) 40 96 2 0 0 0) 40 96 3 0 0 0) 40 96 2) 40 96 (cN1 (killM (addM (addM (addM (comM (AM.new 1) 0 1) 40 96 1 0 0 0) 40 96 2 0 0 0) 40 96 3 0 0 0) 40 96 2) 40 (((cCnt (killM (addM (addM (addM (comM (AM.new 1) 0 1) 40 96 1 0 0 0) 40 96 2 0 0 0) 40 96 3 0 0 0) 40 96 2) 40 96 : Nat) : Int) - 1)))], vb (popB (killM (addM (addM (addM (comM (AM.new 1) 0 1) 40 96 1 0 0 0) 40 96 2 0 0 0) 40 96 3 0 0 0) 40 96 2) 40 96)], rfl, ?_⟩
 replace hS := (hS.to (hS.mem.stepA 0 rfl hA hF)).put (d := 36) (v := .tuple #[.agg #[vu (pIf (killM (addM (addM (addM (comM (AM.new 1) 0 1) 40 96 1 0 0 0) 40 96 2 0 0 0) 40 96 3 0 0 0) 40 96 2) 40 96 (cId (killM (addM (addM (addM (comM (AM.new 1) 0 1) 40 96 1 0 0 0) 40 96 2 0 0 0) 40 96 3 0 0 0) 40 96 2) 40 (((cCnt (killM (addM (addM (addM (comM (AM.new 1) 0 1) 40 96 1 0 0 0) 40 96 2 0 0 0) 40 96 3 0 0 0) 40 96 2) 40 96 : Nat) : Int) - 1))), v8 (pIf (killM (addM (addM (addM (comM (AM.new 1) 0 1) 40 96 1 0 0 0) 40 96 2 0 0 0) 40 96 3 0 0 0) 40 96 2) 40 96 (cKd (killM (addM (addM (addM (comM (AM.new 1) 0 1) 40 96 1 0 0 0) 40 96 2 0 0 0) 40 96 3 0 0 0) 40 96 2) 40 (((cCnt (killM (addM (addM (addM (comM (AM.new 1) 0 1) 40 96 1 0 0 0) 40 96 2 0 0 0) 40 96 3 0 0 0) 40 96 2) 40 96 : Nat) : Int) - 1))), v8 (pIf (killM (addM (addM (addM (comM (AM.new 1) 0 1) 40 96 1 0 0 0) 40 96 2 0 0 0) 40 96 3 0 0 0) 40 96 2) 40 96 (cLv (killM (addM (addM (addM (comM (AM.new 1) 0 1) 40 96 1 0 0 0) 40 96 2 0 0 0) 40 96 3 0 0 0) 40 96 2) 40 (((cCnt (killM (addM (addM (addM (comM (AM.new 1) 0 1) 40 96 1 0 0 0) 40 96 2 0 0 0) 40 96 3 0 0 0) 40 96 2) 40 96 : Nat) : Int) - 1))), vu (pIf (killM (addM (addM (addM (comM (AM.new 1) 0 1) 40 96 1 0 0 0) 40 96 2 0 0 0) 40 96 3 0 0 0) 40 96 2) 40 96 (cN1 (killM (addM (addM (addM (comM (AM.new 1) 0 1) 40 96 1 0 0 0) 40 96 2 0 0 0) 40 96 3 0 0 0) 40 96 2) 40 (((cCnt (killM (addM (addM (addM (comM (AM.new 1) 0 1) 40 96 1 0 0 0) 40 96 2 0 0 0) 40 96 3 0 0 0) 40 96 2) 40 96 : Nat) : Int) - 1)))], vb (popB (killM (addM (addM (addM (comM (AM.new 1) 0 1) 40 96 1 0 0 0) 40 96 2 0 0 0) 40 96 3 0 0 0) 40 96 2) 40 96)]) (by decide)
 clear hF
 replace hS := hS.fix 36 (.tuple #[.agg #[vu 3, v8 (pIf (killM (addM (addM (addM (comM (AM.new 1) 0 1) 40 96 1 0 0 0) 40 96 2 0 0 0) 40 96 3 0 0 0) 40 96 2) 40 96 (cKd (killM (addM (addM (addM (comM (AM.new 1) 0 1) 40 96 1 0 0 0) 40 96 2 0 0 0) 40 96 3 0 0 0) 40 96 2) 40 (((cCnt (killM (addM (addM (addM (comM (AM.new 1) 0 1) 40 96 1 0 0 0) 40 96 2 0 0 0) 40 96 3 0 0 0) 40 96 2) 40 96 : Nat) : Int) - 1))), v8 (pIf (killM (addM (addM (addM (comM (AM.new 1) 0 1) 40 96 1 0 0 0) 40 96 2 0 0 0) 40 96 3 0 0 0) 40 96 2) 40 96 (cLv (killM (addM (addM (addM (comM (AM.new 1) 0 1) 40 96 1 0 0 0) 40 96 2 0 0 0) 40 96 3 0 0 0) 40 96 2) 40 (((cCnt (killM (addM (addM (addM (comM (AM.new 1) 0 1) 40 96 1 0 0 0) 40 96 2 0 0 0) 40 96 3 0 0 0) 40 96 2) 40 96 : Nat) : Int) - 1))), vu (pIf (killM (addM (addM (addM (comM (AM.new 1) 0 1) 40 96 1 0 0 0) 40 96 2 0 0 0) 40 96 3 0 0 0) 40 96 2) 40 96 (cN1 (killM (addM (addM (addM (comM (AM.new 1) 0 1) 40 96 1 0 0 0) 40 96 2 0 0 0) 40 96 3 0 0 0) 40 96 2) 40 (((cCnt (killM (addM (addM (addM (comM (AM.new 1) 0 1) 40 96 1 0 0 0) 40 96 2 0 0 0) 40 96 3 0 0 0) 40 96 2) 40 96 : Nat) : Int) - 1)))], vb true]) (show (.tuple #[.agg #[vu (pIf (killM (addM (addM (addM (comM (AM.new 1) 0 1) 40 96 1 0 0 0) 40 96 2 0 0 0) 40 96 3 0 0 0) 40 96 2) 40 96 (cId (killM (addM (addM (addM (comM (AM.new 1) 0 1) 40 96 1 0 0 0) 40 96 2 0 0 0) 40 96 3 0 0 0) 40 96 2) 40 (((cCnt (killM (addM (addM (addM (comM (AM.new 1) 0 1) 40 96 1 0 0 0) 40 96 2 0 0 0) 40 96 3 0 0 0) 40 96 2) 40 96 : Nat) : Int) - 1))), v8 (pIf (killM (addM (addM (addM (comM (AM.new 1) 0 1) 40 96 1 0 0 0) 40 96 2 0 0 0) 40 96 3 0 0 0) 40 96 2) 40 96 (cKd (killM (addM (addM (addM (comM (AM.new 1) 0 1) 40 96 1 0 0 0) 40 96 2 0 0 0) 40 96 3 0 0 0) 40 96 2) 40 (((cCnt (killM (addM (addM (addM (comM (AM.new 1) 0 1) 40 96 1 0 0 0) 40 96 2 0 0 0) 40 96 3 0 0 0) 40 96 2) 40 96 : Nat) : Int) - 1))), v8 (pIf (killM (addM (addM (addM (comM (AM.new 1) 0 1) 40 96 1 0 0 0) 40 96 2 0 0 0) 40 96 3 0 0 0) 40 96 2) 40 96 (cLv (killM (addM (addM (addM (comM (AM.new 1) 0 1) 40 96 1 0 0 0) 40 96 2 0 0 0) 40 96 3 0 0 0) 40 96 2) 40 (((cCnt (killM (addM (addM (addM (comM (AM.new 1) 0 1) 40 96 1 0 0 0) 40 96 2 0 0 0) 40 96 3 0 0 0) 40 96 2) 40 96 : Nat) : Int) - 1))), vu (pIf (killM (addM (addM (addM (comM (AM.new 1) 0 1) 40 96 1 0 0 0) 40 96 2 0 0 0) 40 96 3 0 0 0) 40 96 2) 40 96 (cN1 (killM (addM (addM (addM (comM (AM.new 1) 0 1) 40 96 1 0 0 0) 40 96 2 0 0 0) 40 96 3 0 0 0) 40 96 2) 40 (((cCnt (killM (addM (addM (addM (comM (AM.new 1) 0 1) 40 96 1 0 0 0) 40 96 2 0 0 0) 40 96 3 0 0 0) 40 96 2) 40 96 : Nat) : Int) - 1)))], vb (popB (killM (addM (addM (addM (comM (AM.new 1) 0 1) 40 96 1 0 0 0) 40 96 2 0 0 0) 40 96 3 0 0 0) 40 96 2) 40 96)] : Value) = .tuple #[.agg #[vu 3, v8 (pIf (killM (addM (addM (addM (comM (AM.new 1) 0 1) 40 96 1 0 0 0) 40 96 2 0 0 0) 40 96 3 0 0 0) 40 96 2) 40 96 (cKd (killM (addM (addM (addM (comM (AM.new 1) 0 1) 40 96 1 0 0 0) 40 96 2 0 0 0) 40 96 3 0 0 0) 40 96 2) 40 (((cCnt (killM (addM (addM (addM (comM (AM.new 1) 0 1) 40 96 1 0 0 0) 40 96 2 0 0 0) 40 96 3 0 0 0) 40 96 2) 40 96 : Nat) : Int) - 1))), v8 (pIf (killM (addM (addM (addM (comM (AM.new 1) 0 1) 40 96 1 0 0 0) 40 96 2 0 0 0) 40 96 3 0 0 0) 40 96 2) 40 96 (cLv (killM (addM (addM (addM (comM (AM.new 1) 0 1) 40 96 1 0 0 0) 40 96 2 0 0 0) 40 96 3 0 0 0) 40 96 2) 40 (((cCnt (killM (addM (addM (addM (comM (AM.new 1) 0 1) 40 96 1 0 0 0) 40 96 2 0 0 0) 40 96 3 0 0 0) 40 96 2) 40 96 : Nat) : Int) - 1))), vu (pIf (killM (addM (addM (addM (comM (AM.new 1) 0 1) 40 96 1 0 0 0) 40 96 2 0 0 0) 40 96 3 0 0 0) 40 96 2) 40 96 (cN1 (killM (addM (addM (addM (comM (AM.new 1) 0 1) 40 96 1 0 0 0) 40 96 2 0 0 0) 40 96 3 0 0 0) 40 96 2) 40 (((cCnt (killM (addM (addM (addM (comM (AM.new 1) 0 1) 40 96 1 0 0 0) 40 96 2 0 0 0) 40 96 3 0 0 0) 40 96 2) 40 96 : Nat) : Int) - 1)))], vb true] from (tuple2 (agg4 (vint (by decide +kernel)) rfl rfl rfl) (vbool (by decide +kernel))))
 refine hS.opsC 6 [0, 0, 0, 0, 200, 0] [2, 3, 6] fun ν26 => seg [(7, pt (ν26 0) 0), (8, vb true)] [(0, none), (1, none), (2, some ((ν26 0), .cells [vu 3, v8 (pIf (killM (addM (addM (addM (comM (AM.new 1) 0 1) 40 96 1 0 0 0) 40 96 2 0 0 0) 40 96 3 0 0 0) 40 96 2) 40 96 (cKd (killM (addM (addM (addM (comM (AM.new 1) 0 1) 40 96 1 0 0 0) 40 96 2 0 0 0) 40 96 3 0 0 0) 40 96 2) 40 (((cCnt (killM (addM (addM (addM (comM (AM.new 1) 0 1) 40 96 1 0 0 0) 40 96 2 0 0 0) 40 96 3 0 0 0) 40 96 2) 40 96 : Nat) : Int) - 1))), v8 (pIf (killM (addM (addM (addM (comM (AM.new 1) 0 1) 40 96 1 0 0 0) 40 96 2 0 0 0) 40 96 3 0 0 0) 40 96 2) 40 96 (cLv (killM (addM (addM (addM (comM (AM.new 1) 0 1) 40 96 1 0 0 0) 40 96 2 0 0 0) 40 96 3 0 0 0) 40 96 2) 40 (((cCnt (killM (addM (addM (addM (comM (AM.new 1) 0 1) 40 96 1 0 0 0) 40 96 2 0 0 0) 40 96 3 0 0 0) 40 96 2) 40 96 : Nat) : Int) - 1))), vu (pIf (killM (addM (addM (addM (comM (AM.new 1) 0 1) 40 96 1 0 0 0) 40 96 2 0 0 0) 40 96 3 0 0 0) 40 96 2) 40 96 (cN1 (killM (addM (addM (addM (comM (AM.new 1) 0 1) 40 96 1 0 0 0) 40 96 2 0 0 0) 40 96 3 0 0 0) 40 96 2) 40 (((cCnt (killM (addM (addM (addM (comM (AM.new 1) 0 1) 40 96 1 0 0 0) 40 96 2 0 0 0) 40 96 3 0 0 0) 40 96 2) 40 96 : Nat) : Int) - 1)))] 115))] [.e (ν26 0), .e (ν26 0), .e (ν26 0), .e (ν26 0)] trivial fun ac wd hS => ?_
 refine list_nil_seq ?_
 refine wp_region_seq ?_
 refine hS.opsC 1 [100] [3, 6, 7, 8] fun _ => seg [(40, .agg #[pt b'1 0, vi 40, vi 96])] [(0, none), (2, none)] [.e (ν2 0), .e (ν2 0), .e (ν2 0)] trivial fun ac wd hS => ?_
 refine hS.callC 79 #[.agg #[pt b'1 0, vi 40, vi 96]] (cl_Pop b'1 F7 (popM (killM (addM (addM (addM (comM (AM.new 1) 0 1) 40 96 1 0 0 0) 40 96 2 0 0 0) 40 96 3 0 0 0) 40 96 2) 40 96) 40 96 _ (hS.mem.res 0) (by first | decide | decide +kernel) (by first | decide | decide +kernel)) ?_
 rintro _ wd ⟨F8, rfl, hA, hF⟩
 refine ⟨.tuple #[.agg #[vu (pIf (popM (killM (addM (addM (addM (comM (AM.new 1) 0 1) 40 96 1 0 0 0) 40 96 2 0 0 0) 40 96 3 0 0 0) 40 96 2) 40 96) 40 96 (cId (popM (killM (addM (addM (addM (comM (AM.new 1) 0 1) 40 96 1 0 0 0) 40 96 2 0 0 0) 40 96 3 0 0 0) 40 96 2) 40 96) 40 (((cCnt (popM (killM (addM (addM (addM (comM (AM.new 1) 0 1) 40 96 1 0 0 0) 40 96 2 0 0 0) 40 96 3 0 0 0) 40 96 2) 40 96) 40 96 : Nat) : Int) - 1))), v8 (pIf (popM (killM (addM (addM (addM (comM (AM.new 1) 0 1) 40 96 1 0 0 0) 40 96 2 0 0 0) 40 96 3 0 0 0) 40 96 2) 40 96) 40 96 (cKd (popM (killM (addM (addM (addM (comM (AM.new 1) 0 1) 40 96 1 0 0 0) 40 96 2 0 0 0) 40 96 3 0 0 0) 40 96 2) 40 96) 40 (((cCnt (popM (killM (addM (addM (addM (comM (AM.new 1) 0 1) 40 96 1 0 0 0) 40 96 2 0 0 0) 40 96 3 0 0 0) 40 96 2) 40 96) 40 96 : Nat) : Int) - 1))), v8 (pIf (popM (killM (addM (addM (addM (comM (AM.new 1) 0 1) 40 96 1 0 0 0) 40 96 2 0 0 0) 40 96 3 0 0 0) 40 96 2) 40 96) 40 96 (cLv (popM (killM (addM (addM (addM (comM (AM.new 1) 0 1) 40 96 1 0 0 0) 40 96 2 0 0 0) 40 96 3 0 0 0) 40 96 2) 40 96) 40 (((cCnt (popM (killM (addM (addM (addM (comM (AM.new 1) 0 1) 40 96 1 0 0 0) 40 96 2 0 0 0) 40 96 3 0 0 0) 40 96 2) 40 96) 40 96 : Nat) : Int) - 1))), vu (pIf (popM (killM (addM (addM (addM (comM (AM.new 1) 0 1) 40 96 1 0 0 0) 40 96 2 0 0 0) 40 96 3 0 0 0) 40 96 2) 40 96) 40 96 (cN1 (popM (killM (addM (addM (addM (comM (AM.new 1) 0 1) 40 96 1 0 0 0) 40 96 2 0 0 0) 40 96 3 0 0 0) 40 96 2) 40 96) 40 (((cCnt (popM (killM (addM (addM (addM (comM (AM.new 1) 0 1) 40 96 1 0 0 0) 40 96 2 0 0 0) 40 96 3 0 0 0) 40 96 2) 40 96) 40 96 : Nat) : Int) - 1)))], vb (popB (popM (killM (addM (addM (addM (comM (AM.new 1) 0 1) 40 96 1 0 0 0) 40 96 2 0 0 0) 40 96 3 0 0 0) 40 96 2) 40 96) 40 96)], rfl, ?_⟩
 replace hS := (hS.to (hS.mem.stepA 0 rfl hA hF)).put (d := 41) (v := .tuple #[.agg #[vu (pIf (popM (killM (addM (addM (addM (comM (AM.new 1) 0 1) 40 96 1 0 0 0) 40 96 2 0 0 0) 40 96 3 0 0 0) 40 96 2) 40 96) 40 96 (cId (popM (killM (addM (addM (addM (comM (AM.new 1) 0 1) 40 96 1 0 0 0) 40 96 2 0 0 0) 40 96 3 0 0 0) 40 96 2) 40 96) 40 (((cCnt (popM (killM (addM (addM (addM (comM (AM.new 1) 0 1) 40 96 1 0 0 0) 40 96 2 0 0 0) 40 96 3 0 0 0) 40 96 2) 40 96) 40 96 : Nat) : Int) - 1))), v8 (pIf (popM (killM (addM (addM (addM (comM (AM.new 1) 0 1) 40 96 1 0 0 0) 40 96 2 0 0 0) 40 96 3 0 0 0) 40 96 2) 40 96) 40 96 (cKd (popM (killM (addM (addM (addM (comM (AM.new 1) 0 1) 40 96 1 0 0 0) 40 96 2 0 0 0) 40 96 3 0 0 0) 40 96 2) 40 96) 40 (((cCnt (popM (killM (addM (addM (addM (comM (AM.new 1) 0 1) 40 96 1 0 0 0) 40 96 2 0 0 0) 40 96 3 0 0 0) 40 96 2) 40 96) 40 96 : Nat) : Int) - 1))), v8 (pIf (popM (killM (addM (addM (addM (comM (AM.new 1) 0 1) 40 96 1 0 0 0) 40 96 2 0 0 0) 40 96 3 0 0 0) 40 96 2) 40 96) 40 96 (cLv (popM (killM (addM (addM (addM (comM (AM.new 1) 0 1) 40 96 1 0 0 0) 40 96 2 0 0 0) 40 96 3 0 0 0) 40 96 2) 40 96) 40 (((cCnt (popM (killM (addM (addM (addM (comM (AM.new 1) 0 1) 40 96 1 0 0 0) 40 96 2 0 0 0) 40 96 3 0 0 0) 40 96 2) 40 96) 40 96 : Nat) : Int) - 1))), vu (pIf (popM (killM (addM (addM (addM (comM (AM.new 1) 0 1) 40 96 1 0 0 0) 40 96 2 0 0 0) 40 96 3 0 0 0) 40 96 2) 40 96) 40 96 (cN1 (popM (killM (addM (addM (addM (comM (AM.new 1) 0 1) 40 96 1 0 0 0) 40 96 2 0 0 0) 40 96 3 0 0 0) 40 96 2) 40 96) 40 (((cCnt (popM (killM (addM (addM (addM (comM (AM.new 1) 0 1) 40 96 1 0 0 0) 40 96 2 0 0 0) 40 96 3 0 0 0) 40 96 2) 40 96) 40 96 : Nat) : Int) - 1)))], vb (popB (popM (killM (addM (addM (addM (comM (AM.new 1) 0 1) 40 96 1 0 0 0) 40 96 2 0 0 0) 40 96 3 0 0 0) 40 96 2) 40 96) 40 96)]) (by decide)
 clear hF
 replace hS := hS.fix 41 (.tuple #[.agg #[vu 1, v8 (pIf (popM (killM (addM (addM (addM (comM (AM.new 1) 0 1) 40 96 1 0 0 0) 40 96 2 0 0 0) 40 96 3 0 0 0) 40 96 2) 40 96) 40 96 (cKd (popM (killM (addM (addM (addM (comM (AM.new 1) 0 1) 40 96 1 0 0 0) 40 96 2 0 0 0) 40 96 3 0 0 0) 40 96 2) 40 96) 40 (((cCnt (popM (killM (addM (addM (addM (comM (AM.new 1) 0 1) 40 96 1 0 0 0) 40 96 2 0 0 0) 40 96 3 0 0 0) 40 96 2) 40 96) 40 96 : Nat) : Int) - 1))), v8 (pIf (popM (killM (addM (addM (addM (comM (AM.new 1) 0 1) 40 96 1 0 0 0) 40 96 2 0 0 0) 40 96 3 0 0 0) 40 96 2) 40 96) 40 96 (cLv (popM (killM (addM (addM (addM (comM (AM.new 1) 0 1) 40 96 1 0 0 0) 40 96 2 0 0 0) 40 96 3 0 0 0) 40 96 2) 40 96) 40 (((cCnt (popM (killM (addM (addM (addM (comM (AM.new 1) 0 1) 40 96 1 0 0 0) 40 96 2 0 0 0) 40 96 3 0 0 0) 40 96 2) 40 96) 40 96 : Nat) : Int) - 1))), vu (pIf (popM (killM (addM (addM (addM (comM (AM.new 1) 0 1) 40 96 1 0 0 0) 40 96 2 0 0 0) 40 96 3 0 0 0) 40 96 2) 40 96) 40 96 (cN1 (popM (killM (addM (addM (addM (comM (AM.new 1) 0 1) 40 96 1 0 0 0) 40 96 2 0 0 0) 40 96 3 0 0 0) 40 96 2) 40 96) 40 (((cCnt (popM (killM (addM (addM (addM (comM (AM.new 1) 0 1) 40 96 1 0 0 0) 40 96 2 0 0 0) 40 96 3 0 0 0) 40 96 2) 40 96) 40 96 : Nat) : Int) - 1)))], vb true]) (show (.tuple #[.agg #[vu (pIf (popM (killM (addM (addM (addM (comM (AM.new 1) 0 1) 40 96 1 0 0 0) 40 96 2 0 0 0) 40 96 3 0 0 0) 40 96 2) 40 96) 40 96 (cId (popM (killM (addM (addM (addM (comM (AM.new 1) 0 1) 40 96 1 0 0 0) 40 96 2 0 0 0) 40 96 3 0 0 0) 40 96 2) 40 96) 40 (((cCnt (popM (killM (addM (addM (addM (comM (AM.new 1) 0 1) 40 96 1 0 0 0) 40 96 2 0 0 0) 40 96 3 0 0 0) 40 96 2) 40 96) 40 96 : Nat) : Int) - 1))), v8 (pIf (popM (killM (addM (addM (addM (comM (AM.new 1) 0 1) 40 96 1 0 0 0) 40 96 2 0 0 0) 40 96 3 0 0 0) 40 96 2) 40 96) 40 96 (cKd (popM (killM (addM (addM (addM (comM (AM.new 1) 0 1) 40 96 1 0 0 0) 40 96 2 0 0 0) 40 96 3 0 0 0) 40 96 2) 40 96) 40 (((cCnt (popM (killM (addM (addM (addM (comM (AM.new 1) 0 1) 40 96 1 0 0 0) 40 96 2 0 0 0) 40 96 3 0 0 0) 40 96 2) 40 96) 40 96 : Nat) : Int) - 1))), v8 (pIf (popM (killM (addM (addM (addM (comM (AM.new 1) 0 1) 40 96 1 0 0 0) 40 96 2 0 0 0) 40 96 3 0 0 0) 40 96 2) 40 96) 40 96 (cLv (popM (killM (addM (addM (addM (comM (AM.new 1) 0 1) 40 96 1 0 0 0) 40 96 2 0 0 0) 40 96 3 0 0 0) 40 96 2) 40 96) 40 (((cCnt (popM (killM (addM (addM (addM (comM (AM.new 1) 0 1) 40 96 1 0 0 0) 40 96 2 0 0 0) 40 96 3 0 0 0) 40 96 2) 40 96) 40 96 : Nat) : Int) - 1))), vu (pIf (popM (killM (addM (addM (addM (comM (AM.new 1) 0 1) 40 96 1 0 0 0) 40 96 2 0 0 0) 40 96 3 0 0 0) 40 96 2) 40 96) 40 96 (cN1 (popM (killM (addM (addM (addM (comM (AM.new 1) 0 1) 40 96 1 0 0 0) 40 96 2 0 0 0) 40 96 3 0 0 0) 40 96 2) 40 96) 40 (((cCnt (popM (killM (addM (addM (addM (comM (AM.new 1) 0 1) 40 96 1 0 0 0) 40 96 2 0 0 0) 40 96 3 0 0 0) 40 96 2) 40 96) 40 96 : Nat) : Int) - 1)))], vb (popB (popM (killM (addM (addM (addM (comM (AM.new 1) 0 1) 40 96 1 0 0 0) 40 96 2 0 0 0) 40 96 3 0 0 0) 40 96 2) 40 96) 40 96)] : Value) = .tuple #[.agg #[vu 1, v8 (pIf (popM (killM (addM (addM (addM (comM (AM.new 1) 0 1) 40 96 1 0 0 0) 40 96 2 0 0 0) 40 96 3 0 0 0) 40 96 2) 40 96) 40 96 (cKd (popM (killM (addM (addM (addM (comM (AM.new 1) 0 1) 40 96 1 0 0 0) 40 96 2 0 0 0) 40 96 3 0 0 0) 40 96 2) 40 96) 40 (((cCnt (popM (killM (addM (addM (addM (comM (AM.new 1) 0 1) 40 96 1 0 0 0) 40 96 2 0 0 0) 40 96 3 0 0 0) 40 96 2) 40 96) 40 96 : Nat) : Int) - 1))), v8 (pIf (popM (killM (addM (addM (addM (comM (AM.new 1) 0 1) 40 96 1 0 0 0) 40 96 2 0 0 0) 40 96 3 0 0 0) 40 96 2) 40 96) 40 96 (cLv (popM (killM (addM (addM (addM (comM (AM.new 1) 0 1) 40 96 1 0 0 0) 40 96 2 0 0 0) 40 96 3 0 0 0) 40 96 2) 40 96) 40 (((cCnt (popM (killM (addM (addM (addM (comM (AM.new 1) 0 1) 40 96 1 0 0 0) 40 96 2 0 0 0) 40 96 3 0 0 0) 40 96 2) 40 96) 40 96 : Nat) : Int) - 1))), vu (pIf (popM (killM (addM (addM (addM (comM (AM.new 1) 0 1) 40 96 1 0 0 0) 40 96 2 0 0 0) 40 96 3 0 0 0) 40 96 2) 40 96) 40 96 (cN1 (popM (killM (addM (addM (addM (comM (AM.new 1) 0 1) 40 96 1 0 0 0) 40 96 2 0 0 0) 40 96 3 0 0 0) 40 96 2) 40 96) 40 (((cCnt (popM (killM (addM (addM (addM (comM (AM.new 1) 0 1) 40 96 1 0 0 0) 40 96 2 0 0 0) 40 96 3 0 0 0) 40 96 2) 40 96) 40 96 : Nat) : Int) - 1)))], vb true] from (tuple2 (agg4 (vint (by decide +kernel)) rfl rfl rfl) (vbool (by decide +kernel))))
 refine hS.opsC 6 [0, 0, 0, 0, 200, 0] [3, 6, 7, 8] fun ν28 => seg [(9, pt (ν28 0) 0), (10, vb true)] [(0, none), (1, none), (2, some ((ν28 0), .cells [vu 1, v8 (pIf (popM (killM (addM (addM (addM (comM (AM.new 1) 0 1) 40 96 1 0 0 0) 40 96 2 0 0 0) 40 96 3 0 0 0) 40 96 2) 40 96) 40 96 (cKd (popM (killM (addM (addM (addM (comM (AM.new 1) 0 1) 40 96 1 0 0 0) 40 96 2 0 0 0) 40 96 3 0 0 0) 40 96 2) 40 96) 40 (((cCnt (popM (killM (addM (addM (addM (comM (AM.new 1) 0 1) 40 96 1 0 0 0) 40 96 2 0 0 0) 40 96 3 0 0 0) 40 96 2) 40 96) 40 96 : Nat) : Int) - 1))), v8 (pIf (popM (killM (addM (addM (addM (comM (AM.new 1) 0 1) 40 96 1 0 0 0) 40 96 2 0 0 0) 40 96 3 0 0 0) 40 96 2) 40 96) 40 96 (cLv (popM (killM (addM (addM (addM (comM (AM.new 1) 0 1) 40 96 1 0 0 0) 40 96 2 0 0 0) 40 96 3 0 0 0) 40 96 2) 40 96) 40 (((cCnt (popM (killM (addM (addM (addM (comM (AM.new 1) 0 1) 40 96 1 0 0 0) 40 96 2 0 0 0) 40 96 3 0 0 0) 40 96 2) 40 96) 40 96 : Nat) : Int) - 1))), vu (pIf (popM (killM (addM (addM (addM (comM (AM.new 1) 0 1) 40 96 1 0 0 0) 40 96 2 0 0 0) 40 96 3 0 0 0) 40 96 2) 40 96) 40 96 (cN1 (popM (killM (addM (addM (addM (comM (AM.new 1) 0 1) 40 96 1 0 0 0) 40 96 2 0 0 0) 40 96 3 0 0 0) 40 96 2) 40 96) 40 (((cCnt (popM (killM (addM (addM (addM (comM (AM.new 1) 0 1) 40 96 1 0 0 0) 40 96 2 0 0 0) 40 96 3 0 0 0) 40 96 2) 40 96) 40 96 : Nat) : Int) - 1)))] 115))] [.e (ν28 0), .e (ν28 0), .e (ν28 0), .e (ν28 0)] trivial fun ac wd hS => ?_
 refine list_nil_seq ?_
 refine wp_region_seq ?_
 refine hS.call0 123 #[] 44 (law05_Awake  _ (hS.mem.get 0 1 (.fn 0 64 dbT)) ) fun ac wd hS => ?_
 refine hS.opsC 24 [0, 1, 70, 0, 1, 1, 70, 0, 1, 70, 0, 1, 70, 0, 1, 101, 1, 70, 0, 1, 201, 1, 70, 0] [] fun _ => seg [(0, vb true)] [(0, none)] [.t true, .t true, .t true, .e (ν28 0), .t true, .t true, .t true, .t true, .e (ν26 0), .t true, .t true, .t true, .t true, .t true, .t true, .t true, .t true, .t true, .t true] trivial fun ac wd hS => ?_
 refine list_nil_seq ?_
 refine wp_ret ?_
 refine St.retC 0 hS (vb true) [] trivial fun hw => ?_
 refine ⟨retd rfl, hw.fr0⟩

set_option maxRecDepth 100000 in
set_option maxHeartbeats 1000000 in
theorem law21_CleanNone (w : World) (hh0 : HE.holds w 1 (.fn 0 64 dbT)) :
    Calls Tryd.prog 13 #[] w fun e w' => e = .returned (vb true) ∧ Fr w w' no no := by
 refine enter (args := []) (D := no) (A := []) Tryd.func13 rfl 68 rfl [(1, .fn 0 64 dbT)] (WS.startL ⟨⟨rfl, hh0⟩, trivial⟩) fun ac hS => ?_
 refine hS.regS [0] [] fun _ => seg [] [(0, none)] [] trivial fun ac wd hS => ?_
 refine wp_region_seq ?_
 refine hS.opsC 1 [0] [] fun _ => seg [(9, .agg #[pnil, vi 0, vi 0])] [(0, none)] [] trivial fun ac wd hS => ?_
 refine hS.call0 77 #[.agg #[pnil, vi 0, vi 0]] 10 (cl_Open_nil  _  ) fun ac wd hS => ?_
 refine hS.opsC 2 [0, 100] [] fun ν3 => seg [(1, pt (ν3 0) 0)] [(0, none), (1, some ((ν3 0), .cells [pnil, vi 0, vi 0] 112))] [.e (ν3 0), .e (ν3 0), .e (ν3 0)] trivial fun ac wd hS => ?_
 refine list_nil_seq ?_
 refine wp_region_seq ?_
 refine hS.opsC 1 [100] [1] fun _ => seg [(12, .agg #[pnil, vi 0, vi 0])] [(0, none), (1, none)] [.e (ν3 0), .e (ν3 0), .e (ν3 0)] trivial fun ac wd hS => ?_
 refine hS.call0 78 #[.agg #[pnil, vi 0, vi 0], vu 0] 13 (cl_Kill_nil 0 _  ) fun ac wd hS => ?_
 refine hS.opsC 6 [0, 0, 0, 0, 200, 0] [1] fun ν5 => seg [(3, vi 1)] [(0, none), (1, none)] [.e (ν5 0), .e (ν5 0), .e (ν5 0), .e (ν5 0)] trivial fun ac wd hS => ?_
 refine list_nil_seq ?_
 refine wp_region_seq ?_
 refine hS.opsC 1 [100] [1, 3] fun _ => seg [(17, .agg #[pnil, vi 0, vi 0])] [(0, none), (1, none)] [.e (ν3 0), .e (ν3 0), .e (ν3 0)] trivial fun ac wd hS => ?_
 refine hS.call0 79 #[.agg #[pnil, vi 0, vi 0]] 18 (cl_Pop_nil  _  ) fun ac wd hS => ?_
 refine hS.opsC 6 [0, 0, 0, 0, 200, 0] [1, 3] fun ν7 => seg [(5, vb false)] [(0, none), (1, none)] [.e (ν7 0), .e (ν7 0), .e (ν7 0), .e (ν7 0)] trivial fun ac wd hS => ?_
 refine list_nil_seq ?_
 refine wp_region_seq ?_
 refine hS.callC 80 #[vi 23] (law21_open 23 _  (by first | decide | decide +kernel)) ?_
 rintro _ wd ⟨b'1, F2, rfl, hN, hF⟩
 refine ⟨.tuple #[pt b'1 0, .agg #[pt b'1 0, vi 40, vi 23], vb true], rfl, ?_⟩
 replace hS := (hS.to (hS.mem.newA hN hF)).put (d := 22) (v := .tuple #[pt b'1 0, .agg #[pt b'1 0, vi 40, vi 23], vb true]) (by decide)
 clear hF
 refine hS.opsC 8 [0, 0, 0, 0, 0, 0, 200, 0] [1, 3, 5] fun ν8 => seg [(7, pt (ν8 0) 0), (8, vb true)] [(0, none), (1, none), (2, some ((ν8 0), .cells [pt b'1 0, vi 40, vi 23] 112))] [.e (ν8 0), .e (ν8 0), .e (ν8 0)] trivial fun ac wd hS => ?_
 refine list_nil_seq ?_
 refine St.ordBeginS [(0, 0), (1, 1), (2, 1), (3, 1), (4, 1), (5, 1), (6, 1), (7, 0), (8, 1), (9, 1), (10, 1), (11, 1), (12, 1), (13, 1), (14, 1), (15, 1), (16, 1), (17, 1), (18, 1), (19, 1), (22, 1), (25, 1), (20, 0), (21, 1), (23, 0), (24, 1), (26, 0), (27, 1), (28, 1), (29, 1), (30, 1), (31, 1), (32, 1), (33, 0), (34, 1), (35, 1), (36, 1), (37, 1), (38, 1), (39, 0), (40, 1), (41, 1), (42, 1)] [(1, .fn 0 64 dbT), ((ν3 0), .cells [pnil, vi 0, vi 0] 112), ((ν8 0), .cells [pt b'1 0, vi 40, vi 23] 112)] [0, 1, 2] hS fun wd hS => ?_
 have hap := hS.mem.pairs (Hf := [(1, .fn 0 64 dbT), ((ν3 0), .cells [pnil, vi 0, vi 0] 112), ((ν8 0), .cells [pt b'1 0, vi 40, vi 23] 112)]) (l := [0, 1, 2])
 refine hS.ordC 0 81 #[] (law21_awake  _ (hS.mem.get 0 1 (.fn 0 64 dbT)) ) ?_
 rintro _ wd ⟨rfl, hF⟩
 refine ⟨vb true, rfl, ?_⟩
 replace hS := (hS.to (hS.mem.keep0 hF)).put (d := 26) (v := vb true) (by decide)
 clear hF
 refine hS.ordV (l := [0, 1, 2]) ?_
 refine St.ordF [0, 1, 70, 0, 101, 1] [1, 2, 3, 4, 5, 6] [1, 3, 5, 7] (rest := [(7, 0), (8, 1), (9, 1), (10, 1), (11, 1), (12, 1), (13, 1), (14, 1), (15, 1), (16, 1), (17, 1), (18, 1), (19, 1), (22, 1), (25, 1), (20, 0), (21, 1), (23, 0), (24, 1), (26, 0), (27, 1), (28, 1), (29, 1), (30, 1), (31, 1), (32, 1), (33, 0), (34, 1), (35, 1), (36, 1), (37, 1), (38, 1), (39, 0), (40, 1), (41, 1), (42, 1)]) hS hap <| segF [(30, vb true), (31, .agg #[pnil, vi 0, vi 0]), (32, .agg #[vu 0, v8 0, v8 0, vu 0])] [.t true, .t true, .e (ν3 0), .e (ν3 0), .e (ν3 0), .t true, .t true] trivial fun ac hS => ?_
 refine hS.ordCG 7 true 82 #[.agg #[pnil, vi 0, vi 0], .agg #[vu 0, v8 0, v8 0, vu 0]] (cl_Add_nil 0 0 0 0 _  ) ?_
 rintro _ wd ⟨rfl, hF⟩
 refine ⟨vi 1, rfl, ?_⟩
 replace hS := (hS.to (hS.mem.keep0 hF)).put (d := 33) (v := vi 1) (by decide)
 clear hF
 refine hS.ordV (l := [0, 1, 2]) ?_
 refine St.ordF [1, 70, 0, 1, 1, 70, 0, 1, 1, 70, 0, 101, 101, 201] [8, 9, 10, 11, 12, 13, 14, 15, 16, 17, 18, 19, 22, 25] [7] (rest := [(20, 0), (21, 1), (23, 0), (24, 1), (26, 0), (27, 1), (28, 1), (29, 1), (30, 1), (31, 1), (32, 1), (33, 0), (34, 1), (35, 1), (36, 1), (37, 1), (38, 1), (39, 0), (40, 1), (41, 1), (42, 1)]) hS hap <| segF [(44, vb true), (45, .agg #[pnil, vi 0, vi 0]), (48, .agg #[pnil, vi 0, vi 0]), (51, .agg #[pt b'1 0, vi 40, vi 23])] [.t true, .e (ν8 0), .e (ν8 0), .e (ν8 0), .t true, .e (ν3 0), .e (ν3 0), .e (ν3 0), .t true, .e (ν3 0), .e (ν3 0), .e (ν3 0), .t true, .t true, .t true, .t true, .t true, .t true, .t true, .t true] trivial fun ac hS => ?_
 refine hS.ordCG 20 true 83 #[.agg #[pnil, vi 0, vi 0]] (cl_All_nil  _  ) ?_
 rintro _ wd ⟨rfl, hF⟩
 refine ⟨vnil, rfl, ?_⟩
 replace hS := (hS.to (hS.mem.keep0 hF)).put (d := 46) (v := vnil) (by decide)
 clear hF
 refine hS.ordV (l := [0, 1, 2]) ?_
 refine St.ordF [1] [21] [7, 44, 48, 51] (rest := [(23, 0), (24, 1), (26, 0), (27, 1), (28, 1), (29, 1), (30, 1), (31, 1), (32, 1), (33, 0), (34, 1), (35, 1), (36, 1), (37, 1), (38, 1), (39, 0), (40, 1), (41, 1), (42, 1)]) hS hap <| segF [(47, vi 0)] [.t true] trivial fun ac hS => ?_
 refine hS.ordCG 23 true 84 #[.agg #[pnil, vi 0, vi 0]] (cl_Room_nil  _  ) ?_
 rintro _ wd ⟨rfl, hF⟩
 refine ⟨vi 0, rfl, ?_⟩
 replace hS := (hS.to (hS.mem.keep0 hF)).put (d := 49) (v := vi 0) (by decide)
 clear hF
 refine hS.ordV (l := [0, 1, 2]) ?_
 refine St.ordF [1] [24] [7, 44, 51] (rest := [(26, 0), (27, 1), (28, 1), (29, 1), (30, 1), (31, 1), (32, 1), (33, 0), (34, 1), (35, 1), (36, 1), (37, 1), (38, 1), (39, 0), (40, 1), (41, 1), (42, 1)]) hS hap <| segF [(50, vi 0)] [.t true] trivial fun ac hS => ?_
 refine hS.ordCG 26 true 84 #[.agg #[pt b'1 0, vi 40, vi 23]] (cl_Room b'1 F2 (comM (AM.new 1) 0 1) 40 23 _ (hS.mem.res 0) (by first | decide | decide +kernel) (by first | decide | decide +kernel)) ?_
 rintro _ wd ⟨rfl, hF⟩
 refine ⟨vi (cSl 23 - ((cCnt (comM (AM.new 1) 0 1) 40 23 : Nat) : Int)), rfl, ?_⟩
 replace hS := (hS.to (hS.mem.keep0 hF)).put (d := 52) (v := vi (cSl 23 - ((cCnt (comM (AM.new 1) 0 1) 40 23 : Nat) : Int))) (by decide)
 clear hF
 replace hS := hS.fix 52 (vi 0) (show (vi (cSl 23 - ((cCnt (comM (AM.new 1) 0 1) 40 23 : Nat) : Int)) : Value) = vi 0 from (vint (by decide +kernel)))
 refine hS.ordV (l := [0, 1, 2]) ?_
 refine St.ordF [1, 1, 70, 0, 201, 1] [27, 28, 29, 30, 31, 32] [7] (rest := [(33, 0), (34, 1), (35, 1), (36, 1), (37, 1), (38, 1), (39, 0), (40, 1), (41, 1), (42, 1)]) hS hap <| segF [(56, vb true), (57, .agg #[pt b'1 0, vi 40, vi 23]), (58, .agg #[vu 1, v8 0, v8 0, vu 0])] [.t true, .t true, .e (ν8 0), .e (ν8 0), .e (ν8 0), .t true, .t true, .t true] trivial fun ac hS => ?_
 refine hS.ordCG 33 true 82 #[.agg #[pt b'1 0, vi 40, vi 23], .agg #[vu 1, v8 0, v8 0, vu 0]] (cl_Add b'1 F2 (comM (AM.new 1) 0 1) 40 23 1 0 0 0 _ (hS.mem.res 0) (by first | decide | decide +kernel) (by first | decide | decide +kernel) (by first | decide | decide +kernel)) ?_
 rintro _ wd ⟨F3, rfl, hA, hF⟩
 refine ⟨vi (addE (comM (AM.new 1) 0 1) 40 23 1), rfl, ?_⟩
 replace hS := (hS.to (hS.mem.stepA 0 rfl hA hF)).put (d := 59) (v := vi (addE (comM (AM.new 1) 0 1) 40 23 1)) (by decide)
 clear hF
 replace hS := hS.fix 59 (vi 10) (show (vi (addE (comM (AM.new 1) 0 1) 40 23 1) : Value) = vi 10 from (vint (by decide +kernel)))
 refine hS.ordV (l := [0, 1, 2]) ?_
 refine St.ordF [1, 70, 0, 201, 1] [34, 35, 36, 37, 38] [] (rest := [(39, 0), (40, 1), (41, 1), (42, 1)]) hS hap <| segF [(62, vb true), (63, .agg #[pt b'1 0, vi 40, vi 23]), (64, .agg #[vu 0, v8 0, v8 0, vu 0])] [.t true, .t true, .e (ν8 0), .e (ν8 0), .e (ν8 0), .t true, .t true] trivial fun ac hS => ?_
 refine hS.ordCG 39 true 82 #[.agg #[pt b'1 0, vi 40, vi 23], .agg #[vu 0, v8 0, v8 0, vu 0]] (cl_Add b'1 F3 (addM (comM (AM.new 1) 0 1) 40 23 1 0 0 0) 40 23 0 0 0 0 _ (hS.mem.res 0) (by first | decide | decide +kernel) (by first | decide | decide +kernel) (by first | decide | decide +kernel)) ?_
 rintro _ wd ⟨F4, rfl, hA, hF⟩
 refine ⟨vi (addE (addM (comM (AM.new 1) 0 1) 40 23 1 0 0 0) 40 23 0), rfl, ?_⟩
 replace hS := (hS.to (hS.mem.stepA 0 rfl hA hF)).put (d := 65) (v := vi (addE (addM (comM (AM.new 1) 0 1) 40 23 1 0 0 0) 40 23 0)) (by decide)
 clear hF
 replace hS := hS.fix 65 (vi 2) (show (vi (addE (addM (comM (AM.new 1) 0 1) 40 23 1 0 0 0) 40 23 0) : Value) = vi 2 from (vint (by decide +kernel)))
 refine hS.ordV (l := [0, 1, 2]) ?_
 refine St.ordF [1, 70, 0] [40, 41, 42] [] (rest := []) hS hap <| segF [(0, vb true)] [.t true, .t true] trivial fun ac hS => ?_
 refine ord_nil ?_
 refine wp_ret ?_
 refine St.retC 0 hS (vb true) [] trivial fun hw => ?_
 refine ⟨retd rfl, hw.fr0⟩

end Go.Proofs.YtghohcgbmceiaaaDoor.K
