/-
  Walks, printed by w2.py.
-/
import Derived.Test.YtojjkjedcafpeaaGreatDoorNe
import Derived.Test.YtojjkjedcafpeaaGreatDoorProg
namespace Go.Proofs.YtojjkjedcafpeaaGreatDoor.K
set_option linter.unusedVariables false
set_option linter.unusedSimpArgs false

set_option maxRecDepth 100000 in
set_option maxHeartbeats 1000000 in
theorem law07_open1 (w : World) :
    Calls Tryz.prog 131 #[vi 1] w fun e w' => ∃ (b' : Nat) (F' : Nat → Prop), e = .returned (.tuple #[pt b' 0, .agg #[pt b' 0, vi 64, vi 11], vb true]) ∧ (arR b' F' (comM (AM.new 3) 0 2)).R w' ∧ Fr w w' no F' := by
 refine enter (args := [vi 1]) (D := no) (A := []) Tryz.func131 rfl 29 rfl [] (WS.startL trivial) fun ac hS => ?_
 refine hS.regS [0, 0, 0] [0] fun ν1 => seg [(3, pt (ν1 0) 0)] [(0, some ((ν1 0), .cells [pnil, vi 0, vi 0] 51))] [] trivial fun ac wd hS => ?_
 refine wp_region_seq ?_
 refine hS.callC 14 #[vi 3] (ar_New 3 _  ) ?_
 rintro _ wd ⟨b'1, F2, rfl, hN, hF⟩
 refine ⟨pt b'1 0, rfl, ?_⟩
 replace hS := (hS.to (hS.mem.newA hN hF)).put (d := 9) (v := pt b'1 0) (by decide)
 clear hF
 refine hS.opsC 1 [0] [0, 3] fun _ => seg [(5, pt b'1 0)] [(0, none)] [] trivial fun ac wd hS => ?_
 refine list_nil_seq ?_
 refine wp_region_seq ?_
 refine hS.opsC 1 [0] [0, 3, 5] fun _ => seg [(10, pt b'1 0)] [(0, none)] [] trivial fun ac wd hS => ?_
 refine hS.callC 56 #[pt b'1 0, vi 0, vi 2] (ar_Commit b'1 F2 (AM.new 3) 0 2 _ (hS.mem.res 0) ) ?_
 rintro _ wd ⟨F3, rfl, hA, hF⟩
 refine ⟨vi (comE (AM.new 3) 0 2), rfl, ?_⟩
 replace hS := (hS.to (hS.mem.stepA 0 rfl hA hF)).put (d := 11) (v := vi (comE (AM.new 3) 0 2)) (by decide)
 clear hF
 refine hS.opsC 1 [0] [0, 3, 5] fun _ => seg [(6, vi (comE (AM.new 3) 0 2))] [(0, none)] [] trivial fun ac wd hS => ?_
 refine list_nil_seq ?_
 refine wp_region_seq ?_
 refine hS.opsC 4 [0, 0, 0, 0] [3, 5, 6] fun _ => seg [(13, pt b'1 0), (16, vi 11)] [(0, none)] [] trivial fun ac wd hS => ?_
 refine hS.call0 104 #[pt b'1 0, vi 64, vi 11] 17 (vw_Of b'1 F3 (comM (AM.new 3) 0 2) 64 11 _ (hS.mem.res 0) (by exact lBase_thr (by decide))) fun ac wd hS => ?_
 refine hS.opsC 6 [0, 0, 0, 0, 100, 0] [3, 5, 6] fun ν6 => seg [(7, pt (ν6 0) 0), (8, vi 0)] [(0, none), (1, some ((ν6 0), .cells [pt b'1 0, vi 64, vi 11] 49))] [.e (ν6 0), .e (ν6 0), .e (ν6 0)] trivial fun ac wd hS => ?_
 refine list_nil_seq ?_
 refine wp_region_seq ?_
 refine hS.opsC 2 [0, 100] [3, 6, 8] fun _ => seg [(20, pt b'1 0), (21, .agg #[pt b'1 0, vi 64, vi 11])] [(0, none)] [.e (ν6 0), .e (ν6 0), .e (ν6 0)] trivial fun ac wd hS => ?_
 refine hS.call0 106 #[.agg #[pt b'1 0, vi 64, vi 11]] 22 (ls_Open b'1 64 11 _  ) fun ac wd hS => ?_
 refine hS.opsC 9 [0, 0, 0, 3, 3, 80, 0, 0, 0] [3] fun _ => seg [(2, pt b'1 0), (4, vb ((((comE (AM.new 3) 0 2) : Int) == 0) && true))] [(0, some ((ν1 0), .cells [pt b'1 0, vi 64, vi 11] 51))] [.e (ν1 0), .e (ν1 0), .e (ν1 0)] trivial fun ac wd hS => ?_
 refine list_nil_seq ?_
 refine wp_ret ?_
 refine St.retC 0 hS (.tuple #[pt b'1 0, .agg #[pt b'1 0, vi 64, vi 11], vb ((((comE (AM.new 3) 0 2) : Int) == 0) && true)]) [.e (ν1 0), .e (ν1 0), .e (ν1 0)] trivial fun hw => ?_
 refine ⟨b'1, F3, retd (tuple3 rfl rfl (vbool ?_)), (hw.res 0), hw.frA⟩
 all_goals (first | rfl | decide +kernel)

set_option maxRecDepth 100000 in
set_option maxHeartbeats 1000000 in
theorem law07_awake (w : World) (hh0 : HE.holds w 1 (.fn 0 64 dbT)) :
    Calls Tryz.prog 100 #[] w fun e w' => e = .returned (vb true) ∧ Fr w w' no no := by
 have ha1 : lsaE (comM (AM.new 3) 0 2) [] 4128 = 0 := lo_awake.1
 have ha2 : lsaE (lsaM (comM (AM.new 3) 0 2) 64 11 0 [] 4128) [4128] 4096 = 0 := lo_awake.2.1
 have hc0 : ChainL (comM (AM.new 3) 0 2) 64 11 0 [] := (lo_zero fAw).ch
 have hc1 : ChainL (lsaM (comM (AM.new 3) 0 2) 64 11 0 [] 4128) 64 11 0 [4128] := lo_awake.2.2.1.ch
 have hc2 : ChainL (lsaM (lsaM (comM (AM.new 3) 0 2) 64 11 0 [] 4128) 64 11 0 [4128] 4096) 64 11 0 [4096, 4128] := lo_awake.2.2.2.ch
 have hp0 : ∀ a, a ∈ ([] : List Int) → 0 < a ∧ a ≤ 4611686018427387904 := (lo_zero fAw).ps
 have hp1 : ∀ a, a ∈ ([4128] : List Int) → 0 < a ∧ a ≤ 4611686018427387904 := lo_awake.2.2.1.ps
 have hp2 : ∀ a, a ∈ ([4096, 4128] : List Int) → 0 < a ∧ a ≤ 4611686018427387904 := lo_awake.2.2.2.ps
 refine enter (args := []) (D := no) (A := []) Tryz.func100 rfl 41 rfl [(1, .fn 0 64 dbT)] (WS.startL ⟨⟨rfl, hh0⟩, trivial⟩) fun ac hS => ?_
 refine hS.regS [0] [] fun _ => seg [] [(0, none)] [] trivial fun ac wd hS => ?_
 refine wp_region_seq ?_
 refine hS.callC 131 #[vi 1] (law07_open1  _  ) ?_
 rintro _ wd ⟨b'1, F2, rfl, hN, hF⟩
 refine ⟨.tuple #[pt b'1 0, .agg #[pt b'1 0, vi 64, vi 11], vb true], rfl, ?_⟩
 replace hS := (hS.to (hS.mem.newA hN hF)).put (d := 9) (v := .tuple #[pt b'1 0, .agg #[pt b'1 0, vi 64, vi 11], vb true]) (by decide)
 clear hF
 refine hS.opsC 8 [0, 0, 0, 0, 0, 0, 100, 0] [] fun ν2 => seg [(2, pt (ν2 0) 0), (3, vb true)] [(0, none), (1, some ((ν2 0), .cells [pt b'1 0, vi 64, vi 11] 51))] [.e (ν2 0), .e (ν2 0), .e (ν2 0)] trivial fun ac wd hS => ?_
 refine list_nil_seq ?_
 refine wp_region_seq ?_
 refine hS.opsC 1 [100] [2, 3] fun _ => seg [(13, .agg #[pt b'1 0, vi 64, vi 11])] [(0, none), (1, none)] [.e (ν2 0), .e (ν2 0), .e (ν2 0)] trivial fun ac wd hS => ?_
 refine hS.callC 73 #[.agg #[pt b'1 0, vi 64, vi 11], vi 0, vi 4128] (ls_Add b'1 F2 (comM (AM.new 3) 0 2) 64 11 0 4128 ([]) _ (hS.mem.res 0) (by first | assumption | omega | (simp_all; done) | (simp_all; omega)) (by first | assumption | omega | (simp_all; done) | (simp_all; omega)) (by with_reducible assumption) (by with_reducible assumption) (by first | assumption | omega | (simp_all; done) | (simp_all; omega))) ?_
 rintro _ wd ⟨F3, rfl, hA, hF⟩
 refine ⟨vi (lsaE (comM (AM.new 3) 0 2) ([]) 4128), rfl, ?_⟩
 replace hS := (hS.to (hS.mem.stepA 0 rfl hA hF)).put (d := 14) (v := vi (lsaE (comM (AM.new 3) 0 2) ([]) 4128)) (by decide)
 clear hF
 replace hS := hS.fix 14 (vi 0) (show (vi (lsaE (comM (AM.new 3) 0 2) ([]) 4128) : Value) = vi 0 from (vint (by first | with_reducible assumption | rfl)))
 refine hS.opsC 1 [0] [2, 3] fun _ => seg [(4, vi 0)] [(0, none), (1, none)] [] trivial fun ac wd hS => ?_
 refine list_nil_seq ?_
 refine wp_region_seq ?_
 refine hS.opsC 1 [100] [2, 3, 4] fun _ => seg [(15, .agg #[pt b'1 0, vi 64, vi 11])] [(0, none), (1, none)] [.e (ν2 0), .e (ν2 0), .e (ν2 0)] trivial fun ac wd hS => ?_
 refine hS.callC 73 #[.agg #[pt b'1 0, vi 64, vi 11], vi 0, vi 4096] (ls_Add b'1 F3 (lsaM (comM (AM.new 3) 0 2) 64 11 0 ([]) 4128) 64 11 0 4096 ([4128]) _ (hS.mem.res 0) (by first | assumption | omega | (simp_all; done) | (simp_all; omega)) (by first | assumption | omega | (simp_all; done) | (simp_all; omega)) (by with_reducible assumption) (by with_reducible assumption) (by first | assumption | omega | (simp_all; done) | (simp_all; omega))) ?_
 rintro _ wd ⟨F4, rfl, hA, hF⟩
 refine ⟨vi (lsaE (lsaM (comM (AM.new 3) 0 2) 64 11 0 ([]) 4128) ([4128]) 4096), rfl, ?_⟩
 replace hS := (hS.to (hS.mem.stepA 0 rfl hA hF)).put (d := 16) (v := vi (lsaE (lsaM (comM (AM.new 3) 0 2) 64 11 0 ([]) 4128) ([4128]) 4096)) (by decide)
 clear hF
 replace hS := hS.fix 16 (vi 0) (show (vi (lsaE (lsaM (comM (AM.new 3) 0 2) 64 11 0 ([]) 4128) ([4128]) 4096) : Value) = vi 0 from (vint (by first | with_reducible assumption | rfl)))
 refine hS.opsC 1 [0] [2, 3, 4] fun _ => seg [(5, vi 0)] [(0, none), (1, none)] [] trivial fun ac wd hS => ?_
 refine list_nil_seq ?_
 refine wp_region_seq ?_
 refine hS.opsC 1 [100] [3, 4, 5] fun _ => seg [(18, .agg #[pt b'1 0, vi 64, vi 11])] [(0, none)] [.e (ν2 0), .e (ν2 0), .e (ν2 0)] trivial fun ac wd hS => ?_
 refine hS.call0 114 #[.agg #[pt b'1 0, vi 64, vi 11], vi 0] 19 (ls_First b'1 F4 (lsaM (lsaM (comM (AM.new 3) 0 2) 64 11 0 ([]) 4128) 64 11 0 ([4128]) 4096) 64 11 0 ([4096, 4128]) _ (hS.mem.res 0) (by first | assumption | omega | (simp_all; done) | (simp_all; omega)) (by first | assumption | omega | (simp_all; done) | (simp_all; omega)) (by with_reducible assumption) (by with_reducible assumption)) fun ac wd hS => ?_
 replace hS := hS.fix 19 (.tuple #[vi 4096, vb true]) (show (.tuple #[vi (List.getD ([4096, 4128]) 0 0), vb ((List.getD ([4096, 4128]) 0 0 : Int) != 0)] : Value) = .tuple #[vi 4096, vb true] from (tuple2 (vint (by first | with_reducible assumption | rfl)) (vbool (by first | with_reducible assumption | rfl))))
 refine hS.opsC 5 [0, 0, 0, 0, 0] [3, 4, 5] fun _ => seg [(6, vi 4096), (7, vb true)] [(0, none)] [] trivial fun ac wd hS => ?_
 refine list_nil_seq ?_
 refine wp_region_seq ?_
 refine hS.call0 130 #[] 22 (law04_Awake  _ (hS.mem.get 0 1 (.fn 0 64 dbT)) ) fun ac wd hS => ?_
 refine hS.opsC 19 [0, 1, 70, 0, 1, 1, 70, 0, 1, 1, 70, 0, 1, 70, 0, 1, 1, 70, 0] [] fun _ => seg [(0, vb true)] [(0, none)] [.t true, .t true, .t true, .t true, .t true, .t true, .t true, .t true, .t true, .t true, .t true, .t true, .t true] trivial fun ac wd hS => ?_
 refine list_nil_seq ?_
 refine wp_ret ?_
 refine St.retC 0 hS (vb true) [] trivial fun hw => ?_
 refine ⟨retd rfl, hw.fr0⟩

end Go.Proofs.YtojjkjedcafpeaaGreatDoor.K
