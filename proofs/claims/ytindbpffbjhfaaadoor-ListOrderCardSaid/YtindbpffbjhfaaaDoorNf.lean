/-
  Walks, printed by w2.py.
-/
import Derived.Test.YtindbpffbjhfaaaDoorNe
import Derived.Test.YtindbpffbjhfaaaDoorProg
namespace Go.Proofs.YtindbpffbjhfaaaDoor.K
set_option linter.unusedVariables false
set_option linter.unusedSimpArgs false

set_option maxRecDepth 100000 in
set_option maxHeartbeats 1000000 in
theorem law07_open1 (w : World) :
    Calls Tryd.prog 15 #[vi 1] w fun e w' => ∃ (b' : Nat) (F' : Nat → Prop), e = .returned (.tuple #[pt b' 0, .agg #[pt b' 0, vi 64, vi 11], vb true]) ∧ (arR b' F' (comM (AM.new 3) 0 2)).R w' ∧ Fr w w' no F' := by
 refine enter (args := [vi 1]) (D := no) (A := []) Tryd.func15 rfl 29 rfl [] (WS.startL trivial) fun ac hS => ?_
 refine hS.regS [0, 0, 0] [0] fun ν1 => seg [(3, pt (ν1 0) 0)] [(0, some ((ν1 0), .cells [pnil, vi 0, vi 0] 27))] [] trivial fun ac wd hS => ?_
 refine wp_region_seq ?_
 refine hS.callC 32 #[vi 3] (ar_New 3 _  ) ?_
 rintro _ wd ⟨b'1, F2, rfl, hN, hF⟩
 refine ⟨pt b'1 0, rfl, ?_⟩
 replace hS := (hS.to (hS.mem.newA hN hF)).put (d := 9) (v := pt b'1 0) (by decide)
 clear hF
 refine hS.opsC 1 [0] [0, 3] fun _ => seg [(5, pt b'1 0)] [(0, none)] [] trivial fun ac wd hS => ?_
 refine list_nil_seq ?_
 refine wp_region_seq ?_
 refine hS.opsC 1 [0] [0, 3, 5] fun _ => seg [(10, pt b'1 0)] [(0, none)] [] trivial fun ac wd hS => ?_
 refine hS.callC 33 #[pt b'1 0, vi 0, vi 2] (ar_Commit b'1 F2 (AM.new 3) 0 2 _ (hS.mem.res 0) ) ?_
 rintro _ wd ⟨F3, rfl, hA, hF⟩
 refine ⟨vi (comE (AM.new 3) 0 2), rfl, ?_⟩
 replace hS := (hS.to (hS.mem.stepA 0 rfl hA hF)).put (d := 11) (v := vi (comE (AM.new 3) 0 2)) (by decide)
 clear hF
 refine hS.opsC 1 [0] [0, 3, 5] fun _ => seg [(6, vi (comE (AM.new 3) 0 2))] [(0, none)] [] trivial fun ac wd hS => ?_
 refine list_nil_seq ?_
 refine wp_region_seq ?_
 refine hS.opsC 4 [0, 0, 0, 0] [3, 5, 6] fun _ => seg [(13, pt b'1 0), (16, vi 11)] [(0, none)] [] trivial fun ac wd hS => ?_
 refine hS.call0 28 #[pt b'1 0, vi 64, vi 11] 17 (vw_Of b'1 F3 (comM (AM.new 3) 0 2) 64 11 _ (hS.mem.res 0) (by exact lBase_thr (by decide))) fun ac wd hS => ?_
 refine hS.opsC 6 [0, 0, 0, 0, 100, 0] [3, 5, 6] fun ν6 => seg [(7, pt (ν6 0) 0), (8, vi 0)] [(0, none), (1, some ((ν6 0), .cells [pt b'1 0, vi 64, vi 11] 25))] [.e (ν6 0), .e (ν6 0), .e (ν6 0)] trivial fun ac wd hS => ?_
 refine list_nil_seq ?_
 refine wp_region_seq ?_
 refine hS.opsC 2 [0, 100] [3, 6, 8] fun _ => seg [(20, pt b'1 0), (21, .agg #[pt b'1 0, vi 64, vi 11])] [(0, none)] [.e (ν6 0), .e (ν6 0), .e (ν6 0)] trivial fun ac wd hS => ?_
 refine hS.call0 30 #[.agg #[pt b'1 0, vi 64, vi 11]] 22 (ls_Open b'1 64 11 _  ) fun ac wd hS => ?_
 refine hS.opsC 9 [0, 0, 0, 3, 3, 80, 0, 0, 0] [3] fun _ => seg [(2, pt b'1 0), (4, vb ((((comE (AM.new 3) 0 2) : Int) == 0) && true))] [(0, some ((ν1 0), .cells [pt b'1 0, vi 64, vi 11] 27))] [.e (ν1 0), .e (ν1 0), .e (ν1 0)] trivial fun ac wd hS => ?_
 refine list_nil_seq ?_
 refine wp_ret ?_
 refine St.retC 0 hS (.tuple #[pt b'1 0, .agg #[pt b'1 0, vi 64, vi 11], vb ((((comE (AM.new 3) 0 2) : Int) == 0) && true)]) [.e (ν1 0), .e (ν1 0), .e (ν1 0)] trivial fun hw => ?_
 refine ⟨b'1, F3, retd (tuple3 rfl rfl (vbool ?_)), (hw.res 0), hw.frA⟩
 all_goals (first | rfl | decide +kernel)

set_option maxRecDepth 100000 in
set_option maxHeartbeats 1000000 in
theorem law07_awake (w : World) (hh0 : HE.holds w 1 (.fn 0 64 dbT)) :
    Calls Tryd.prog 14 #[] w fun e w' => e = .returned (vb true) ∧ Fr w w' no no := by
 have ha1 : lsaE (comM (AM.new 3) 0 2) [] 4128 = 0 := lo_awake.1
 have ha2 : lsaE (lsaM (comM (AM.new 3) 0 2) 64 11 0 [] 4128) [4128] 4096 = 0 := lo_awake.2.1
 have hc0 : ChainL (comM (AM.new 3) 0 2) 64 11 0 [] := (lo_zero fAw).ch
 have hc1 : ChainL (lsaM (comM (AM.new 3) 0 2) 64 11 0 [] 4128) 64 11 0 [4128] := lo_awake.2.2.1.ch
 have hc2 : ChainL (lsaM (lsaM (comM (AM.new 3) 0 2) 64 11 0 [] 4128) 64 11 0 [4128] 4096) 64 11 0 [4096, 4128] := lo_awake.2.2.2.ch
 have hp0 : ∀ a, a ∈ ([] : List Int) → 0 < a ∧ a ≤ 4611686018427387904 := (lo_zero fAw).ps
 have hp1 : ∀ a, a ∈ ([4128] : List Int) → 0 < a ∧ a ≤ 4611686018427387904 := lo_awake.2.2.1.ps
 have hp2 : ∀ a, a ∈ ([4096, 4128] : List Int) → 0 < a ∧ a ≤ 4611686018427387904 := lo_awake.2.2.2.ps
 refine enter (args := []) (D := no) (A := []) Tryd.func14 rfl 41 rfl [(1, .fn 0 64 dbT)] (WS.startL ⟨⟨rfl, hh0⟩, trivial⟩) fun ac hS => ?_
 refine hS.regS [0] [] fun _ => seg [] [(0, none)] [] trivial fun ac wd hS => ?_
 refine wp_region_seq ?_
 refine hS.callC 15 #[vi 1] (law07_open1  _  ) ?_
 rintro _ wd ⟨b'1, F2, rfl, hN, hF⟩
 refine ⟨.tuple #[pt b'1 0, .agg #[pt b'1 0, vi 64, vi 11], vb true], rfl, ?_⟩
 replace hS := (hS.to (hS.mem.newA hN hF)).put (d := 9) (v := .tuple #[pt b'1 0, .agg #[pt b'1 0, vi 64, vi 11], vb true]) (by decide)
 clear hF
 refine hS.opsC 8 [0, 0, 0, 0, 0, 0, 100, 0] [] fun ν2 => seg [(2, pt (ν2 0) 0), (3, vb true)] [(0, none), (1, some ((ν2 0), .cells [pt b'1 0, vi 64, vi 11] 27))] [.e (ν2 0), .e (ν2 0), .e (ν2 0)] trivial fun ac wd hS => ?_
 refine list_nil_seq ?_
 refine wp_region_seq ?_
 refine hS.opsC 1 [100] [2, 3] fun _ => seg [(13, .agg #[pt b'1 0, vi 64, vi 11])] [(0, none), (1, none)] [.e (ν2 0), .e (ν2 0), .e (ν2 0)] trivial fun ac wd hS => ?_
 refine hS.callC 16 #[.agg #[pt b'1 0, vi 64, vi 11], vi 0, vi 4128] (ls_Add b'1 F2 (comM (AM.new 3) 0 2) 64 11 0 4128 ([]) _ (hS.mem.res 0) (by first | assumption | omega | (simp_all; done) | (simp_all; omega)) (by first | assumption | omega | (simp_all; done) | (simp_all; omega)) (by with_reducible assumption) (by with_reducible assumption) (by first | assumption | omega | (simp_all; done) | (simp_all; omega))) ?_
 rintro _ wd ⟨F3, rfl, hA, hF⟩
 refine ⟨vi (lsaE (comM (AM.new 3) 0 2) ([]) 4128), rfl, ?_⟩
 replace hS := (hS.to (hS.mem.stepA 0 rfl hA hF)).put (d := 14) (v := vi (lsaE (comM (AM.new 3) 0 2) ([]) 4128)) (by decide)
 clear hF
 replace hS := hS.fix 14 (vi 0) (show (vi (lsaE (comM (AM.new 3) 0 2) ([]) 4128) : Value) = vi 0 from (vint (by first | with_reducible assumption | rfl)))
 refine hS.opsC 1 [0] [2, 3] fun _ => seg [(4, vi 0)] [(0, none), (1, none)] [] trivial fun ac wd hS => ?_
 refine list_nil_seq ?_
 refine wp_region_seq ?_
 refine hS.opsC 1 [100] [2, 3, 4] fun _ => seg [(15, .agg #[pt b'1 0, vi 64, vi 11])] [(0, none), (1, none)] [.e (ν2 0), .e (ν2 0), .e (ν2 0)] trivial fun ac wd hS => ?_
 refine hS.callC 16 #[.agg #[pt b'1 0, vi 64, vi 11], vi 0, vi 4096] (ls_Add b'1 F3 (lsaM (comM (AM.new 3) 0 2) 64 11 0 ([]) 4128) 64 11 0 4096 ([4128]) _ (hS.mem.res 0) (by first | assumption | omega | (simp_all; done) | (simp_all; omega)) (by first | assumption | omega | (simp_all; done) | (simp_all; omega)) (by with_reducible assumption) (by with_reducible assumption) (by first | assumption | omega | (simp_all; done) | (simp_all; omega))) ?_
 rintro _ wd ⟨F4, rfl, hA, hF⟩
 refine ⟨vi (lsaE (lsaM (comM (AM.new 3) 0 2) 64 11 0 ([]) 4128) ([4128]) 4096), rfl, ?_⟩
 replace hS := (hS.to (hS.mem.stepA 0 rfl hA hF)).put (d := 16) (v := vi (lsaE (lsaM (comM (AM.new 3) 0 2) 64 11 0 ([]) 4128) ([4128]) 4096)) (by decide)
 clear hF
 replace hS := hS.fix 16 (vi 0) (show (vi (lsaE (lsaM (comM (AM.new 3) 0 2) 64 11 0 ([]) 4128) ([4128]) 4096) : Value) = vi 0 from (vint (by first | with_reducible assumption | rfl)))
 refine hS.opsC 1 [0] [2, 3, 4] fun _ => seg [(5, vi 0)] [(0, none), (1, none)] [] trivial fun ac wd hS => ?_
 refine list_nil_seq ?_
 refine wp_region_seq ?_
 refine hS.opsC 1 [100] [3, 4, 5] fun _ => seg [(18, .agg #[pt b'1 0, vi 64, vi 11])] [(0, none)] [.e (ν2 0), .e (ν2 0), .e (ν2 0)] trivial fun ac wd hS => ?_
 refine hS.call0 22 #[.agg #[pt b'1 0, vi 64, vi 11], vi 0] 19 (ls_First b'1 F4 (lsaM (lsaM (comM (AM.new 3) 0 2) 64 11 0 ([]) 4128) 64 11 0 ([4128]) 4096) 64 11 0 ([4096, 4128]) _ (hS.mem.res 0) (by first | assumption | omega | (simp_all; done) | (simp_all; omega)) (by first | assumption | omega | (simp_all; done) | (simp_all; omega)) (by with_reducible assumption) (by with_reducible assumption)) fun ac wd hS => ?_
 replace hS := hS.fix 19 (.tuple #[vi 4096, vb true]) (show (.tuple #[vi (List.getD ([4096, 4128]) 0 0), vb ((List.getD ([4096, 4128]) 0 0 : Int) != 0)] : Value) = .tuple #[vi 4096, vb true] from (tuple2 (vint (by first | with_reducible assumption | rfl)) (vbool (by first | with_reducible assumption | rfl))))
 refine hS.opsC 5 [0, 0, 0, 0, 0] [3, 4, 5] fun _ => seg [(6, vi 4096), (7, vb true)] [(0, none)] [] trivial fun ac wd hS => ?_
 refine list_nil_seq ?_
 refine wp_region_seq ?_
 refine hS.call0 99 #[] 22 (law04_Awake  _ (hS.mem.get 0 1 (.fn 0 64 dbT)) ) fun ac wd hS => ?_
 refine hS.opsC 19 [0, 1, 70, 0, 1, 1, 70, 0, 1, 1, 70, 0, 1, 70, 0, 1, 1, 70, 0] [] fun _ => seg [(0, vb true)] [(0, none)] [.t true, .t true, .t true, .t true, .t true, .t true, .t true, .t true, .t true, .t true, .t true, .t true, .t true] trivial fun ac wd hS => ?_
 refine list_nil_seq ?_
 refine wp_ret ?_
 refine St.retC 0 hS (vb true) [] trivial fun hw => ?_
 refine ⟨retd rfl, hw.fr0⟩

set_option maxRecDepth 100000 in
set_option maxHeartbeats 1000000 in
theorem cmp_isNaN (x : Int) (w : World) :
    Calls Tryd.prog 179 #[vi x] w fun e w' => e = .returned (vb false) ∧ Fr w w' no no := by
 refine enter (args := [vi x]) (D := no) (A := []) Tryd.func179 rfl 6 rfl [] (WS.startL trivial) fun ac hS => ?_
 refine hS.regS [0] [0] fun _ => seg [] [] [] trivial fun ac wd hS => ?_
 refine hS.regS [0, 0, fx 0 (vb false), 0] [] fun _ => seg [(2, vb false)] [] [.p ((vb ((x : Int) != x) : Value) = vb false)] ⟨(congrArg Value.bool (bne_self_eq_false _)), trivial⟩ fun ac wd hS => ?_
 refine wp_ret ?_
 refine St.retC 0 hS (vb false) [] trivial fun hw => ?_
 refine ⟨retd rfl, hw.fr0⟩

set_option maxRecDepth 100000 in
set_option maxHeartbeats 1000000 in
theorem cmp_Less (x : Int) (y : Int) (w : World) :
    Calls Tryd.prog 104 #[vi x, vi y] w fun e w' => e = .returned (vb (decide ((x : Int) < y))) ∧ Fr w w' no no := by
 refine enter (args := [vi x, vi y]) (D := no) (A := []) Tryd.func104 rfl 17 rfl [] (WS.startL trivial) fun ac hS => ?_
 refine hS.regS [0] [0, 1] fun _ => seg [] [] [] trivial fun ac wd hS => ?_
 refine wp_region_seq ?_
 refine hS.opsC 1 [0] [0, 1] fun _ => seg [(5, vi x)] [] [] trivial fun ac wd hS => ?_
 refine hS.call0 179 #[vi x] 6 (cmp_isNaN x _  ) fun ac wd hS => ?_
 refine hS.opsC 1 [0] [0, 1] fun _ => seg [(7, vb false)] [] [] trivial fun ac wd hS => ?_
 refine hS.opsC 10 [2, 2, 2, 60, 0, 1, 1, 1, 60, 0] [] fun _ => seg [(4, vb (decide ((x : Int) < y)))] [] [.t false, .t false, .t false, .t false, .t false, .t false, .t false, .t false] trivial fun ac wd hS => ?_
 refine list_nil_seq ?_
 refine wp_ret ?_
 refine St.retC 0 hS (vb (decide ((x : Int) < y))) [] trivial fun hw => ?_
 refine ⟨retd rfl, hw.fr0⟩

set_option maxRecDepth 100000 in
set_option maxHeartbeats 1000000 in
theorem slices_IsSorted (g : Nat) (o : Nat) (c : Nat) (l : List Int) (w : World) (hh0 : HE.holds w g (.fn o (o + l.length) (ints l o))) (hr : l.Pairwise (· < ·)) (hb : l.length ≤ 4294967296) :
    Calls Tryd.prog 21 #[sc g o l.length c] w fun e w' => e = .returned (vb true) ∧ Fr w w' no no := by
 refine enter (args := [sc g o l.length c]) (D := no) (A := []) Tryd.func21 rfl 21 rfl [(g, .fn o (o + l.length) (ints l o))] (WS.startL ⟨⟨rfl, hh0⟩, trivial⟩) fun ac hS => ?_
 refine hS.regS [0] [0] fun _ => seg [] [(0, none)] [] trivial fun ac wd hS => ?_
 refine wp_seq ?_
 refine hS.regS [0, 0, 20, 0] [0] fun _ => seg [(3, vi (((l.length : Nat) : Int) - 1))] [(0, none)] [.p (fit .i64 (((l.length : Nat) : Int) - 1))] ⟨fit_i64 (by omega), trivial⟩ fun ac wd hS => ?_
 refine wp_block ?_
 refine St.loopC (σ := Int) (fun (x3 : Int) => ⟨[(0, [], sc g o l.length c), (3, [], vi x3)], [(g, .fn o (o + l.length) (ints l o))], [], (-1 ≤ x3 ∧ x3 < (l.length : Int)) ∧ True, Int.toNat x3⟩) (((l.length : Nat) : Int) - 1) ⟨(by omega), trivial⟩ hS ?_
 clear hS
 rintro x3 ⟨i0, -⟩ ac wd hS
 replace i0 : -1 ≤ x3 ∧ x3 < (l.length : Int) := i0
 refine wp_seq ?_
 refine hS.regS [0, 0] [0, 3] fun _ => seg [(8, vb (decide ((0 : Int) < x3)))] [(0, none)] [] trivial fun ac wd hS => ?_
 refine hS.condC (decide ((0 : Int) < x3)) (fun hb1o hb1 => ?_) (fun hb1o hb1 => ?_)
 ·
  refine wp_skip ?_
  refine pop_then ?_
  refine wp_seq ?_
  refine wp_block ?_
  refine St.ordBeginS [(0, 1), (1, 1), (2, 1), (3, 1), (4, 1), (5, 1), (6, 1), (7, 1), (8, 1), (9, 0)] [(g, .fn o (o + l.length) (ints l o))] [0] hS fun wd hS => ?_
  have hap := hS.mem.pairs (Hf := [(g, .fn o (o + l.length) (ints l o))]) (l := [0])
  refine St.ordF [0, 0, 20, fx 0 (vi (List.getD l (Int.toNat x3) 0)), 0, 0, 20, 20, fx 0 (vi (List.getD l (Int.toNat (x3 - 1)) 0))] [0, 1, 2, 3, 4, 5, 6, 7, 8] [0, 3] (rest := [(9, 0)]) hS hap <| segF [(14, vi (List.getD l (Int.toNat x3) 0)), (19, vi (List.getD l (Int.toNat (x3 - 1)) 0))] [.p ((((ints l o) (o + Int.toNat (x3 - 1) * 1)) : Value) = vi (List.getD l (Int.toNat (x3 - 1)) 0)), .e g, .p (o ≤ o + Int.toNat (x3 - 1) * 1 ∧ o + Int.toNat (x3 - 1) * 1 < (o + l.length)), .p ((0 : Int) ≤ (x3 - 1) ∧ ((x3 - 1) : Int) < ((l.length : Nat) : Int)), .p (fit .i64 (x3 - 1)), .p ((((ints l o) (o + Int.toNat x3 * 1)) : Value) = vi (List.getD l (Int.toNat x3) 0)), .e g, .p (o ≤ o + Int.toNat x3 * 1 ∧ o + Int.toNat x3 * 1 < (o + l.length)), .p ((0 : Int) ≤ x3 ∧ (x3 : Int) < ((l.length : Nat) : Int))] ⟨(ints_rel l o (Int.toNat (x3 - 1))), (by omega), (by omega), fit_i64 (by omega), (ints_rel l o (Int.toNat x3)), (by omega), (by omega), trivial⟩ fun ac hS => ?_
  refine hS.ordC 9 104 #[vi (List.getD l (Int.toNat x3) 0), vi (List.getD l (Int.toNat (x3 - 1)) 0)] (cmp_Less (List.getD l (Int.toNat x3) 0) (List.getD l (Int.toNat (x3 - 1)) 0) _  ) ?_
  rintro _ wd ⟨rfl, hF⟩
  refine ⟨vb (decide (((List.getD l (Int.toNat x3) 0) : Int) < (List.getD l (Int.toNat (x3 - 1)) 0))), rfl, ?_⟩
  replace hS := (hS.to (hS.mem.keep0 hF)).put (d := 20) (v := vb (decide (((List.getD l (Int.toNat x3) 0) : Int) < (List.getD l (Int.toNat (x3 - 1)) 0)))) (by decide)
  clear hF
  refine hS.ordV (l := [0]) ?_
  refine ord_nil ?_
  refine hS.condK (decide (((List.getD l (Int.toNat x3) 0) : Int) < (List.getD l (Int.toNat (x3 - 1)) 0))) false (by exact decide_eq_false (rise_le hr (by omega) (by omega))) ?_
  show Code.wp _ _ _ _ _
  refine wp_skip ?_
  refine pop_block ?_
  refine pop_then ?_
  refine hS.regC [0, 20, 0] [0] fun _ => seg [(3, vi (x3 - 1))] [(0, none)] [.p (fit .i64 (x3 - 1))] ⟨fit_i64 (by omega), trivial⟩ fun ac wd hS => ?_
  exact pop_then (hS.next (x3 - 1) ⟨(by first | omega | assumption | (simp; done) | (simp; omega)), trivial⟩ (by dsimp only; omega))
 ·
  refine wp_exit ?_
  refine pop_then_exit ?_
  refine pop_then_exit ?_
  refine pop_block_hit ?_
  refine pop_then ?_
  refine hS.regS [0] [] fun _ => seg [(2, vb true)] [] [] trivial fun ac wd hS => ?_
  refine wp_ret ?_
  refine St.retC 0 hS (vb true) [] trivial fun hw => ?_
  refine ⟨retd rfl, hw.fr0⟩

set_option maxRecDepth 100000 in
set_option maxHeartbeats 1000000 in
theorem slices_IsSorted_nil (w : World) :
    Calls Tryd.prog 21 #[vnil] w fun e w' => e = .returned (vb true) ∧ Fr w w' no no := by
 refine enter (args := [vnil]) (D := no) (A := []) Tryd.func21 rfl 21 rfl [] (WS.startL trivial) fun ac hS => ?_
 refine hS.regS [0] [0] fun _ => seg [] [] [] trivial fun ac wd hS => ?_
 refine wp_seq ?_
 refine hS.regS [0, 0, 0, 0] [0] fun _ => seg [(3, vi (-1))] [] [] trivial fun ac wd hS => ?_
 refine wp_block ?_
 refine wp_loop_rounds 1 ?_
 refine rounds_in ?_
 refine wp_seq ?_
 refine hS.regS [0, 0] [0, 3] fun _ => seg [(8, vb false)] [] [] trivial fun ac wd hS => ?_
 refine hS.condF ?_
 refine wp_exit ?_
 refine pop_then_exit ?_
 refine pop_then_exit ?_
 refine pop_block_hit ?_
 refine pop_then ?_
 refine hS.regS [0] [] fun _ => seg [(2, vb true)] [] [] trivial fun ac wd hS => ?_
 refine wp_ret ?_
 refine St.retC 0 hS (vb true) [] trivial fun hw => ?_
 refine ⟨retd rfl, hw.fr0⟩

set_option maxRecDepth 100000 in
set_option maxHeartbeats 1000000 in
theorem law07_ListOrder_a (g : Nat) (o : Nat) (c : Nat) (n : Nat) (ws : Nat → Nat) (w : World) (hh0 : HE.holds w 1 (.fn 0 64 dbT)) (hh1 : HE.holds w g (.fn o (o + n) (u16s ws o))) (h0 : 0 < n) (hn : n ≤ 9223372036854775807) (hws : ∀ i, i < n → ws i ≤ 65535) :
    Calls Tryd.prog 4 #[sc g o n c] w fun e w' => e = .returned (vb true) ∧ Fr w w' no no := by
 refine enter (args := [sc g o n c]) (D := no) (A := []) Tryd.func4 rfl 89 rfl [(1, .fn 0 64 dbT), (g, .fn o (o + n) (u16s ws o))] (WS.startL ⟨⟨rfl, hh0⟩, ⟨rfl, hh1⟩, trivial⟩) fun ac hS => ?_
 refine hS.regS [0] [0] fun _ => seg [] [(0, none), (1, none)] [] trivial fun ac wd hS => ?_
 refine wp_seq ?_
 refine wp_region_seq ?_
 refine hS.call0 14 #[] 14 (law07_awake  _ (hS.mem.get 0 1 (.fn 0 64 dbT)) ) fun ac wd hS => ?_
 refine hS.opsC 1 [0] [0] fun _ => seg [(15, vb false)] [(0, none), (1, none)] [] trivial fun ac wd hS => ?_
 refine list_nil_seq ?_
 refine hS.condF ?_
 refine wp_skip ?_
 refine pop_then ?_
 refine wp_seq ?_
 refine hS.regS [0, 0, 0] [0] fun _ => seg [(18, vb (decide ((80 : Int) < ((n : Nat) : Int))))] [(0, none), (1, none)] [] trivial fun ac wd hS => ?_
 refine hS.condC (decide ((80 : Int) < ((n : Nat) : Int))) (fun hb1o hb1 => ?_) (fun hb1o hb1 => ?_)
 ·
  refine hS.regS [0] [] fun _ => seg [(2, vb true)] [(0, none)] [] trivial fun ac wd hS => ?_
  refine wp_ret ?_
  refine pop_then_ret ?_
  refine St.retC 0 hS (vb true) [] trivial fun hw => ?_
  refine ⟨retd rfl, hw.fr0⟩
 ·
  refine wp_skip ?_
  refine pop_then ?_
  refine wp_region_seq ?_
  refine hS.callC 15 #[vi 1] (law07_open1  _  ) ?_
  rintro _ wd ⟨b'2, F3, rfl, hN, hF⟩
  refine ⟨.tuple #[pt b'2 0, .agg #[pt b'2 0, vi 64, vi 11], vb true], rfl, ?_⟩
  replace hS := (hS.to (hS.mem.newA hN hF)).put (d := 20) (v := .tuple #[pt b'2 0, .agg #[pt b'2 0, vi 64, vi 11], vb true]) (by decide)
  clear hF
  refine hS.opsC 8 [0, 0, 0, 0, 0, 0, 200, 0] [0] fun ν5 => seg [(4, pt (ν5 0) 0), (5, vb true)] [(0, none), (1, none), (2, some ((ν5 0), .cells [pt b'2 0, vi 64, vi 11] 27))] [.e (ν5 0), .e (ν5 0), .e (ν5 0)] trivial fun ac wd hS => ?_
  refine list_nil_seq ?_
  refine hS.regS [0] [0, 4, 5] fun _ => seg [(6, vi 0)] [(0, none), (1, none), (2, none)] [] trivial fun ac wd hS => ?_
  refine wp_seq ?_
  refine hS.regS [0, 0, 0] [0, 4, 5, 6] fun _ => seg [(24, sc g o n c), (25, vi ((n : Nat) : Int)), (26, vi 0)] [(0, none), (1, none), (2, none)] [] trivial fun ac wd hS => ?_
  refine wp_block ?_
  refine St.loopC (σ := Int × Int × (Nat → Prop) × AM × List Int) (fun (x : Int × Int × (Nat → Prop) × AM × List Int) => match x with | (x6, x26, Fx, mx, L) => ⟨[(0, [], sc g o n c), (4, [], pt (ν5 0) 0), (5, [], vb true), (6, [], vi x6), (24, [], sc g o n c), (25, [], vi ((n : Nat) : Int)), (26, [], vi x26)], [(1, .fn 0 64 dbT), (g, .fn o (o + n) (u16s ws o)), ((ν5 0), .cells [pt b'2 0, vi 64, vi 11] 27)], [arR b'2 Fx mx], (0 ≤ x26 ∧ x26 ≤ (n : Int)) ∧ (LO mx ws L x26) ∧ (x6 = ((L.length : Nat) : Int)) ∧ (0 < x26 → L ≠ []) ∧ (((L.length : Nat) : Int) ≤ x26) ∧ True, n - Int.toNat x26⟩) (0, 0, F3, (comM (AM.new 3) 0 2), []) ⟨(by first | omega | rfl | exact lo_zero ws), (by exact lo_zero ws), (by rfl), (by intro q; omega), (by exact Int.le_refl _), trivial⟩ hS ?_
  clear hS
  rintro ⟨x6, x26, Fx, mx, L⟩ ⟨i0, i1, i2, i3, i4, -⟩ ac wd hS
  replace i0 : 0 ≤ x26 ∧ x26 ≤ (n : Int) := i0
  replace i1 : LO mx ws L x26 := i1
  replace i2 : x6 = ((L.length : Nat) : Int) := i2
  replace i3 : 0 < x26 → L ≠ [] := i3
  replace i4 : ((L.length : Nat) : Int) ≤ x26 := i4
  refine hS.regS [0] [0, 4, 5, 6, 24, 25, 26] fun _ => seg [(27, vb (decide ((x26 : Int) < ((n : Nat) : Int))))] [(0, none), (1, none), (2, none)] [] trivial fun ac wd hS => ?_
  refine wp_seq ?_
  refine hS.condC (decide ((x26 : Int) < ((n : Nat) : Int))) (fun hb4o hb4 => ?_) (fun hb4o hb4 => ?_)
  ·
   have hQ := lo_add i1 i0.1
   have hw1 := hws (Int.toNat x26) (by omega)
   refine wp_skip ?_
   refine pop_then ?_
   refine wp_seq ?_
   refine wp_block ?_
   refine hS.regS [20, fx 100 (.int .u16 ((ws (Int.toNat x26) : Nat) : Int)), 0] [0, 4, 5, 6, 24, 25, 26] fun _ => seg [(8, .int .u16 ((ws (Int.toNat x26) : Nat) : Int))] [(0, none), (1, none), (2, none)] [.p ((((u16s ws o) (o + Int.toNat x26 * 1)) : Value) = .int .u16 ((ws (Int.toNat x26) : Nat) : Int)), .e g, .p (o ≤ o + Int.toNat x26 * 1 ∧ o + Int.toNat x26 * 1 < (o + n)), .p ((0 : Int) ≤ x26 ∧ (x26 : Int) < ((n : Nat) : Int))] ⟨(u16s_rel ws o (Int.toNat x26)), (by omega), (by omega), trivial⟩ fun ac wd hS => ?_
   refine wp_region_seq ?_
   refine hS.opsC 6 [200, 0, 20, 20, 20, 20] [0, 4, 5, 6, 24, 25, 26] fun _ => seg [(30, .agg #[pt b'2 0, vi 64, vi 11]), (35, vi (4096 + (16 * (((ws (Int.toNat x26)) % 256 : Nat) : Int))))] [(0, none), (1, none), (2, none)] [.p (fit .i64 (4096 + (16 * (((ws (Int.toNat x26)) % 256 : Nat) : Int)))), .p (fit .i64 (16 * (((ws (Int.toNat x26)) % 256 : Nat) : Int))), .p (fit .i64 (((ws (Int.toNat x26)) % 256 : Nat) : Int)), .p ((256 : Int) ≠ 0 ∧ Int.tmod ((ws (Int.toNat x26) : Nat) : Int) 256 = (((ws (Int.toNat x26)) % 256 : Nat) : Int)), .e (ν5 0), .e (ν5 0), .e (ν5 0)] ⟨fit_i64 (by omega), fit_i64 (by omega), fit_i64 (by omega), rem2_n (d := 256) (by trivial) (by omega), trivial⟩ fun ac wd hS => ?_
   refine hS.callC 16 #[.agg #[pt b'2 0, vi 64, vi 11], vi 0, vi (4096 + (16 * (((ws (Int.toNat x26)) % 256 : Nat) : Int)))] (ls_Add b'2 Fx mx 64 11 0 (4096 + (16 * (((ws (Int.toNat x26)) % 256 : Nat) : Int))) L _ (hS.mem.res 0) (by first | assumption | omega | (simp_all; done) | (simp_all; omega)) (by first | assumption | omega | (simp_all; done) | (simp_all; omega)) (by exact i1.ch) (by exact i1.ps) (by first | assumption | omega | (simp_all; done) | (simp_all; omega))) ?_
   rintro _ wd ⟨F5, rfl, hA, hF⟩
   refine ⟨vi (lsaE mx L (4096 + (16 * (((ws (Int.toNat x26)) % 256 : Nat) : Int)))), rfl, ?_⟩
   replace hS := (hS.to (hS.mem.stepA 0 rfl hA hF)).put (d := 36) (v := vi (lsaE mx L (4096 + (16 * (((ws (Int.toNat x26)) % 256 : Nat) : Int))))) (by decide)
   clear hF
   refine hS.opsC 1 [0] [0, 4, 5, 6, 24, 25, 26] fun _ => seg [(37, vb (((lsaE mx L (4096 + (16 * (((ws (Int.toNat x26)) % 256 : Nat) : Int)))) : Int) == 0))] [(0, none), (1, none), (2, none)] [] trivial fun ac wd hS => ?_
   refine list_nil_seq ?_
   refine hS.condC (((lsaE mx L (4096 + (16 * (((ws (Int.toNat x26)) % 256 : Nat) : Int)))) : Int) == 0) (fun hb6o hb6 => ?_) (fun hb6o hb6 => ?_)
   ·
    have hne : ¬ L.getD (cntL L (atA ws (Int.toNat x26))) 0 = atA ws (Int.toNat x26) := fun q => by have e := hQ.1; rw [if_pos q] at e; exact absurd (e.symm.trans hb6) (by decide)
    refine hS.regC [0, 20, 0] [0, 4, 5, 24, 25, 26] fun _ => seg [(6, vi (x6 + 1))] [(0, none), (1, none), (2, none)] [.p (fit .i64 (x6 + 1))] ⟨fit_i64 (by omega), trivial⟩ fun ac wd hS => ?_
    refine pop_block ?_
    refine pop_then ?_
    refine hS.regC [20, 0] [0, 4, 5, 6, 24, 25] fun _ => seg [(26, vi (x26 + 1))] [(0, none), (1, none), (2, none)] [.p (fit .i64 (x26 + 1))] ⟨fit_i64 (by omega), trivial⟩ fun ac wd hS => ?_
    exact pop_then (hS.next ((x6 + 1), (x26 + 1), F5, (lsaM mx 64 11 0 L (4096 + (16 * (((ws (Int.toNat x26)) % 256 : Nat) : Int)))), (addL L (4096 + (16 * ((((ws (Int.toNat x26))) % 256 : Nat) : Int))))) ⟨(by omega), (by exact hQ.2.1), (by (have e := addL_len L (atA ws (Int.toNat x26)); first | (rw [if_neg hne] at e; exact (show _ = (((addL L (atA ws (Int.toNat x26))).length : Nat) : Int) by omega)) | (rw [if_pos hne] at e; exact (show _ = (((addL L (atA ws (Int.toNat x26))).length : Nat) : Int) by omega)))), (by intro _; exact hQ.2.2), (by (have e := addL_len L (atA ws (Int.toNat x26)); exact (show (((addL L (atA ws (Int.toNat x26))).length : Nat) : Int) ≤ _ by split at e <;> omega))), trivial⟩ (by dsimp only; omega))
   ·
    have hne : L.getD (cntL L (atA ws (Int.toNat x26))) 0 = atA ws (Int.toNat x26) := Decidable.not_not.1 fun q => by have e := hQ.1; rw [if_neg q] at e; exact hb6 e
    refine wp_skip ?_
    refine pop_block ?_
    refine pop_then ?_
    refine hS.regC [20, 0] [0, 4, 5, 6, 24, 25] fun _ => seg [(26, vi (x26 + 1))] [(0, none), (1, none), (2, none)] [.p (fit .i64 (x26 + 1))] ⟨fit_i64 (by omega), trivial⟩ fun ac wd hS => ?_
    exact pop_then (hS.next (x6, (x26 + 1), F5, (lsaM mx 64 11 0 L (4096 + (16 * (((ws (Int.toNat x26)) % 256 : Nat) : Int)))), (addL L (4096 + (16 * ((((ws (Int.toNat x26))) % 256 : Nat) : Int))))) ⟨(by omega), (by exact hQ.2.1), (by (have e := addL_len L (atA ws (Int.toNat x26)); first | (rw [if_neg hne] at e; exact (show _ = (((addL L (atA ws (Int.toNat x26))).length : Nat) : Int) by omega)) | (rw [if_pos hne] at e; exact (show _ = (((addL L (atA ws (Int.toNat x26))).length : Nat) : Int) by omega)))), (by intro _; exact hQ.2.2), (by (have e := addL_len L (atA ws (Int.toNat x26)); exact (show (((addL L (atA ws (Int.toNat x26))).length : Nat) : Int) ≤ _ by split at e <;> omega))), trivial⟩ (by dsimp only; omega))
  ·
   refine wp_exit ?_
   refine pop_then_exit ?_
   refine pop_then_exit ?_
   refine pop_block_hit ?_
   refine pop_then ?_
   refine wp_region_seq ?_
   refine hS.opsC 1 [200] [0, 4, 5, 6] fun _ => seg [(41, .agg #[pt b'2 0, vi 64, vi 11])] [(0, none), (1, none), (2, none)] [.e (ν5 0), .e (ν5 0), .e (ν5 0)] trivial fun ac wd hS => ?_
   refine hS.callC 20 #[.agg #[pt b'2 0, vi 64, vi 11], vi 0] (ls_All_some b'2 Fx mx 64 11 0 L _ (hS.mem.res 0) (by first | assumption | omega | (simp_all; done) | (simp_all; omega)) (by first | assumption | omega | (simp_all; done) | (simp_all; omega)) (by exact i1.ch) (by exact i1.ps) (by first | assumption | omega | (simp_all; done) | (simp_all; omega)) (by exact List.length_pos_iff.2 (i3 (by omega)))) ?_
   rintro _ wd ⟨g27, c28, rfl, hog0, hoh0, hF⟩
   have ho9 : w.heap.size ≤ g27 := Nat.le_trans hS.mem.fr.size hog0
   refine ⟨sc g27 0 L.length c28, rfl, ?_⟩
   replace hS := (hS.to (hS.mem.outs hF [(g27, .fn 0 (0 + L.length) (ints L 0))] ⟨⟨rfl, hoh0, .inr hog0⟩, trivial⟩)).put (d := 42) (v := sc g27 0 L.length c28) (by decide)
   clear hF
   refine hS.opsC 1 [0] [0, 4, 5, 6] fun _ => seg [(9, sc g27 0 L.length c28)] [(0, none), (1, none), (2, none), (3, none)] [] trivial fun ac wd hS => ?_
   refine list_nil_seq ?_
   refine wp_seq ?_
   refine wp_region_seq ?_
   refine hS.opsC 9 [0, 0, 0, 1, 1, 1, 1, 60, 0] [0, 4, 9] fun _ => seg [(51, vb ((((L.length : Nat) : Int) : Int) != x6))] [(0, none), (1, none), (2, none), (3, none)] [.t false, .t false, .t false, .t false, .t false] trivial fun ac wd hS => ?_
   have hg10o : ((((L.length : Nat) : Int) : Int) != x6) = false := by rw [i2]; exact bne_self_eq_false _
   replace hS := hS.fix 51 (vb false) (congrArg Value.bool hg10o)
   refine hS.opsC 1 [1] [0, 4, 51] fun _ => seg [(52, sc g27 0 L.length c28)] [(0, none), (1, none), (2, none), (3, none)] [.t false] trivial fun ac wd hS => ?_
   refine hS.callG false 21 #[sc g27 0 L.length c28] (slices_IsSorted g27 0 c28 L _ (hS.mem.get 3 g27 (.fn 0 (0 + L.length) (ints L 0))) (by exact i1.rise) (by first | assumption | omega | (simp_all; done) | (simp_all; omega))) ?_
   rintro _ wd ⟨rfl, hF⟩
   refine ⟨vb true, rfl, ?_⟩
   replace hS := (hS.to (hS.mem.keep0 hF)).put (d := 53) (v := vb true) (by decide)
   clear hF
   refine hS.opsC 2 [1, 60] [0, 4] fun _ => seg [(55, vb false)] [(0, none), (1, none), (2, none)] [.t false, .t false] trivial fun ac wd hS => ?_
   refine list_nil_seq ?_
   refine hS.condF ?_
   refine wp_skip ?_
   refine pop_then ?_
   refine wp_seq ?_
   refine hS.regS [0, 0, 0] [0, 4] fun _ => seg [(57, vi ((n : Nat) : Int)), (58, vi 0)] [(0, none), (1, none), (2, none)] [] trivial fun ac wd hS => ?_
   refine wp_block ?_
   refine St.loopC (σ := Int × (Nat → Prop) × AM × List Int) (fun (x : Int × (Nat → Prop) × AM × List Int) => match x with | (x58, Fx, mx, L2) => ⟨[(0, [], sc g o n c), (4, [], pt (ν5 0) 0), (57, [], vi ((n : Nat) : Int)), (58, [], vi x58)], [(1, .fn 0 64 dbT), (g, .fn o (o + n) (u16s ws o)), ((ν5 0), .cells [pt b'2 0, vi 64, vi 11] 27)], [arR b'2 Fx mx], (0 ≤ x58 ∧ x58 ≤ (n : Int)) ∧ (LO mx ws L2 ((n : Int) - x58)) ∧ True, n - Int.toNat x58⟩) (0, Fx, mx, L) ⟨(by omega), (by rw [show (n : Int) - 0 = x26 by omega]; exact i1), trivial⟩ hS ?_
   clear hS
   rintro ⟨x58, Fx, mx, L2⟩ ⟨i0, i1, -⟩ ac wd hS
   replace i0 : 0 ≤ x58 ∧ x58 ≤ (n : Int) := i0
   replace i1 : LO mx ws L2 ((n : Int) - x58) := i1
   refine hS.regS [0] [0, 4, 57, 58] fun _ => seg [(59, vb (decide ((x58 : Int) < ((n : Nat) : Int))))] [(0, none), (1, none), (2, none)] [] trivial fun ac wd hS => ?_
   refine wp_seq ?_
   refine hS.condC (decide ((x58 : Int) < ((n : Nat) : Int))) (fun hb11o hb11 => ?_) (fun hb11o hb11 => ?_)
   ·
    have hw2 := hws (Int.toNat ((((n : Nat) : Int) - 1) - x58)) (by omega)
    refine wp_skip ?_
    refine pop_then ?_
    refine wp_seq ?_
    refine wp_block ?_
    refine hS.regS [0, 0] [0, 4, 57, 58] fun _ => seg [(10, vi x58)] [(0, none), (1, none), (2, none)] [] trivial fun ac wd hS => ?_
    refine hS.regS [0, 0, 0, 20, 0, 20, 20, fx 100 (.int .u16 ((ws (Int.toNat ((((n : Nat) : Int) - 1) - x58)) : Nat) : Int)), 20, 20, 20, 20, 0] [0, 4, 57, 58] fun _ => seg [(11, vi (4096 + (16 * (((ws (Int.toNat ((((n : Nat) : Int) - 1) - x58))) % 256 : Nat) : Int))))] [(0, none), (1, none), (2, none)] [.p (fit .i64 (4096 + (16 * (((ws (Int.toNat ((((n : Nat) : Int) - 1) - x58))) % 256 : Nat) : Int)))), .p (fit .i64 (16 * (((ws (Int.toNat ((((n : Nat) : Int) - 1) - x58))) % 256 : Nat) : Int))), .p (fit .i64 (((ws (Int.toNat ((((n : Nat) : Int) - 1) - x58))) % 256 : Nat) : Int)), .p ((256 : Int) ≠ 0 ∧ Int.tmod ((ws (Int.toNat ((((n : Nat) : Int) - 1) - x58)) : Nat) : Int) 256 = (((ws (Int.toNat ((((n : Nat) : Int) - 1) - x58))) % 256 : Nat) : Int)), .p ((((u16s ws o) (o + Int.toNat ((((n : Nat) : Int) - 1) - x58) * 1)) : Value) = .int .u16 ((ws (Int.toNat ((((n : Nat) : Int) - 1) - x58)) : Nat) : Int)), .e g, .p (o ≤ o + Int.toNat ((((n : Nat) : Int) - 1) - x58) * 1 ∧ o + Int.toNat ((((n : Nat) : Int) - 1) - x58) * 1 < (o + n)), .p ((0 : Int) ≤ ((((n : Nat) : Int) - 1) - x58) ∧ (((((n : Nat) : Int) - 1) - x58) : Int) < ((n : Nat) : Int)), .p (fit .i64 ((((n : Nat) : Int) - 1) - x58)), .p (fit .i64 (((n : Nat) : Int) - 1))] ⟨fit_i64 (by omega), fit_i64 (by omega), fit_i64 (by omega), rem2_n (d := 256) (by trivial) (by omega), (u16s_rel ws o (Int.toNat ((((n : Nat) : Int) - 1) - x58))), (by omega), (by omega), fit_i64 (by omega), fit_i64 (by omega), trivial⟩ fun ac wd hS => ?_
    refine St.ordBeginS [(0, 1), (1, 1), (3, 1), (4, 1), (2, 0), (5, 0), (6, 1), (7, 1)] [(1, .fn 0 64 dbT), (g, .fn o (o + n) (u16s ws o)), ((ν5 0), .cells [pt b'2 0, vi 64, vi 11] 27)] [0, 1, 2] hS fun wd hS => ?_
    have hap := hS.mem.pairs (Hf := [(1, .fn 0 64 dbT), (g, .fn o (o + n) (u16s ws o)), ((ν5 0), .cells [pt b'2 0, vi 64, vi 11] 27)]) (l := [0, 1, 2])
    refine St.ordF [200, 0, 200, 0] [0, 1, 3, 4] [0, 4, 57, 58] (rest := [(2, 0), (5, 0), (6, 1), (7, 1)]) hS hap <| segF [(73, .agg #[pt b'2 0, vi 64, vi 11]), (74, vi (4096 + (16 * (((ws (Int.toNat ((((n : Nat) : Int) - 1) - x58))) % 256 : Nat) : Int)))), (76, .agg #[pt b'2 0, vi 64, vi 11]), (77, vi (4096 + (16 * (((ws (Int.toNat ((((n : Nat) : Int) - 1) - x58))) % 256 : Nat) : Int))))] [.e (ν5 0), .e (ν5 0), .e (ν5 0), .e (ν5 0), .e (ν5 0), .e (ν5 0)] trivial fun ac hS => ?_
    refine hS.ordC 2 17 #[.agg #[pt b'2 0, vi 64, vi 11], vi 0, vi (4096 + (16 * (((ws (Int.toNat ((((n : Nat) : Int) - 1) - x58))) % 256 : Nat) : Int)))] (ls_Has b'2 Fx mx 64 11 0 (4096 + (16 * (((ws (Int.toNat ((((n : Nat) : Int) - 1) - x58))) % 256 : Nat) : Int))) L2 _ (hS.mem.res 0) (by first | assumption | omega | (simp_all; done) | (simp_all; omega)) (by first | assumption | omega | (simp_all; done) | (simp_all; omega)) (by exact i1.ch) (by exact i1.ps)) ?_
    rintro _ wd ⟨rfl, hF⟩
    refine ⟨vb (hasL L2 (4096 + (16 * (((ws (Int.toNat ((((n : Nat) : Int) - 1) - x58))) % 256 : Nat) : Int)))), rfl, ?_⟩
    replace hS := (hS.to (hS.mem.keep0 hF)).put (d := 75) (v := vb (hasL L2 (4096 + (16 * (((ws (Int.toNat ((((n : Nat) : Int) - 1) - x58))) % 256 : Nat) : Int))))) (by decide)
    clear hF
    refine hS.ordV (l := [0, 1, 2]) ?_
    refine hS.ordC 5 18 #[.agg #[pt b'2 0, vi 64, vi 11], vi 0, vi (4096 + (16 * (((ws (Int.toNat ((((n : Nat) : Int) - 1) - x58))) % 256 : Nat) : Int)))] (ls_Remove b'2 Fx mx 64 11 0 (4096 + (16 * (((ws (Int.toNat ((((n : Nat) : Int) - 1) - x58))) % 256 : Nat) : Int))) L2 _ (hS.mem.res 0) (by first | assumption | omega | (simp_all; done) | (simp_all; omega)) (by first | assumption | omega | (simp_all; done) | (simp_all; omega)) (by exact i1.ch) (by exact i1.ps)) ?_
    rintro _ wd ⟨F12, rfl, hA, hF⟩
    refine ⟨vi (lsrE L2 (4096 + (16 * (((ws (Int.toNat ((((n : Nat) : Int) - 1) - x58))) % 256 : Nat) : Int)))), rfl, ?_⟩
    replace hS := (hS.to (hS.mem.stepA 0 rfl hA hF)).put (d := 78) (v := vi (lsrE L2 (4096 + (16 * (((ws (Int.toNat ((((n : Nat) : Int) - 1) - x58))) % 256 : Nat) : Int))))) (by decide)
    clear hF
    refine hS.ordV (l := [0, 1, 2]) ?_
    refine St.ordF [0, 0] [6, 7] [0, 4, 57, 58] (rest := []) hS hap <| segF [(80, vb (!((hasL L2 (4096 + (16 * (((ws (Int.toNat ((((n : Nat) : Int) - 1) - x58))) % 256 : Nat) : Int)))) == (((lsrE L2 (4096 + (16 * (((ws (Int.toNat ((((n : Nat) : Int) - 1) - x58))) % 256 : Nat) : Int)))) : Int) == 0))))] [] trivial fun ac hS => ?_
    refine ord_nil ?_
    refine hS.condK (!((hasL L2 (4096 + (16 * (((ws (Int.toNat ((((n : Nat) : Int) - 1) - x58))) % 256 : Nat) : Int)))) == (((lsrE L2 (4096 + (16 * (((ws (Int.toNat ((((n : Nat) : Int) - 1) - x58))) % 256 : Nat) : Int)))) : Int) == 0))) false (by (rw [lsr_has]; simp)) ?_
    show Code.wp _ _ _ _ _
    refine wp_skip ?_
    refine pop_block ?_
    refine pop_then ?_
    refine hS.regC [20, 0] [0, 4, 57] fun _ => seg [(58, vi (x58 + 1))] [(0, none), (1, none), (2, none)] [.p (fit .i64 (x58 + 1))] ⟨fit_i64 (by omega), trivial⟩ fun ac wd hS => ?_
    exact pop_then (hS.next ((x58 + 1), F12, (lsrM mx 64 11 0 L2 (4096 + (16 * (((ws (Int.toNat ((((n : Nat) : Int) - 1) - x58))) % 256 : Nat) : Int)))), (delL L2 (4096 + (16 * ((((ws (Int.toNat ((((n : Nat) : Int) - 1) - x58)))) % 256 : Nat) : Int))))) ⟨(by omega), (by (rw [show (n : Int) - (x58 + 1) = ((((n : Nat) : Int) - 1) - x58) by omega]; exact lo_del (x := ((((n : Nat) : Int) - 1) - x58)) (by rw [show ((((n : Nat) : Int) - 1) - x58) + 1 = (n : Int) - x58 by omega]; exact i1) (by omega))), trivial⟩ (by dsimp only; omega))
   ·
    refine wp_exit ?_
    refine pop_then_exit ?_
    refine pop_then_exit ?_
    refine pop_block_hit ?_
    refine pop_then ?_
    refine wp_region_seq ?_
    refine hS.opsC 1 [200] [] fun _ => seg [(83, .agg #[pt b'2 0, vi 64, vi 11])] [(0, none)] [.e (ν5 0), .e (ν5 0), .e (ν5 0)] trivial fun ac wd hS => ?_
    refine hS.call0 22 #[.agg #[pt b'2 0, vi 64, vi 11], vi 0] 84 (ls_First b'2 Fx mx 64 11 0 L2 _ (hS.mem.res 0) (by first | assumption | omega | (simp_all; done) | (simp_all; omega)) (by first | assumption | omega | (simp_all; done) | (simp_all; omega)) (by exact i1.ch) (by exact i1.ps)) fun ac wd hS => ?_
    refine hS.opsC 5 [0, 0, 0, 0, 0] [] fun _ => seg [(13, vb ((List.getD L2 0 0 : Int) != 0))] [(0, none)] [] trivial fun ac wd hS => ?_
    refine list_nil_seq ?_
    refine hS.regS [0, 0, 0] [] fun _ => seg [(2, vb (!((List.getD L2 0 0 : Int) != 0)))] [(0, none)] [] trivial fun ac wd hS => ?_
    refine wp_ret ?_
    refine St.retC 0 hS (vb (!((List.getD L2 0 0 : Int) != 0))) [] trivial fun hw => ?_
    refine ⟨retd (vbool ?_), hw.fr0⟩
    all_goals (first | rfl | (rw [lo_none i1 (by omega)]; rfl))

set_option maxRecDepth 100000 in
set_option maxHeartbeats 1000000 in
theorem law07_ListOrder_c (ao : Option Addr) (c : Nat) (w : World) (hh0 : HE.holds w 1 (.fn 0 64 dbT)) :
    Calls Tryd.prog 4 #[.slice ao 0 c] w fun e w' => e = .returned (vb true) ∧ Fr w w' no no := by
 have hc0 : ChainL (comM (AM.new 3) 0 2) 64 11 0 [] := (lo_zero fAw).ch
 have hp0 : ∀ a, a ∈ ([] : List Int) → 0 < a ∧ a ≤ 4611686018427387904 := (lo_zero fAw).ps
 refine enter (args := [.slice ao 0 c]) (D := no) (A := []) Tryd.func4 rfl 89 rfl [(1, .fn 0 64 dbT)] (WS.startL ⟨⟨rfl, hh0⟩, trivial⟩) fun ac hS => ?_
 refine hS.regS [0] [0] fun _ => seg [] [(0, none)] [] trivial fun ac wd hS => ?_
 refine wp_seq ?_
 refine wp_region_seq ?_
 refine hS.call0 14 #[] 14 (law07_awake  _ (hS.mem.get 0 1 (.fn 0 64 dbT)) ) fun ac wd hS => ?_
 refine hS.opsC 1 [0] [0] fun _ => seg [(15, vb false)] [(0, none)] [] trivial fun ac wd hS => ?_
 refine list_nil_seq ?_
 refine hS.condF ?_
 refine wp_skip ?_
 refine pop_then ?_
 refine wp_seq ?_
 refine hS.regS [0, 0, 0] [0] fun _ => seg [(18, vb false)] [(0, none)] [] trivial fun ac wd hS => ?_
 refine hS.condF ?_
 refine wp_skip ?_
 refine pop_then ?_
 refine wp_region_seq ?_
 refine hS.callC 15 #[vi 1] (law07_open1  _  ) ?_
 rintro _ wd ⟨b'1, F2, rfl, hN, hF⟩
 refine ⟨.tuple #[pt b'1 0, .agg #[pt b'1 0, vi 64, vi 11], vb true], rfl, ?_⟩
 replace hS := (hS.to (hS.mem.newA hN hF)).put (d := 20) (v := .tuple #[pt b'1 0, .agg #[pt b'1 0, vi 64, vi 11], vb true]) (by decide)
 clear hF
 refine hS.opsC 8 [0, 0, 0, 0, 0, 0, 100, 0] [0] fun ν4 => seg [(4, pt (ν4 0) 0), (5, vb true)] [(0, none), (1, some ((ν4 0), .cells [pt b'1 0, vi 64, vi 11] 27))] [.e (ν4 0), .e (ν4 0), .e (ν4 0)] trivial fun ac wd hS => ?_
 refine list_nil_seq ?_
 refine hS.regS [0] [0, 4, 5] fun _ => seg [(6, vi 0)] [(0, none), (1, none)] [] trivial fun ac wd hS => ?_
 refine wp_seq ?_
 refine hS.regS [0, 0, 0] [0, 4, 5, 6] fun _ => seg [(24, .slice ao 0 c), (25, vi 0), (26, vi 0)] [(0, none), (1, none)] [] trivial fun ac wd hS => ?_
 refine wp_block ?_
 refine wp_loop_rounds 1 ?_
 refine rounds_in ?_
 refine hS.regS [0] [0, 4, 5, 6, 24, 25, 26] fun _ => seg [(27, vb false)] [(0, none), (1, none)] [] trivial fun ac wd hS => ?_
 refine wp_seq ?_
 refine hS.condF ?_
 refine wp_exit ?_
 refine pop_then_exit ?_
 refine pop_then_exit ?_
 refine pop_block_hit ?_
 refine pop_then ?_
 refine wp_region_seq ?_
 refine hS.opsC 1 [100] [0, 4, 5, 6] fun _ => seg [(41, .agg #[pt b'1 0, vi 64, vi 11])] [(0, none), (1, none)] [.e (ν4 0), .e (ν4 0), .e (ν4 0)] trivial fun ac wd hS => ?_
 refine hS.call0 20 #[.agg #[pt b'1 0, vi 64, vi 11], vi 0] 42 (ls_All_none b'1 F2 (comM (AM.new 3) 0 2) 64 11 0 ([]) _ (hS.mem.res 0) (by first | assumption | omega | (simp_all; done) | (simp_all; omega)) (by first | assumption | omega | (simp_all; done) | (simp_all; omega)) (by with_reducible assumption) (by with_reducible assumption) (by first | assumption | omega | (simp_all; done) | (simp_all; omega)) (by first | assumption | omega | (simp_all; done) | (simp_all; omega))) fun ac wd hS => ?_
 refine hS.opsC 1 [0] [0, 4, 5, 6] fun _ => seg [(9, vnil)] [(0, none), (1, none)] [] trivial fun ac wd hS => ?_
 refine list_nil_seq ?_
 refine wp_seq ?_
 refine wp_region_seq ?_
 refine hS.opsC 9 [0, 0, 0, 1, 1, 1, 1, 60, 0] [0, 4, 9] fun _ => seg [(51, vb false)] [(0, none), (1, none)] [.t false, .t false, .t false, .t false, .t false] trivial fun ac wd hS => ?_
 refine hS.opsC 1 [1] [0, 4, 51] fun _ => seg [(52, vnil)] [(0, none), (1, none)] [.t false] trivial fun ac wd hS => ?_
 refine hS.callG false 21 #[vnil] (slices_IsSorted_nil  _  ) ?_
 rintro _ wd ⟨rfl, hF⟩
 refine ⟨vb true, rfl, ?_⟩
 replace hS := (hS.to (hS.mem.keep0 hF)).put (d := 53) (v := vb true) (by decide)
 clear hF
 refine hS.opsC 2 [1, 60] [0, 4] fun _ => seg [(55, vb false)] [(0, none), (1, none)] [.t false, .t false] trivial fun ac wd hS => ?_
 refine list_nil_seq ?_
 refine hS.condF ?_
 refine wp_skip ?_
 refine pop_then ?_
 refine wp_seq ?_
 refine hS.regS [0, 0, 0] [0, 4] fun _ => seg [(57, vi 0), (58, vi 0)] [(0, none), (1, none)] [] trivial fun ac wd hS => ?_
 refine wp_block ?_
 refine wp_loop_rounds 1 ?_
 refine rounds_in ?_
 refine hS.regS [0] [0, 4, 57, 58] fun _ => seg [(59, vb false)] [(0, none), (1, none)] [] trivial fun ac wd hS => ?_
 refine wp_seq ?_
 refine hS.condF ?_
 refine wp_exit ?_
 refine pop_then_exit ?_
 refine pop_then_exit ?_
 refine pop_block_hit ?_
 refine pop_then ?_
 refine wp_region_seq ?_
 refine hS.opsC 1 [100] [] fun _ => seg [(83, .agg #[pt b'1 0, vi 64, vi 11])] [(0, none)] [.e (ν4 0), .e (ν4 0), .e (ν4 0)] trivial fun ac wd hS => ?_
 refine hS.call0 22 #[.agg #[pt b'1 0, vi 64, vi 11], vi 0] 84 (ls_First b'1 F2 (comM (AM.new 3) 0 2) 64 11 0 ([]) _ (hS.mem.res 0) (by first | assumption | omega | (simp_all; done) | (simp_all; omega)) (by first | assumption | omega | (simp_all; done) | (simp_all; omega)) (by with_reducible assumption) (by with_reducible assumption)) fun ac wd hS => ?_
 refine hS.opsC 5 [0, 0, 0, 0, 0] [] fun _ => seg [(13, vb ((List.getD ([]) 0 0 : Int) != 0))] [(0, none)] [] trivial fun ac wd hS => ?_
 refine list_nil_seq ?_
 refine hS.regS [0, 0, 0] [] fun _ => seg [(2, vb (!((List.getD ([]) 0 0 : Int) != 0)))] [(0, none)] [] trivial fun ac wd hS => ?_
 refine wp_ret ?_
 refine St.retC 0 hS (vb (!((List.getD ([]) 0 0 : Int) != 0))) [] trivial fun hw => ?_
 refine ⟨retd (vbool ?_), hw.fr0⟩
 all_goals (rfl)

end Go.Proofs.YtindbpffbjhfaaaDoor.K
