/-
  Walks, printed by w2.py.
-/
import Derived.Test.YtojjkjedcafpeaaGreatDoorFi
import Derived.Test.YtojjkjedcafpeaaGreatDoorZe
import Derived.Test.YtojjkjedcafpeaaGreatDoorLj
import Derived.Test.YtojjkjedcafpeaaGreatDoorProg
namespace Go.Proofs.YtojjkjedcafpeaaGreatDoor.K
set_option linter.unusedVariables false
set_option linter.unusedSimpArgs false

theorem eq_runs2 (ao1 : Option Addr) (c1 : Nat) (g1 : Nat) (o1 : Nat) (l : List (Int × Int × Bool)) (ao2 : Option Addr) (c2 : Nat) (g2 : Nat) (o2 : Nat) (lz : List (Int × Int × Bool)) (w : World) (hh0 : HE.holds w g1 (.fn o1 (o1 + l.length * 3) (rnV (gtD l) o1))) (hh1 : HE.holds w g2 (.fn o2 (o2 + lz.length * 3) (rnV (gtD lz) o2))) (hv1 : (l.length = 0 ∨ ao1 = some ⟨g1, o1, none⟩)) (hv2 : (lz.length = 0 ∨ ao2 = some ⟨g2, o2, none⟩)) (hl : l.length ≤ 4294967295) (he : lz = l) :
    Calls Tryz.prog 20 #[.slice ao1 l.length c1, .slice ao2 lz.length c2] w fun e w' => e = .returned (vb true) ∧ Fr w w' no no := by
 subst he
 exact eq_runs ao1 c1 g1 o1 lz ao2 c2 g2 o2 w hh0 hh1 hv1 hv2 hl

set_option maxRecDepth 100000 in
set_option maxHeartbeats 1000000 in
theorem law08_BuddyBack (cap : Int) (ao7 : Option Addr) (c7 : Nat) (g7 : Nat) (o7 : Nat) (l : List (Int × Int × Int)) (w : World) (hh0 : HE.holds w 1 (.fn 0 64 dbT)) (hh1 : HE.holds w g7 (.fn o7 (o7 + l.length * 3) (a8V (gtD l) o7))) (hv7 : (l.length = 0 ∨ ao7 = some ⟨g7, o7, none⟩)) (hAl : ∀ i, i < l.length → rg_a8V (gtD l i)) :
    Calls Tryz.prog 4 #[vi cap, .slice ao7 l.length c7] w fun e w' => e = .returned (vb true) ∧ Fr w w' no no := by
 refine enter (args := [vi cap, .slice ao7 l.length c7]) (D := no) (A := []) Tryz.func4 rfl 114 rfl [(1, .fn 0 64 dbT), (g7, .fn o7 (o7 + l.length * 3) (a8V (gtD l) o7))] (WS.startL ⟨⟨rfl, hh0⟩, ⟨rfl, hh1⟩, trivial⟩) fun ac hS => ?_
 refine hS.regS [0] [0, 1] fun _ => seg [] [(0, none), (1, none)] [] trivial fun ac wd hS => ?_
 refine wp_seq ?_
 refine wp_region_seq ?_
 refine hS.call0 12 #[] 14 (law08_awake  _ (hS.mem.get 0 1 (.fn 0 64 dbT)) ) fun ac wd hS => ?_
 refine hS.opsC 1 [0] [0, 1] fun _ => seg [(15, vb false)] [(0, none), (1, none)] [] trivial fun ac wd hS => ?_
 refine list_nil_seq ?_
 refine hS.condF ?_
 refine wp_skip ?_
 refine pop_then ?_
 refine wp_seq ?_
 refine hS.regS [0, 0, 0] [0, 1] fun _ => seg [(18, vb (decide ((60 : Int) < ((l.length : Nat) : Int))))] [(0, none), (1, none)] [] trivial fun ac wd hS => ?_
 refine hS.condC (decide ((60 : Int) < ((l.length : Nat) : Int))) (fun hb1o hb1 => ?_) (fun hb1o hb1 => ?_)
 ·
  refine hS.regS [0] [] fun _ => seg [(4, vb true)] [(0, none)] [] trivial fun ac wd hS => ?_
  refine wp_ret ?_
  refine pop_then_ret ?_
  refine St.retC 0 hS (vb true) [] trivial fun hw => ?_
  refine ⟨retd rfl, hw.fr0⟩
 ·
  refine wp_skip ?_
  refine pop_then ?_
  by_cases hz9 : (imax 0 (imin cap 80)) ≤ 1
  ·
   have hcm : (AM.new (imax 0 (imin cap 80))).cap ≤ 1 := new_cap1 hz9
   refine hS.regS [0, 0, 0, 0] [1] fun _ => seg [(5, vi (imax 0 (imin cap 80)))] [(0, none), (1, none)] [] trivial fun ac wd hS => ?_
   refine wp_region_seq ?_
   refine hS.opsC 1 [0] [1, 5] fun _ => seg [(23, vi (imax 0 (imin cap 80)))] [(0, none), (1, none)] [] trivial fun ac wd hS => ?_
   refine hS.callC 14 #[vi (imax 0 (imin cap 80))] (ar_New (imax 0 (imin cap 80)) _  ) ?_
   rintro _ wd ⟨b'2, F3, rfl, hN, hF⟩
   refine ⟨pt b'2 0, rfl, ?_⟩
   replace hS := (hS.to (hS.mem.newA hN hF)).put (d := 24) (v := pt b'2 0) (by decide)
   clear hF
   refine hS.call0 13 #[pt b'2 0] 25 (bu_New_small b'2 F3 (AM.new (imax 0 (imin cap 80))) _ (hS.mem.res 0) (by exact hcm)) fun ac wd hS => ?_
   refine hS.opsC 5 [0, 0, 0, 0, 0] [1, 5] fun _ => seg [(6, pnil), (7, vi 3)] [(0, none), (1, none)] [] trivial fun ac wd hS => ?_
   refine list_nil_seq ?_
   refine wp_region_seq ?_
   refine hS.opsC 1 [0] [1, 5, 6, 7] fun _ => seg [(29, vi (imax 0 (imin cap 80)))] [(0, none), (1, none)] [] trivial fun ac wd hS => ?_
   refine hS.callC 14 #[vi (imax 0 (imin cap 80))] (ar_New (imax 0 (imin cap 80)) _  ) ?_
   rintro _ wd ⟨b'4, F5, rfl, hN, hF⟩
   refine ⟨pt b'4 0, rfl, ?_⟩
   replace hS := (hS.to (hS.mem.newA hN hF)).put (d := 30) (v := pt b'4 0) (by decide)
   clear hF
   refine hS.call0 13 #[pt b'4 0] 31 (bu_New_small b'4 F5 (AM.new (imax 0 (imin cap 80))) _ (hS.mem.res 1) (by exact hcm)) fun ac wd hS => ?_
   refine hS.opsC 5 [0, 0, 0, 0, 0] [1, 5, 6, 7] fun _ => seg [(8, pnil), (9, vi 3)] [(0, none), (1, none)] [] trivial fun ac wd hS => ?_
   refine list_nil_seq ?_
   refine wp_seq ?_
   refine hS.regS [0, 0, 0, 2, 2, 70] [1, 5, 6, 7, 8, 9] fun _ => seg [(39, vb true)] [(0, none), (1, none)] [.t true, .t true, .t true] trivial fun ac wd hS => ?_
   refine hS.condT ?_
   refine hS.regS [0, 0, 0, 0, 1, 1, 70, 0] [] fun _ => seg [(4, vb (decide (((imax 0 (imin cap 80)) : Int) < 2)))] [(0, none)] [.t true, .t true, .t true] trivial fun ac wd hS => ?_
   refine wp_ret ?_
   refine pop_then_ret ?_
   refine St.retC 0 hS (vb (decide (((imax 0 (imin cap 80)) : Int) < 2))) [] trivial fun hw => ?_
   refine ⟨retd (vbool ?_), hw.fr0⟩
   all_goals (first | rfl | (have h9 := sh_0 (by assumption) hNT; rw [Bdy.cntC (by assumption), h9]; rfl) | exact decide_eq_true (by omega) | (simp; done))
  ·
   obtain ⟨N, hN9, hN8⟩ := cap_N hz9
   have hF9 : FreshA (AM.new (imax 0 (imin cap 80))) N (-1) := fresh_new hN9 (by omega)
   obtain ⟨hB9, hfl9⟩ := hF9.bdy hN8 (by decide)
   refine hS.regS [0, 0, 0, 0] [1] fun _ => seg [(5, vi (imax 0 (imin cap 80)))] [(0, none), (1, none)] [] trivial fun ac wd hS => ?_
   refine wp_region_seq ?_
   refine hS.opsC 1 [0] [1, 5] fun _ => seg [(23, vi (imax 0 (imin cap 80)))] [(0, none), (1, none)] [] trivial fun ac wd hS => ?_
   refine hS.callC 14 #[vi (imax 0 (imin cap 80))] (ar_New (imax 0 (imin cap 80)) _  ) ?_
   rintro _ wd ⟨b'6, F7, rfl, hN, hF⟩
   refine ⟨pt b'6 0, rfl, ?_⟩
   replace hS := (hS.to (hS.mem.newA hN hF)).put (d := 24) (v := pt b'6 0) (by decide)
   clear hF
   refine hS.callC 13 #[pt b'6 0] (bu_New_ok b'6 F7 (AM.new (imax 0 (imin cap 80))) N (-1) _ (hS.mem.res 0) (by exact hF9) (by exact hN8) (by decide)) ?_
   rintro _ wd ⟨bb8, F9, rfl, hA, hog0, hoh0, hnf0, hF⟩
   have ho10 : w.heap.size ≤ bb8 := Nat.le_trans hS.mem.fr.size hog0
   refine ⟨.tuple #[pt bb8 0, vi 0], rfl, ?_⟩
   replace hS := (hS.to (hS.mem.outAT 0 rfl hA hF (g := bb8) (z := .fn 0 12 (roF [pt b'6 0, vi 1, vi ((N : Nat) : Int), pt b'6 0, vi 0, vi 256, pt b'6 0, vi 0, vi 88, pt b'6 0, vi 257, vi ((N : Nat) : Int)])) rfl hoh0 (.inr hog0) hnf0)).put (d := 25) (v := .tuple #[pt bb8 0, vi 0]) (by decide)
   clear hF
   refine hS.opsC 5 [0, 0, 0, 0, 0] [1, 5] fun _ => seg [(6, pt bb8 0), (7, vi 0)] [(0, none), (1, none), (2, none)] [] trivial fun ac wd hS => ?_
   refine list_nil_seq ?_
   refine wp_region_seq ?_
   refine hS.opsC 1 [0] [1, 5, 6, 7] fun _ => seg [(29, vi (imax 0 (imin cap 80)))] [(0, none), (1, none), (2, none)] [] trivial fun ac wd hS => ?_
   refine hS.callC 14 #[vi (imax 0 (imin cap 80))] (ar_New (imax 0 (imin cap 80)) _  ) ?_
   rintro _ wd ⟨b'11, F12, rfl, hN, hF⟩
   refine ⟨pt b'11 0, rfl, ?_⟩
   replace hS := (hS.to (hS.mem.newA hN hF)).put (d := 30) (v := pt b'11 0) (by decide)
   clear hF
   refine hS.callC 13 #[pt b'11 0] (bu_New_ok b'11 F12 (AM.new (imax 0 (imin cap 80))) N (-1) _ (hS.mem.res 1) (by exact hF9) (by exact hN8) (by decide)) ?_
   rintro _ wd ⟨bb13, F14, rfl, hA, hog0, hoh0, hnf0, hF⟩
   have ho15 : w.heap.size ≤ bb13 := Nat.le_trans hS.mem.fr.size hog0
   refine ⟨.tuple #[pt bb13 0, vi 0], rfl, ?_⟩
   replace hS := (hS.to (hS.mem.outAT 1 rfl hA hF (g := bb13) (z := .fn 0 12 (roF [pt b'11 0, vi 1, vi ((N : Nat) : Int), pt b'11 0, vi 0, vi 256, pt b'11 0, vi 0, vi 88, pt b'11 0, vi 257, vi ((N : Nat) : Int)])) rfl hoh0 (.inr hog0) hnf0)).put (d := 31) (v := .tuple #[pt bb13 0, vi 0]) (by decide)
   clear hF
   refine hS.opsC 5 [0, 0, 0, 0, 0] [1, 5, 6, 7] fun _ => seg [(8, pt bb13 0), (9, vi 0)] [(0, none), (1, none), (2, none), (3, none)] [] trivial fun ac wd hS => ?_
   refine list_nil_seq ?_
   refine wp_seq ?_
   refine hS.regS [0, 0, 0, 1, 1, 60] [1, 5, 6, 7, 8, 9] fun _ => seg [(39, vb false)] [(0, none), (1, none), (2, none), (3, none)] [.t false, .t false, .t false] trivial fun ac wd hS => ?_
   refine hS.condF ?_
   refine wp_skip ?_
   refine pop_then ?_
   refine wp_seq ?_
   refine hS.regS [0, 0, 0] [6, 8] fun _ => seg [(47, .slice ao7 l.length c7), (48, vi ((l.length : Nat) : Int)), (49, vi 0)] [(0, none), (1, none), (2, none), (3, none)] [] trivial fun ac wd hS => ?_
   refine wp_block ?_
   refine St.loopC (σ := Int × (Nat → Prop) × AM × (Nat → Prop) × AM × Nat × List Tg × (Nat → List Int) × List Tg × (Nat → List Int)) (fun (x : Int × (Nat → Prop) × AM × (Nat → Prop) × AM × Nat × List Tg × (Nat → List Int) × List Tg × (Nat → List Int)) => match x with | (x49, Fx, mx, Fy, my, gx, qx, Qx, qy, Qy) => ⟨[(6, [], pt bb8 0), (8, [], pt bb13 0), (47, [], .slice ao7 l.length c7), (48, [], vi ((l.length : Nat) : Int)), (49, [], vi x49)], [(1, .fn 0 64 dbT), (g7, .fn o7 (o7 + l.length * 3) (a8V (gtD l) o7)), (bb8, .fn 0 12 (roF [pt b'6 0, vi 1, vi ((N : Nat) : Int), pt b'6 0, vi 0, vi 256, pt b'6 0, vi 0, vi 88, pt b'6 0, vi 257, vi ((N : Nat) : Int)])), (bb13, .fn 0 12 (roF [pt b'11 0, vi 1, vi ((N : Nat) : Int), pt b'11 0, vi 0, vi 256, pt b'11 0, vi 0, vi 88, pt b'11 0, vi 257, vi ((N : Nat) : Int)]))], [arR b'6 Fx mx, arR b'11 Fy my], (0 ≤ x49 ∧ x49 ≤ (l.length : Int)) ∧ (Bdy mx N gx (-1) qx Qx) ∧ (FullG gx qx) ∧ (Bdy my N gx (-1) qy Qy) ∧ (FullG gx qy) ∧ (NoT qy) ∧ True, l.length - Int.toNat x49⟩) (0, F9, (vstM (comM (AM.new (imax 0 (imin cap 80))) 0 1) 0 256 104 8 6432341300767115597), F14, (vstM (comM (AM.new (imax 0 (imin cap 80))) 0 1) 0 256 104 8 6432341300767115597), 0, (List.replicate N (0, 0)), (fun _ => []), (List.replicate N (0, 0)), (fun _ => [])) ⟨(by omega), (by exact hB9), (by exact hfl9), (by exact hB9), (by exact hfl9), (by exact NoT.zero N), trivial⟩ hS ?_
   clear hS
   rintro ⟨x49, Fx, mx, Fy, my, gx, qx, Qx, qy, Qy⟩ ⟨i0, i1, i2, i3, i4, i5, -⟩ ac wd hS
   replace i0 : 0 ≤ x49 ∧ x49 ≤ (l.length : Int) := i0
   replace i1 : Bdy mx N gx (-1) qx Qx := i1
   replace i2 : FullG gx qx := i2
   replace i3 : Bdy my N gx (-1) qy Qy := i3
   replace i4 : FullG gx qy := i4
   replace i5 : NoT qy := i5
   refine hS.regS [0] [6, 8, 47, 48, 49] fun _ => seg [(50, vb (decide ((x49 : Int) < ((l.length : Nat) : Int))))] [(0, none), (1, none), (2, none), (3, none)] [] trivial fun ac wd hS => ?_
   refine wp_seq ?_
   refine hS.condC (decide ((x49 : Int) < ((l.length : Nat) : Int))) (fun hb16o hb16 => ?_) (fun hb16o hb16 => ?_)
   ·
    refine wp_skip ?_
    refine pop_then ?_
    refine wp_seq ?_
    refine wp_block ?_
    obtain rfl : ao7 = some ⟨g7, o7, none⟩ := Or.resolve_left hv7 (by omega)
    refine hS.regS [20, fx 100 (.agg #[v8 (((gtD l) (Int.toNat x49)).1), vi (((gtD l) (Int.toNat x49)).2.1), vi (((gtD l) (Int.toNat x49)).2.2)]), 0, 400] [6, 8, 47, 48, 49] fun ν20 => seg [(11, pt (ν20 0) 0)] [(0, none), (1, none), (2, none), (3, none), (4, some ((ν20 0), .cells [v8 (((gtD l) (Int.toNat x49)).1), vi (((gtD l) (Int.toNat x49)).2.1), vi (((gtD l) (Int.toNat x49)).2.2)] 31))] [.e (ν20 0), .e (ν20 0), .e (ν20 0), .p ((.agg #[((a8V (gtD l) o7) (o7 + Int.toNat x49 * 3)), ((a8V (gtD l) o7) (o7 + Int.toNat x49 * 3 + 1)), ((a8V (gtD l) o7) (o7 + Int.toNat x49 * 3 + 2))] : Value) = .agg #[v8 (((gtD l) (Int.toNat x49)).1), vi (((gtD l) (Int.toNat x49)).2.1), vi (((gtD l) (Int.toNat x49)).2.2)]), .e g7, .p (o7 ≤ o7 + Int.toNat x49 * 3 + 2 ∧ o7 + Int.toNat x49 * 3 + 2 < (o7 + l.length * 3)), .e g7, .p (o7 ≤ o7 + Int.toNat x49 * 3 + 1 ∧ o7 + Int.toNat x49 * 3 + 1 < (o7 + l.length * 3)), .e g7, .p (o7 ≤ o7 + Int.toNat x49 * 3 ∧ o7 + Int.toNat x49 * 3 < (o7 + l.length * 3)), .p ((0 : Int) ≤ x49 ∧ (x49 : Int) < ((l.length : Nat) : Int))] ⟨(agg3 (a8V_0 (gtD l) o7 (Int.toNat x49)) (a8V_1 (gtD l) o7 (Int.toNat x49)) (a8V_2 (gtD l) o7 (Int.toNat x49))), (by omega), (by omega), (by omega), (by omega), trivial⟩ fun ac wd hS => ?_
    refine wp_seq ?_
    have hac9 := (hAl _ (show Int.toNat x49 < l.length by omega)).1
    refine hS.regS [0, 400, 20, 0] [6, 8, 11, 47, 48, 49] fun _ => seg [(56, vb (decide ((5 : Int) < ((((gtD l) (Int.toNat x49)).1) % 8))))] [(0, none), (1, none), (2, none), (3, none), (4, none)] [.p ((8 : Int) ≠ 0 ∧ Int.tmod (((gtD l) (Int.toNat x49)).1) 8 = (((gtD l) (Int.toNat x49)).1) % 8), .e (ν20 0)] ⟨rem2 (by omega) (by omega), trivial⟩ fun ac wd hS => ?_
    refine hS.condC (decide ((5 : Int) < ((((gtD l) (Int.toNat x49)).1) % 8))) (fun hb17o hb17 => ?_) (fun hb17o hb17 => ?_)
    ·
     refine wp_exit ?_
     refine pop_then_exit ?_
     refine pop_block_hit ?_
     refine pop_then ?_
     refine hS.regC [20, 0] [6, 8, 47, 48] fun _ => seg [(49, vi (x49 + 1))] [(0, none), (1, none), (2, none), (3, none)] [.p (fit .i64 (x49 + 1))] ⟨fit_i64 (by omega), trivial⟩ fun ac wd hS => ?_
     exact pop_then (hS.next ((x49 + 1), Fx, mx, Fy, my, gx, qx, Qx, qy, Qy) ⟨(by first | omega | assumption | (simp; done) | (simp; omega)), (by first | assumption | exact i1), (by first | assumption | exact i2), (by first | exact i3 | (rw [hbk0]; exact i3) | exact bk_c (by assumption) hbk1), (by first | exact i4 | (rw [hbk0]; exact i4) | exact bk_f (by assumption) hbk1), (by first | exact i5 | exact NoT.same (by assumption) i5), trivial⟩ (by dsimp only; omega))
    ·
     have hd5 : ¬ (5 < (gtD l (Int.toNat x49)).1 % 8) := by have h_ := hb17; omega
     refine wp_skip ?_
     refine pop_then ?_
     refine wp_region_seq ?_
     refine hS.opsC 1 [0] [6, 8, 11, 47, 48, 49] fun _ => seg [(57, pt bb8 0)] [(0, none), (1, none), (2, none), (3, none), (4, none)] [] trivial fun ac wd hS => ?_
     refine hS.call0 24 #[pt bb8 0] 58 (bu_Grown b'6 Fx mx bb8 N gx (-1) qx Qx _ (hS.mem.res 0) (hS.mem.get 2 bb8 (.fn 0 12 (roF [pt b'6 0, vi 1, vi ((N : Nat) : Int), pt b'6 0, vi 0, vi 256, pt b'6 0, vi 0, vi 88, pt b'6 0, vi 257, vi ((N : Nat) : Int)]))) (by first | assumption | exact i1)) fun ac wd hS => ?_
     refine hS.opsC 1 [0] [6, 8, 11, 47, 48, 49] fun _ => seg [(12, vi (gx : Int))] [(0, none), (1, none), (2, none), (3, none), (4, none)] [] trivial fun ac wd hS => ?_
     refine list_nil_seq ?_
     refine St.ordBeginS [(0, 1), (1, 1), (4, 1), (2, 0), (3, 1), (5, 0)] [(1, .fn 0 64 dbT), (g7, .fn o7 (o7 + l.length * 3) (a8V (gtD l) o7)), (bb8, .fn 0 12 (roF [pt b'6 0, vi 1, vi ((N : Nat) : Int), pt b'6 0, vi 0, vi 256, pt b'6 0, vi 0, vi 88, pt b'6 0, vi 257, vi ((N : Nat) : Int)])), (bb13, .fn 0 12 (roF [pt b'11 0, vi 1, vi ((N : Nat) : Int), pt b'11 0, vi 0, vi 256, pt b'11 0, vi 0, vi 88, pt b'11 0, vi 257, vi ((N : Nat) : Int)])), ((ν20 0), .cells [v8 (((gtD l) (Int.toNat x49)).1), vi (((gtD l) (Int.toNat x49)).2.1), vi (((gtD l) (Int.toNat x49)).2.2)] 31)] [0, 1, 2, 3, 4] hS fun wd hS => ?_
     have hap := hS.mem.pairs (Hf := [(1, .fn 0 64 dbT), (g7, .fn o7 (o7 + l.length * 3) (a8V (gtD l) o7)), (bb8, .fn 0 12 (roF [pt b'6 0, vi 1, vi ((N : Nat) : Int), pt b'6 0, vi 0, vi 256, pt b'6 0, vi 0, vi 88, pt b'6 0, vi 257, vi ((N : Nat) : Int)])), (bb13, .fn 0 12 (roF [pt b'11 0, vi 1, vi ((N : Nat) : Int), pt b'11 0, vi 0, vi 256, pt b'11 0, vi 0, vi 88, pt b'11 0, vi 257, vi ((N : Nat) : Int)])), ((ν20 0), .cells [v8 (((gtD l) (Int.toNat x49)).1), vi (((gtD l) (Int.toNat x49)).2.1), vi (((gtD l) (Int.toNat x49)).2.2)] 31)]) (l := [0, 1, 2, 3, 4])
     refine St.ordF [0, 0, 400] [0, 1, 4] [6, 8, 11, 12, 47, 48, 49] (rest := [(2, 0), (3, 1), (5, 0)]) hS hap <| segF [(59, pt bb8 0), (60, pt bb8 0), (63, .agg #[v8 (((gtD l) (Int.toNat x49)).1), vi (((gtD l) (Int.toNat x49)).2.1), vi (((gtD l) (Int.toNat x49)).2.2)])] [.e (ν20 0), .e (ν20 0), .e (ν20 0)] trivial fun ac hS => ?_
     refine hS.ordC 2 16 #[pt bb8 0] (bu_Base bb8 b'6 N _ (hS.mem.get 2 bb8 (.fn 0 12 (roF [pt b'6 0, vi 1, vi ((N : Nat) : Int), pt b'6 0, vi 0, vi 256, pt b'6 0, vi 0, vi 88, pt b'6 0, vi 257, vi ((N : Nat) : Int)]))) ) ?_
     rintro _ wd ⟨rfl, hF⟩
     refine ⟨vi 1, rfl, ?_⟩
     replace hS := (hS.to (hS.mem.keep0 hF)).put (d := 61) (v := vi 1) (by decide)
     clear hF
     refine hS.ordV (l := [0, 1, 2, 3, 4]) ?_
     refine St.ordF [0] [3] [6, 8, 11, 12, 47, 48, 49, 59, 63] (rest := [(5, 0)]) hS hap <| segF [(62, .agg #[vi 1, vi 0, vi 0, vi 0, vnil])] [] trivial fun ac hS => ?_
     refine hS.ordC 5 15 #[pt bb8 0, .agg #[vi 1, vi 0, vi 0, vi 0, vnil], .agg #[v8 (((gtD l) (Int.toNat x49)).1), vi (((gtD l) (Int.toNat x49)).2.1), vi (((gtD l) (Int.toNat x49)).2.2)]] (l08_Do0 b'6 Fx mx bb8 N (((gtD l) (Int.toNat x49)).1) (((gtD l) (Int.toNat x49)).2.1) (((gtD l) (Int.toNat x49)).2.2) gx (-1) qx Qx _ (hS.mem.res 0) (hS.mem.get 0 1 (.fn 0 64 dbT)) (hS.mem.get 2 bb8 (.fn 0 12 (roF [pt b'6 0, vi 1, vi ((N : Nat) : Int), pt b'6 0, vi 0, vi 256, pt b'6 0, vi 0, vi 88, pt b'6 0, vi 257, vi ((N : Nat) : Int)]))) (hS.mem.nF (g := 1) (r := arR b'6 Fx mx) 0 0) (hS.mem.nF (g := bb8) (r := arR b'6 Fx mx) 2 0) (by exact i1) (by exact i2) (by (have hac := hAl _ (show Int.toNat x49 < l.length by omega); exact hac.1)) (by (have hac := hAl _ (show Int.toNat x49 < l.length by omega); exact hac.2.2.1.2))) ?_
     rintro _ wd ⟨g218, r219, mo20, q221, Q222, dq23, db24, F25, rfl, hB226, hF227, hS228, hK229, hA, hF⟩
     refine ⟨.tuple #[dq23, vb db24], rfl, ?_⟩
     replace hS := (hS.to (hS.mem.stepA 0 rfl hA hF)).put (d := 64) (v := .tuple #[dq23, vb db24]) (by decide)
     clear hF
     refine hS.ordV (l := [0, 1, 2, 3, 4]) ?_
     refine ord_nil ?_
     obtain ⟨er9, eg9⟩ := bk_step hd5 hS228
     subst er9
     refine wp_region_seq ?_
     refine hS.opsC 1 [0] [6, 8, 11, 12, 47, 48, 49] fun _ => seg [(65, pt bb8 0)] [(0, none), (1, none), (2, none), (3, none), (4, none)] [] trivial fun ac wd hS => ?_
     refine hS.call0 24 #[pt bb8 0] 66 (bu_Grown b'6 F25 mo20 bb8 N g218 (-1) q221 Q222 _ (hS.mem.res 0) (hS.mem.get 2 bb8 (.fn 0 12 (roF [pt b'6 0, vi 1, vi ((N : Nat) : Int), pt b'6 0, vi 0, vi 256, pt b'6 0, vi 0, vi 88, pt b'6 0, vi 257, vi ((N : Nat) : Int)]))) (by first | assumption | exact i1)) fun ac wd hS => ?_
     refine hS.opsC 3 [0, 0, 0] [6, 8, 11, 47, 48, 49] fun _ => seg [(69, vb (decide (((gx : Int) : Int) < (g218 : Int))))] [(0, none), (1, none), (2, none), (3, none), (4, none)] [] trivial fun ac wd hS => ?_
     rcases Bool.eq_false_or_eq_true (decide (((gx : Int) : Int) < (g218 : Int))) with hg30o | hg30o
     ·
      have hg30 := nrm hg30o
      have hbk1 := bk_up eg9 hg30
      replace hS := hS.fix 69 (vb true) (congrArg Value.bool hg30o)
      refine hS.opsC 3 [1, 1, 401] [6, 8, 47, 48, 49, 69] fun _ => seg [(70, pt bb13 0), (72, vi (((gtD l) (Int.toNat x49)).2.1))] [(0, none), (1, none), (2, none), (3, none)] [.t true, .e (ν20 0), .t true, .t true] trivial fun ac wd hS => ?_
      refine hS.callG true 23 #[pt bb13 0, vi (((gtD l) (Int.toNat x49)).2.1)] (bu_Grow b'11 Fy my bb13 N (((gtD l) (Int.toNat x49)).2.1) gx (-1) qy Qy _ (hS.mem.res 1) (hS.mem.get 0 1 (.fn 0 64 dbT)) (hS.mem.get 3 bb13 (.fn 0 12 (roF [pt b'11 0, vi 1, vi ((N : Nat) : Int), pt b'11 0, vi 0, vi 256, pt b'11 0, vi 0, vi 88, pt b'11 0, vi 257, vi ((N : Nat) : Int)]))) (hS.mem.nF (g := 1) (r := arR b'11 Fy my) 0 1) (hS.mem.nF (g := bb13) (r := arR b'11 Fy my) 3 1) (by exact i3) (by exact i4)) ?_
      rintro _ wd ⟨mo31, q232, Q233, F34, rfl, hB235, hF236, hT237, hS238, hK239, hA, hF⟩
      refine ⟨vi (gwE N gx (-1) (((gtD l) (Int.toNat x49)).2.1)), rfl, ?_⟩
      replace hS := (hS.to (hS.mem.stepA 1 rfl hA hF)).put (d := 73) (v := vi (gwE N gx (-1) (((gtD l) (Int.toNat x49)).2.1))) (by decide)
      clear hF
      refine hS.opsC 2 [1, 70] [6, 8, 47, 48, 49] fun _ => seg [(75, vb (((gwE N gx (-1) (((gtD l) (Int.toNat x49)).2.1)) : Int) != 0))] [(0, none), (1, none), (2, none), (3, none)] [.t true, .t true] trivial fun ac wd hS => ?_
      refine list_nil_seq ?_
      refine hS.condK (((gwE N gx (-1) (((gtD l) (Int.toNat x49)).2.1)) : Int) != 0) false (by (rw [hbk1.1]; rfl)) ?_
      show Code.wp _ _ _ _ _
      refine wp_skip ?_
      refine pop_block ?_
      refine pop_then ?_
      refine hS.regC [20, 0] [6, 8, 47, 48] fun _ => seg [(49, vi (x49 + 1))] [(0, none), (1, none), (2, none), (3, none)] [.p (fit .i64 (x49 + 1))] ⟨fit_i64 (by omega), trivial⟩ fun ac wd hS => ?_
      exact pop_then (hS.next ((x49 + 1), F25, mo20, F34, mo31, g218, q221, Q222, q232, Q233) ⟨(by first | omega | assumption | (simp; done) | (simp; omega)), (by first | assumption | exact i1), (by first | assumption | exact i2), (by first | exact i3 | (rw [hbk0]; exact i3) | exact bk_c (by assumption) hbk1), (by first | exact i4 | (rw [hbk0]; exact i4) | exact bk_f (by assumption) hbk1), (by first | exact i5 | exact NoT.same (by assumption) i5), trivial⟩ (by dsimp only; omega))
     ·
      have hg30 := nrm hg30o
      have hbk0 := bk_same eg9 hg30
      replace hS := hS.fix 69 (vb false) (congrArg Value.bool hg30o)
      refine hS.opsC 6 [2, 2, 2, 2, 2, 60] [6, 8, 47, 48, 49] fun _ => seg [(75, vb false)] [(0, none), (1, none), (2, none), (3, none)] [.t false, .t false, .t false, .t false, .t false, .t false] trivial fun ac wd hS => ?_
      refine list_nil_seq ?_
      refine hS.condF ?_
      refine wp_skip ?_
      refine pop_block ?_
      refine pop_then ?_
      refine hS.regC [20, 0] [6, 8, 47, 48] fun _ => seg [(49, vi (x49 + 1))] [(0, none), (1, none), (2, none), (3, none)] [.p (fit .i64 (x49 + 1))] ⟨fit_i64 (by omega), trivial⟩ fun ac wd hS => ?_
      exact pop_then (hS.next ((x49 + 1), F25, mo20, Fy, my, g218, q221, Q222, qy, Qy) ⟨(by first | omega | assumption | (simp; done) | (simp; omega)), (by first | assumption | exact i1), (by first | assumption | exact i2), (by first | exact i3 | (rw [hbk0]; exact i3) | exact bk_c (by assumption) hbk1), (by first | exact i4 | (rw [hbk0]; exact i4) | exact bk_f (by assumption) hbk1), (by first | exact i5 | exact NoT.same (by assumption) i5), trivial⟩ (by dsimp only; omega))
   ·
    refine wp_exit ?_
    refine pop_then_exit ?_
    refine pop_then_exit ?_
    refine pop_block_hit ?_
    refine pop_then ?_
    refine wp_seq ?_
    refine wp_region_seq ?_
    refine hS.opsC 1 [0] [6, 8] fun _ => seg [(77, pt bb8 0)] [(0, none), (2, none), (3, none)] [] trivial fun ac wd hS => ?_
    refine hS.call0 26 #[pt bb8 0, vi 0] 78 (l08_Pick b'6 Fx mx bb8 N 0 gx (-1) qx Qx _ (hS.mem.res 0) (hS.mem.get 0 1 (.fn 0 64 dbT)) (hS.mem.get 1 bb8 (.fn 0 12 (roF [pt b'6 0, vi 1, vi ((N : Nat) : Int), pt b'6 0, vi 0, vi 256, pt b'6 0, vi 0, vi 88, pt b'6 0, vi 257, vi ((N : Nat) : Int)]))) (by first | assumption | exact i1) (by first | assumption | exact i2 | exact FreeP.full k2 (by assumption))) fun ac wd hS => ?_
    refine hS.opsC 1 [0] [6, 8] fun _ => seg [(13, vi (pkA (rnTo qx gx) 0))] [(0, none), (1, none), (2, none)] [] trivial fun ac wd hS => ?_
    refine list_nil_seq ?_
    refine wp_block ?_
    refine St.loopC (σ := Int × (Nat → Prop) × AM × List Tg × (Nat → List Int)) (fun (x : Int × (Nat → Prop) × AM × List Tg × (Nat → List Int)) => match x with | (x13, Fz, mz, qz, Qz) => ⟨[(6, [], pt bb8 0), (8, [], pt bb13 0), (13, [], vi x13)], [(1, .fn 0 64 dbT), (bb8, .fn 0 12 (roF [pt b'6 0, vi 1, vi ((N : Nat) : Int), pt b'6 0, vi 0, vi 256, pt b'6 0, vi 0, vi 88, pt b'6 0, vi 257, vi ((N : Nat) : Int)])), (bb13, .fn 0 12 (roF [pt b'11 0, vi 1, vi ((N : Nat) : Int), pt b'11 0, vi 0, vi 256, pt b'11 0, vi 0, vi 88, pt b'11 0, vi 257, vi ((N : Nat) : Int)]))], [arR b'6 Fz mz, arR b'11 Fy my], (Bdy mz N gx (-1) qz Qz) ∧ (FullG gx qz) ∧ (x13 = pkA (rnTo qz gx) 0) ∧ True, mtk qz gx⟩) ((pkA (rnTo qx gx) 0), Fx, mx, qx, Qx) ⟨(by exact i1), (by exact i2), (by rfl), trivial⟩ hS ?_
    clear hS
    rintro ⟨x13, Fz, mz, qz, Qz⟩ ⟨k1, k2, k3, -⟩ ac wd hS
    replace k1 : Bdy mz N gx (-1) qz Qz := k1
    replace k2 : FullG gx qz := k2
    replace k3 : x13 = pkA (rnTo qz gx) 0 := k3
    refine wp_seq ?_
    refine hS.regS [0, 0] [6, 8, 13] fun _ => seg [(80, vb ((x13 : Int) != 0))] [(0, none), (1, none), (2, none)] [] trivial fun ac wd hS => ?_
    refine hS.condC ((x13 : Int) != 0) (fun hb40o hb40 => ?_) (fun hb40o hb40 => ?_)
    ·
     have hx9 : x13 ≠ 0 := hb40
     have hT9 := pk_tk k1 (k3 ▸ hx9)
     rw [← k3] at hT9
     refine wp_skip ?_
     refine pop_then ?_
     refine wp_seq ?_
     refine wp_block ?_
     refine wp_region_seq ?_
     refine hS.opsC 2 [0, 0] [6, 8] fun _ => seg [(83, pt bb8 0), (84, vi x13)] [(0, none), (1, none), (2, none)] [] trivial fun ac wd hS => ?_
     refine hS.callC 19 #[pt bb8 0, vi x13] (bu_Free b'6 Fz mz bb8 N x13 gx (-1) qz Qz _ (hS.mem.res 0) (hS.mem.get 1 bb8 (.fn 0 12 (roF [pt b'6 0, vi 1, vi ((N : Nat) : Int), pt b'6 0, vi 0, vi 256, pt b'6 0, vi 0, vi 88, pt b'6 0, vi 257, vi ((N : Nat) : Int)]))) (hS.mem.nF (g := bb8) (r := arR b'6 Fz mz) 1 0) (by exact k1) (by (have := pk_rng k1 0; omega))) ?_
     rintro _ wd ⟨mo41, q242, Q243, F44, rfl, hB245, hF246, hK247, hA, hF⟩
     refine ⟨vi (tkE qz x13), rfl, ?_⟩
     replace hS := (hS.to (hS.mem.stepA 0 rfl hA hF)).put (d := 85) (v := vi (tkE qz x13)) (by decide)
     clear hF
     refine hS.opsC 1 [0] [6, 8] fun _ => seg [(86, vb (((tkE qz x13) : Int) != 0))] [(0, none), (1, none), (2, none)] [] trivial fun ac wd hS => ?_
     refine list_nil_seq ?_
     refine hS.condK (((tkE qz x13) : Int) != 0) false (by (rw [hT9]; rfl)) ?_
     show Code.wp _ _ _ _ _
     refine wp_skip ?_
     refine pop_block ?_
     refine pop_then ?_
     refine wp_region_lit ?_
     refine hS.opsC 1 [0] [6, 8] fun _ => seg [(81, pt bb8 0)] [(0, none), (1, none), (2, none)] [] trivial fun ac wd hS => ?_
     refine hS.call0 26 #[pt bb8 0, vi 0] 82 (l08_Pick b'6 F44 mo41 bb8 N 0 gx (-1) q242 Q243 _ (hS.mem.res 0) (hS.mem.get 0 1 (.fn 0 64 dbT)) (hS.mem.get 1 bb8 (.fn 0 12 (roF [pt b'6 0, vi 1, vi ((N : Nat) : Int), pt b'6 0, vi 0, vi 256, pt b'6 0, vi 0, vi 88, pt b'6 0, vi 257, vi ((N : Nat) : Int)]))) (by first | assumption | exact i1) (by first | assumption | exact i2 | exact FreeP.full k2 (by assumption))) fun ac wd hS => ?_
     refine hS.opsC 1 [0] [6, 8] fun _ => seg [(13, vi (pkA (rnTo q242 gx) 0))] [(0, none), (1, none), (2, none)] [] trivial fun ac wd hS => ?_
     refine list_nil ?_
     exact pop_then (hS.next ((pkA (rnTo q242 gx) 0), F44, mo41, q242, Q243) ⟨(by assumption), (by exact FreeP.full k2 (by assumption)), (by rfl), trivial⟩ (by exact mtk_lt k1 hT9 (by assumption)))
    ·
     have hx9 : x13 = 0 := hb40
     refine wp_exit ?_
     refine pop_then_exit ?_
     refine pop_then_exit ?_
     refine pop_block_hit ?_
     refine pop_then ?_
     have hNT : NoT qz := pk_none k1 (k3.symm.trans (Decidable.byContradiction fun e_ => by first | omega | exact e_ (by assumption)))
     have eR := runs_same k1 i3 k2 i4 (NoT.iff hNT i5)
     refine wp_region_seq ?_
     refine hS.opsC 1 [0] [6, 8] fun _ => seg [(87, pt bb8 0)] [(0, none), (1, none), (2, none)] [] trivial fun ac wd hS => ?_
     refine hS.callC 17 #[pt bb8 0] (bu_Runs b'6 Fz mz bb8 N gx (-1) qz Qz _ (hS.mem.res 0) (hS.mem.get 0 1 (.fn 0 64 dbT)) (hS.mem.get 1 bb8 (.fn 0 12 (roF [pt b'6 0, vi 1, vi ((N : Nat) : Int), pt b'6 0, vi 0, vi 256, pt b'6 0, vi 0, vi 88, pt b'6 0, vi 257, vi ((N : Nat) : Int)]))) (by first | assumption | exact i1) (by first | assumption | exact i2 | exact FreeP.full k2 (by assumption))) ?_
     rintro _ wd ⟨ao248, c249, g250, o251, rfl, hv252, hog0, hoh0, hF⟩
     have ho53 : g250 = 1 ∨ w.heap.size ≤ g250 := by have := hS.mem.fr.size; have : w.heap.size ≤ _ := this; omega
     refine ⟨.slice ao248 ((rnTo qz gx).length) c249, rfl, ?_⟩
     replace hS := (hS.to (hS.mem.outs hF [(g250, .fn o251 (o251 + (rnTo qz gx).length * 3) (rnV (gtD (rnTo qz gx)) o251))] ⟨⟨rfl, hoh0, (fun q_ => q_.elim (fun e => .inl ⟨0, .fn 0 64 dbT, by rw [e]; as_aux_lemma => kernel_rfl, rfl⟩) (fun q_ => .inr q_)) hog0⟩, trivial⟩)).put (d := 88) (v := .slice ao248 ((rnTo qz gx).length) c249) (by decide)
     clear hF
     refine hS.opsC 1 [0] [6, 8, 88] fun _ => seg [(89, pt bb13 0)] [(0, none), (1, none), (2, none), (3, none)] [] trivial fun ac wd hS => ?_
     refine hS.callC 17 #[pt bb13 0] (bu_Runs b'11 Fy my bb13 N gx (-1) qy Qy _ (hS.mem.res 1) (hS.mem.get 0 1 (.fn 0 64 dbT)) (hS.mem.get 2 bb13 (.fn 0 12 (roF [pt b'11 0, vi 1, vi ((N : Nat) : Int), pt b'11 0, vi 0, vi 256, pt b'11 0, vi 0, vi 88, pt b'11 0, vi 257, vi ((N : Nat) : Int)]))) (by first | assumption | exact i1) (by first | assumption | exact i2 | exact FreeP.full k2 (by assumption))) ?_
     rintro _ wd ⟨ao254, c255, g256, o257, rfl, hv258, hog0, hoh0, hF⟩
     have ho59 : g256 = 1 ∨ w.heap.size ≤ g256 := by have := hS.mem.fr.size; have : w.heap.size ≤ _ := this; omega
     refine ⟨.slice ao254 ((rnTo qy gx).length) c255, rfl, ?_⟩
     replace hS := (hS.to (hS.mem.outs hF [(g256, .fn o257 (o257 + (rnTo qy gx).length * 3) (rnV (gtD (rnTo qy gx)) o257))] ⟨⟨rfl, hoh0, (fun q_ => q_.elim (fun e => .inl ⟨0, .fn 0 64 dbT, by rw [e]; as_aux_lemma => kernel_rfl, rfl⟩) (fun q_ => .inr q_)) hog0⟩, trivial⟩)).put (d := 90) (v := .slice ao254 ((rnTo qy gx).length) c255) (by decide)
     clear hF
     refine hS.call0 20 #[.slice ao248 ((rnTo qz gx).length) c249, .slice ao254 ((rnTo qy gx).length) c255] 91 (eq_runs2 ao248 c249 g250 o251 (rnTo qz gx) ao254 c255 g256 o257 (rnTo qy gx) _ (hS.mem.get 3 g250 (.fn o251 (o251 + (rnTo qz gx).length * 3) (rnV (gtD (rnTo qz gx)) o251))) (hS.mem.get 4 g256 (.fn o257 (o257 + (rnTo qy gx).length * 3) (rnV (gtD (rnTo qy gx)) o257))) hv252 hv258 (by (have := rnTo_len qz gx; have := i1.bm.cn; omega)) (by exact eR)) fun ac wd hS => ?_
     refine hS.opsC 1 [0] [6, 8] fun _ => seg [(92, vb true)] [(0, none), (1, none), (2, none)] [] trivial fun ac wd hS => ?_
     refine hS.opsC 1 [1] [6, 8, 92] fun _ => seg [(93, pt bb8 0)] [(0, none), (1, none), (2, none)] [.t true] trivial fun ac wd hS => ?_
     refine hS.callG true 25 #[pt bb8 0] (bu_Shrink b'6 Fz mz bb8 N gx (-1) qz Qz _ (hS.mem.res 0) (hS.mem.get 1 bb8 (.fn 0 12 (roF [pt b'6 0, vi 1, vi ((N : Nat) : Int), pt b'6 0, vi 0, vi 256, pt b'6 0, vi 0, vi 88, pt b'6 0, vi 257, vi ((N : Nat) : Int)]))) (hS.mem.nF (g := bb8) (r := arR b'6 Fz mz) 1 0) (by first | assumption | exact i1) (by first | assumption | exact i2 | exact FreeP.full k2 (by assumption))) ?_
     rintro _ wd ⟨g260, mo61, q262, Q263, F64, rfl, hB265, hF266, hS267, hK268, hA, hF⟩
     refine ⟨vi ((gx : Int) - (g260 : Int)), rfl, ?_⟩
     replace hS := (hS.to (hS.mem.stepA 0 rfl hA hF)).put (d := 94) (v := vi ((gx : Int) - (g260 : Int))) (by decide)
     clear hF
     refine hS.opsC 1 [1] [6, 92, 94] fun _ => seg [(95, pt bb13 0)] [(0, none), (1, none), (2, none)] [.t true] trivial fun ac wd hS => ?_
     refine hS.callG true 24 #[pt bb13 0] (bu_Grown b'11 Fy my bb13 N gx (-1) qy Qy _ (hS.mem.res 1) (hS.mem.get 2 bb13 (.fn 0 12 (roF [pt b'11 0, vi 1, vi ((N : Nat) : Int), pt b'11 0, vi 0, vi 256, pt b'11 0, vi 0, vi 88, pt b'11 0, vi 257, vi ((N : Nat) : Int)]))) (by first | assumption | exact i1)) ?_
     rintro _ wd ⟨rfl, hF⟩
     refine ⟨vi (gx : Int), rfl, ?_⟩
     replace hS := (hS.to (hS.mem.keep0 hF)).put (d := 96) (v := vi (gx : Int)) (by decide)
     clear hF
     refine hS.opsC 3 [1, 70, 0] [6] fun _ => seg [(99, vb ((((gx : Int) - (g260 : Int)) : Int) == (gx : Int)))] [(0, none), (1, none)] [.t true, .t true] trivial fun ac wd hS => ?_
     have hg69o : ((((gx : Int) - (g260 : Int)) : Int) == (gx : Int)) = true := by (have h9 := sh_0 (by assumption) hNT; exact beq_iff_eq.2 (by omega))
     replace hS := hS.fix 99 (vb true) (congrArg Value.bool hg69o)
     refine hS.opsC 1 [1] [6, 99] fun _ => seg [(100, pt bb8 0)] [(0, none), (1, none)] [.t true] trivial fun ac wd hS => ?_
     refine hS.callG true 24 #[pt bb8 0] (bu_Grown b'6 F64 mo61 bb8 N g260 (-1) q262 Q263 _ (hS.mem.res 0) (hS.mem.get 1 bb8 (.fn 0 12 (roF [pt b'6 0, vi 1, vi ((N : Nat) : Int), pt b'6 0, vi 0, vi 256, pt b'6 0, vi 0, vi 88, pt b'6 0, vi 257, vi ((N : Nat) : Int)]))) (by first | assumption | exact i1)) ?_
     rintro _ wd ⟨rfl, hF⟩
     refine ⟨vi (g260 : Int), rfl, ?_⟩
     replace hS := (hS.to (hS.mem.keep0 hF)).put (d := 101) (v := vi (g260 : Int)) (by decide)
     clear hF
     refine hS.opsC 3 [1, 70, 0] [6] fun _ => seg [(104, vb (((g260 : Int) : Int) == 0))] [(0, none), (1, none)] [.t true, .t true] trivial fun ac wd hS => ?_
     have hg70o : (((g260 : Int) : Int) == 0) = true := by (have h9 := sh_0 (by assumption) hNT; exact beq_iff_eq.2 (by omega))
     replace hS := hS.fix 104 (vb true) (congrArg Value.bool hg70o)
     refine hS.opsC 4 [1, 1, 1, 101] [6, 104] fun _ => seg [(108, pt b'6 0)] [(0, none), (1, none)] [.t true, .e bb8, .p (0 ≤ 0 ∧ 0 < 12), .t true, .t true, .t true] ⟨(by decide), trivial⟩ fun ac wd hS => ?_
     refine hS.callG true 27 #[pt b'6 0] (ar_Committed b'6 F64 mo61 _ (hS.mem.res 0) ) ?_
     rintro _ wd ⟨rfl, hF⟩
     refine ⟨vi ((countTo mo61.com mo61.cap : Nat) : Int), rfl, ?_⟩
     replace hS := (hS.to (hS.mem.keep0 hF)).put (d := 109) (v := vi ((countTo mo61.com mo61.cap : Nat) : Int)) (by decide)
     clear hF
     refine hS.opsC 1 [1] [104, 109] fun _ => seg [(110, pt bb8 0)] [(0, none), (1, none)] [.t true] trivial fun ac wd hS => ?_
     refine hS.callG true 16 #[pt bb8 0] (bu_Base bb8 b'6 N _ (hS.mem.get 1 bb8 (.fn 0 12 (roF [pt b'6 0, vi 1, vi ((N : Nat) : Int), pt b'6 0, vi 0, vi 256, pt b'6 0, vi 0, vi 88, pt b'6 0, vi 257, vi ((N : Nat) : Int)]))) ) ?_
     rintro _ wd ⟨rfl, hF⟩
     refine ⟨vi 1, rfl, ?_⟩
     replace hS := (hS.to (hS.mem.keep0 hF)).put (d := 111) (v := vi 1) (by decide)
     clear hF
     refine hS.opsC 3 [1, 70, 0] [] fun _ => seg [(4, vb ((((countTo mo61.com mo61.cap : Nat) : Int) : Int) == 1))] [(0, none)] [.t true, .t true] trivial fun ac wd hS => ?_
     refine list_nil_seq ?_
     refine wp_ret ?_
     refine St.retC 0 hS (vb ((((countTo mo61.com mo61.cap : Nat) : Int) : Int) == 1)) [] trivial fun hw => ?_
     refine ⟨retd (vbool ?_), hw.fr0⟩
     all_goals (first | rfl | (have h9 := sh_0 (by assumption) hNT; rw [Bdy.cntC (by assumption), h9]; rfl) | exact decide_eq_true (by omega) | (simp; done))

end Go.Proofs.YtojjkjedcafpeaaGreatDoor.K
