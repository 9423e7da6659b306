/-
  Walks, printed by w2.py.
-/
import Derived.Test.YtojjkjedcafpeaaGreatDoorZf
import Derived.Test.YtojjkjedcafpeaaGreatDoorProg
namespace Go.Proofs.YtojjkjedcafpeaaGreatDoor.K
set_option linter.unusedVariables false
set_option linter.unusedSimpArgs false

set_option maxRecDepth 100000 in
set_option maxHeartbeats 1000000 in
theorem law08_BuddyGrows (cap : Int) (ao7 : Option Addr) (c7 : Nat) (g7 : Nat) (o7 : Nat) (l : List (Int × Int × Int)) (order : Int) (w : World) (hh0 : HE.holds w 1 (.fn 0 64 dbT)) (hh1 : HE.holds w g7 (.fn o7 (o7 + l.length * 3) (a8V (gtD l) o7))) (hv7 : (l.length = 0 ∨ ao7 = some ⟨g7, o7, none⟩)) (hAl : ∀ i, i < l.length → rg_a8V (gtD l i)) (hord : -9223372036854775808 ≤ order ∧ order ≤ 9223372036854775807) :
    Calls Tryz.prog 5 #[vi cap, .slice ao7 l.length c7, vi order] w fun e w' => e = .returned (vb true) ∧ Fr w w' no no := by
 refine enter (args := [vi cap, .slice ao7 l.length c7, vi order]) (D := no) (A := []) Tryz.func5 rfl 143 rfl [(1, .fn 0 64 dbT), (g7, .fn o7 (o7 + l.length * 3) (a8V (gtD l) o7))] (WS.startL ⟨⟨rfl, hh0⟩, ⟨rfl, hh1⟩, trivial⟩) fun ac hS => ?_
 refine hS.regS [0] [0, 1, 2] fun _ => seg [] [(0, none), (1, none)] [] trivial fun ac wd hS => ?_
 refine wp_seq ?_
 refine wp_region_seq ?_
 refine hS.call0 12 #[] 18 (law08_awake  _ (hS.mem.get 0 1 (.fn 0 64 dbT)) ) fun ac wd hS => ?_
 refine hS.opsC 1 [0] [0, 1, 2] fun _ => seg [(19, vb false)] [(0, none), (1, none)] [] trivial fun ac wd hS => ?_
 refine list_nil_seq ?_
 refine hS.condF ?_
 refine wp_skip ?_
 refine pop_then ?_
 refine wp_seq ?_
 refine hS.regS [0, 0, 0] [0, 1, 2] fun _ => seg [(22, vb (decide ((60 : Int) < ((l.length : Nat) : Int))))] [(0, none), (1, none)] [] trivial fun ac wd hS => ?_
 refine hS.condC (decide ((60 : Int) < ((l.length : Nat) : Int))) (fun hb1o hb1 => ?_) (fun hb1o hb1 => ?_)
 ·
  refine hS.regS [0] [] fun _ => seg [(6, vb true)] [(0, none)] [] trivial fun ac wd hS => ?_
  refine wp_ret ?_
  refine pop_then_ret ?_
  refine St.retC 0 hS (vb true) [] trivial fun hw => ?_
  refine ⟨retd rfl, hw.fr0⟩
 ·
  refine wp_skip ?_
  refine pop_then ?_
  by_cases hz9 : (imax 0 (imin cap 80)) ≤ 1
  ·
   have hcm : (AM.new (imax 0 (imin cap 80))).cap ≤ 1 := new_cap1 hz9
   refine wp_region_seq ?_
   refine hS.opsC 3 [0, 0, 0] [1, 2] fun _ => seg [(26, vi (imax 0 (imin cap 80)))] [(0, none), (1, none)] [] trivial fun ac wd hS => ?_
   refine hS.callC 14 #[vi (imax 0 (imin cap 80))] (ar_New (imax 0 (imin cap 80)) _  ) ?_
   rintro _ wd ⟨b'2, F3, rfl, hN, hF⟩
   refine ⟨pt b'2 0, rfl, ?_⟩
   replace hS := (hS.to (hS.mem.newA hN hF)).put (d := 27) (v := pt b'2 0) (by decide)
   clear hF
   refine hS.call0 13 #[pt b'2 0] 28 (bu_New_small b'2 F3 (AM.new (imax 0 (imin cap 80))) _ (hS.mem.res 0) (by exact hcm)) fun ac wd hS => ?_
   refine hS.opsC 5 [0, 0, 0, 0, 0] [1, 2] fun _ => seg [(7, pnil), (8, vi 3)] [(0, none), (1, none)] [] trivial fun ac wd hS => ?_
   refine list_nil_seq ?_
   refine wp_seq ?_
   refine hS.regS [0, 0] [1, 2, 7] fun _ => seg [(32, vb true)] [(0, none), (1, none)] [] trivial fun ac wd hS => ?_
   refine hS.condT ?_
   refine hS.regS [0] [] fun _ => seg [(6, vb true)] [(0, none)] [] trivial fun ac wd hS => ?_
   refine wp_ret ?_
   refine pop_then_ret ?_
   refine St.retC 0 hS (vb true) [] trivial fun hw => ?_
   refine ⟨retd rfl, hw.fr0⟩
  ·
   obtain ⟨N, hN9, hN8⟩ := cap_N hz9
   have hF9 : FreshA (AM.new (imax 0 (imin cap 80))) N (-1) := fresh_new hN9 (by omega)
   obtain ⟨hB9, hfl9⟩ := hF9.bdy hN8 (by decide)
   refine wp_region_seq ?_
   refine hS.opsC 3 [0, 0, 0] [1, 2] fun _ => seg [(26, vi (imax 0 (imin cap 80)))] [(0, none), (1, none)] [] trivial fun ac wd hS => ?_
   refine hS.callC 14 #[vi (imax 0 (imin cap 80))] (ar_New (imax 0 (imin cap 80)) _  ) ?_
   rintro _ wd ⟨b'4, F5, rfl, hN, hF⟩
   refine ⟨pt b'4 0, rfl, ?_⟩
   replace hS := (hS.to (hS.mem.newA hN hF)).put (d := 27) (v := pt b'4 0) (by decide)
   clear hF
   refine hS.callC 13 #[pt b'4 0] (bu_New_ok b'4 F5 (AM.new (imax 0 (imin cap 80))) N (-1) _ (hS.mem.res 0) (by exact hF9) (by exact hN8) (by decide)) ?_
   rintro _ wd ⟨bb6, F7, rfl, hA, hog0, hoh0, hnf0, hF⟩
   have ho8 : w.heap.size ≤ bb6 := Nat.le_trans hS.mem.fr.size hog0
   refine ⟨.tuple #[pt bb6 0, vi 0], rfl, ?_⟩
   replace hS := (hS.to (hS.mem.outAT 0 rfl hA hF (g := bb6) (z := .fn 0 12 (roF [pt b'4 0, vi 1, vi ((N : Nat) : Int), pt b'4 0, vi 0, vi 256, pt b'4 0, vi 0, vi 88, pt b'4 0, vi 257, vi ((N : Nat) : Int)])) rfl hoh0 (.inr hog0) hnf0)).put (d := 28) (v := .tuple #[pt bb6 0, vi 0]) (by decide)
   clear hF
   refine hS.opsC 5 [0, 0, 0, 0, 0] [1, 2] fun _ => seg [(7, pt bb6 0), (8, vi 0)] [(0, none), (1, none), (2, none)] [] trivial fun ac wd hS => ?_
   refine list_nil_seq ?_
   refine wp_seq ?_
   refine hS.regS [0, 0] [1, 2, 7] fun _ => seg [(32, vb false)] [(0, none), (1, none), (2, none)] [] trivial fun ac wd hS => ?_
   refine hS.condF ?_
   refine wp_skip ?_
   refine pop_then ?_
   refine wp_seq ?_
   refine hS.regS [0, 0, 0] [2, 7] fun _ => seg [(33, .slice ao7 l.length c7), (34, vi ((l.length : Nat) : Int)), (35, vi 0)] [(0, none), (1, none), (2, none)] [] trivial fun ac wd hS => ?_
   refine wp_block ?_
   refine St.loopC (σ := Int × (Nat → Prop) × AM × Nat × Int × List Tg × (Nat → List Int)) (fun (x : Int × (Nat → Prop) × AM × Nat × Int × List Tg × (Nat → List Int)) => match x with | (x35, Fx, mx, gx, rx, qx, Qx) => ⟨[(2, [], vi order), (7, [], pt bb6 0), (33, [], .slice ao7 l.length c7), (34, [], vi ((l.length : Nat) : Int)), (35, [], vi x35)], [(1, .fn 0 64 dbT), (g7, .fn o7 (o7 + l.length * 3) (a8V (gtD l) o7)), (bb6, .fn 0 12 (roF [pt b'4 0, vi 1, vi ((N : Nat) : Int), pt b'4 0, vi 0, vi 256, pt b'4 0, vi 0, vi 88, pt b'4 0, vi 257, vi ((N : Nat) : Int)]))], [arR b'4 Fx mx], (0 ≤ x35 ∧ x35 ≤ (l.length : Int)) ∧ (Bdy mx N gx rx qx Qx) ∧ (FullG gx qx) ∧ True, l.length - Int.toNat x35⟩) (0, F7, (vstM (comM (AM.new (imax 0 (imin cap 80))) 0 1) 0 256 104 8 6432341300767115597), 0, (-1), (List.replicate N (0, 0)), (fun _ => [])) ⟨(by omega), (by exact hB9), (by exact hfl9), trivial⟩ hS ?_
   clear hS
   rintro ⟨x35, Fx, mx, gx, rx, qx, Qx⟩ ⟨i0, i1, i2, -⟩ ac wd hS
   replace i0 : 0 ≤ x35 ∧ x35 ≤ (l.length : Int) := i0
   replace i1 : Bdy mx N gx rx qx Qx := i1
   replace i2 : FullG gx qx := i2
   refine hS.regS [0] [2, 7, 33, 34, 35] fun _ => seg [(36, vb (decide ((x35 : Int) < ((l.length : Nat) : Int))))] [(0, none), (1, none), (2, none)] [] trivial fun ac wd hS => ?_
   refine wp_seq ?_
   refine hS.condC (decide ((x35 : Int) < ((l.length : Nat) : Int))) (fun hb9o hb9 => ?_) (fun hb9o hb9 => ?_)
   ·
    refine wp_skip ?_
    refine pop_then ?_
    refine wp_seq ?_
    refine wp_block ?_
    obtain rfl : ao7 = some ⟨g7, o7, none⟩ := Or.resolve_left hv7 (by omega)
    refine hS.regS [20, fx 100 (.agg #[v8 (((gtD l) (Int.toNat x35)).1), vi (((gtD l) (Int.toNat x35)).2.1), vi (((gtD l) (Int.toNat x35)).2.2)]), 0, 300] [2, 7, 33, 34, 35] fun ν14 => seg [(10, pt (ν14 0) 0)] [(0, none), (1, none), (2, none), (3, some ((ν14 0), .cells [v8 (((gtD l) (Int.toNat x35)).1), vi (((gtD l) (Int.toNat x35)).2.1), vi (((gtD l) (Int.toNat x35)).2.2)] 31))] [.e (ν14 0), .e (ν14 0), .e (ν14 0), .p ((.agg #[((a8V (gtD l) o7) (o7 + Int.toNat x35 * 3)), ((a8V (gtD l) o7) (o7 + Int.toNat x35 * 3 + 1)), ((a8V (gtD l) o7) (o7 + Int.toNat x35 * 3 + 2))] : Value) = .agg #[v8 (((gtD l) (Int.toNat x35)).1), vi (((gtD l) (Int.toNat x35)).2.1), vi (((gtD l) (Int.toNat x35)).2.2)]), .e g7, .p (o7 ≤ o7 + Int.toNat x35 * 3 + 2 ∧ o7 + Int.toNat x35 * 3 + 2 < (o7 + l.length * 3)), .e g7, .p (o7 ≤ o7 + Int.toNat x35 * 3 + 1 ∧ o7 + Int.toNat x35 * 3 + 1 < (o7 + l.length * 3)), .e g7, .p (o7 ≤ o7 + Int.toNat x35 * 3 ∧ o7 + Int.toNat x35 * 3 < (o7 + l.length * 3)), .p ((0 : Int) ≤ x35 ∧ (x35 : Int) < ((l.length : Nat) : Int))] ⟨(agg3 (a8V_0 (gtD l) o7 (Int.toNat x35)) (a8V_1 (gtD l) o7 (Int.toNat x35)) (a8V_2 (gtD l) o7 (Int.toNat x35))), (by omega), (by omega), (by omega), (by omega), trivial⟩ fun ac wd hS => ?_
    refine St.ordBegin [(0, 1), (1, 1), (4, 1), (2, 0), (3, 1), (5, 0)] [(1, .fn 0 64 dbT), (g7, .fn o7 (o7 + l.length * 3) (a8V (gtD l) o7)), (bb6, .fn 0 12 (roF [pt b'4 0, vi 1, vi ((N : Nat) : Int), pt b'4 0, vi 0, vi 256, pt b'4 0, vi 0, vi 88, pt b'4 0, vi 257, vi ((N : Nat) : Int)])), ((ν14 0), .cells [v8 (((gtD l) (Int.toNat x35)).1), vi (((gtD l) (Int.toNat x35)).2.1), vi (((gtD l) (Int.toNat x35)).2.2)] 31)] [0, 1, 2, 3] hS fun wd hS => ?_
    have hap := hS.mem.pairs (Hf := [(1, .fn 0 64 dbT), (g7, .fn o7 (o7 + l.length * 3) (a8V (gtD l) o7)), (bb6, .fn 0 12 (roF [pt b'4 0, vi 1, vi ((N : Nat) : Int), pt b'4 0, vi 0, vi 256, pt b'4 0, vi 0, vi 88, pt b'4 0, vi 257, vi ((N : Nat) : Int)])), ((ν14 0), .cells [v8 (((gtD l) (Int.toNat x35)).1), vi (((gtD l) (Int.toNat x35)).2.1), vi (((gtD l) (Int.toNat x35)).2.2)] 31)]) (l := [0, 1, 2, 3])
    refine St.ordF [0, 0, 300] [0, 1, 4] [2, 7, 33, 34, 35] (rest := [(2, 0), (3, 1), (5, 0)]) hS hap <| segF [(39, pt bb6 0), (40, pt bb6 0), (43, .agg #[v8 (((gtD l) (Int.toNat x35)).1), vi (((gtD l) (Int.toNat x35)).2.1), vi (((gtD l) (Int.toNat x35)).2.2)])] [.e (ν14 0), .e (ν14 0), .e (ν14 0)] trivial fun ac hS => ?_
    refine hS.ordC 2 16 #[pt bb6 0] (bu_Base bb6 b'4 N _ (hS.mem.get 2 bb6 (.fn 0 12 (roF [pt b'4 0, vi 1, vi ((N : Nat) : Int), pt b'4 0, vi 0, vi 256, pt b'4 0, vi 0, vi 88, pt b'4 0, vi 257, vi ((N : Nat) : Int)]))) ) ?_
    rintro _ wd ⟨rfl, hF⟩
    refine ⟨vi 1, rfl, ?_⟩
    replace hS := (hS.to (hS.mem.keep0 hF)).put (d := 41) (v := vi 1) (by decide)
    clear hF
    refine hS.ordV (l := [0, 1, 2, 3]) ?_
    refine St.ordF [0] [3] [2, 7, 33, 34, 35, 39, 43] (rest := [(5, 0)]) hS hap <| segF [(42, .agg #[vi 1, vi 0, vi 0, vi 0, vnil])] [] trivial fun ac hS => ?_
    refine hS.ordC 5 15 #[pt bb6 0, .agg #[vi 1, vi 0, vi 0, vi 0, vnil], .agg #[v8 (((gtD l) (Int.toNat x35)).1), vi (((gtD l) (Int.toNat x35)).2.1), vi (((gtD l) (Int.toNat x35)).2.2)]] (l08_Do0 b'4 Fx mx bb6 N (((gtD l) (Int.toNat x35)).1) (((gtD l) (Int.toNat x35)).2.1) (((gtD l) (Int.toNat x35)).2.2) gx rx qx Qx _ (hS.mem.res 0) (hS.mem.get 0 1 (.fn 0 64 dbT)) (hS.mem.get 2 bb6 (.fn 0 12 (roF [pt b'4 0, vi 1, vi ((N : Nat) : Int), pt b'4 0, vi 0, vi 256, pt b'4 0, vi 0, vi 88, pt b'4 0, vi 257, vi ((N : Nat) : Int)]))) (hS.mem.nF (g := 1) (r := arR b'4 Fx mx) 0 0) (hS.mem.nF (g := bb6) (r := arR b'4 Fx mx) 2 0) (by exact i1) (by exact i2) (by (have hac := hAl _ (show Int.toNat x35 < l.length by omega); exact hac.1)) (by (have hac := hAl _ (show Int.toNat x35 < l.length by omega); exact hac.2.2.1.2))) ?_
    rintro _ wd ⟨g210, r211, mo12, q213, Q214, dq15, db16, F17, rfl, hB218, hF219, hS220, hK221, hA, hF⟩
    refine ⟨.tuple #[dq15, vb db16], rfl, ?_⟩
    replace hS := (hS.to (hS.mem.stepA 0 rfl hA hF)).put (d := 44) (v := .tuple #[dq15, vb db16]) (by decide)
    clear hF
    refine hS.ordV (l := [0, 1, 2, 3]) ?_
    refine ord_nil ?_
    refine pop_block ?_
    refine pop_then ?_
    refine hS.regC [20, 0] [2, 7, 33, 34] fun _ => seg [(35, vi (x35 + 1))] [(0, none), (1, none), (2, none)] [.p (fit .i64 (x35 + 1))] ⟨fit_i64 (by omega), trivial⟩ fun ac wd hS => ?_
    exact pop_then (hS.next ((x35 + 1), F17, mo12, g210, r211, q213, Q214) ⟨(by first | omega | assumption | (simp; done) | (simp; omega)), (by assumption), (by assumption), trivial⟩ (by dsimp only; omega))
   ·
    refine wp_exit ?_
    refine pop_then_exit ?_
    refine pop_then_exit ?_
    refine pop_block_hit ?_
    refine pop_then ?_
    refine wp_region_seq ?_
    refine hS.opsC 1 [0] [2, 7] fun _ => seg [(46, pt bb6 0)] [(0, none), (2, none)] [] trivial fun ac wd hS => ?_
    refine hS.callC 17 #[pt bb6 0] (bu_Runs b'4 Fx mx bb6 N gx rx qx Qx _ (hS.mem.res 0) (hS.mem.get 0 1 (.fn 0 64 dbT)) (hS.mem.get 1 bb6 (.fn 0 12 (roF [pt b'4 0, vi 1, vi ((N : Nat) : Int), pt b'4 0, vi 0, vi 256, pt b'4 0, vi 0, vi 88, pt b'4 0, vi 257, vi ((N : Nat) : Int)]))) (by first | exact i1 | exact hBy) (by first | exact i2 | exact hFy)) ?_
    rintro _ wd ⟨ao222, c223, g224, o225, rfl, hv226, hog0, hoh0, hF⟩
    have ho27 : g224 = 1 ∨ w.heap.size ≤ g224 := by have := hS.mem.fr.size; have : w.heap.size ≤ _ := this; omega
    refine ⟨.slice ao222 ((rnTo qx gx).length) c223, rfl, ?_⟩
    replace hS := (hS.to (hS.mem.outs hF [(g224, .fn o225 (o225 + (rnTo qx gx).length * 3) (rnV (gtD (rnTo qx gx)) o225))] ⟨⟨rfl, hoh0, (fun q_ => q_.elim (fun e => .inl ⟨0, .fn 0 64 dbT, by rw [e]; as_aux_lemma => kernel_rfl, rfl⟩) (fun q_ => .inr q_)) hog0⟩, trivial⟩)).put (d := 47) (v := .slice ao222 ((rnTo qx gx).length) c223) (by decide)
    clear hF
    refine hS.opsC 1 [0] [2, 7, 47] fun _ => seg [(48, pt bb6 0)] [(0, none), (1, none), (2, none)] [] trivial fun ac wd hS => ?_
    refine hS.call0 24 #[pt bb6 0] 49 (bu_Grown b'4 Fx mx bb6 N gx rx qx Qx _ (hS.mem.res 0) (hS.mem.get 1 bb6 (.fn 0 12 (roF [pt b'4 0, vi 1, vi ((N : Nat) : Int), pt b'4 0, vi 0, vi 256, pt b'4 0, vi 0, vi 88, pt b'4 0, vi 257, vi ((N : Nat) : Int)]))) (by first | exact i1 | exact hBy)) fun ac wd hS => ?_
    refine hS.opsC 2 [0, 0] [2, 7] fun _ => seg [(11, .slice ao222 ((rnTo qx gx).length) c223), (12, vi (gx : Int))] [(0, none), (1, none), (2, none)] [] trivial fun ac wd hS => ?_
    refine list_nil_seq ?_
    refine wp_region_seq ?_
    refine hS.opsC 4 [0, 0, 0, 100] [2, 7, 11, 12] fun _ => seg [(53, pt b'4 0)] [(0, none), (1, none), (2, none)] [.e bb6, .p (0 ≤ 0 ∧ 0 < 12)] ⟨(by decide), trivial⟩ fun ac wd hS => ?_
    refine hS.callC 28 #[pt b'4 0, vi 1] (ar_Refuse b'4 Fx mx 1 _ (hS.mem.res 0) (by first | assumption | omega | (simp_all; done) | (simp_all; omega))) ?_
    rintro _ wd ⟨F28, rfl, hA, hF⟩
    refine ⟨.tuple #[], rfl, ?_⟩
    replace hS := (hS.to (hS.mem.stepA 0 rfl hA hF)).put (d := 54) (v := .tuple #[]) (by decide)
    clear hF
    refine list_nil_seq ?_
    refine wp_seq ?_
    have hB1 : Bdy (refM mx 1) N gx 1 qx Qx := i1.refM 1
    refine wp_region_seq ?_
    refine hS.opsC 2 [0, 0] [2, 7, 11, 12] fun _ => seg [(55, pt bb6 0), (56, vi order)] [(0, none), (1, none), (2, none)] [] trivial fun ac wd hS => ?_
    refine hS.callC 23 #[pt bb6 0, vi order] (bu_Grow b'4 F28 (refM mx 1) bb6 N order gx 1 qx Qx _ (hS.mem.res 0) (hS.mem.get 0 1 (.fn 0 64 dbT)) (hS.mem.get 1 bb6 (.fn 0 12 (roF [pt b'4 0, vi 1, vi ((N : Nat) : Int), pt b'4 0, vi 0, vi 256, pt b'4 0, vi 0, vi 88, pt b'4 0, vi 257, vi ((N : Nat) : Int)]))) (hS.mem.nF (g := 1) (r := arR b'4 F28 (refM mx 1)) 0 0) (hS.mem.nF (g := bb6) (r := arR b'4 F28 (refM mx 1)) 1 0) (by exact hB1) (by exact i2)) ?_
    rintro _ wd ⟨mo29, q230, Q231, F32, rfl, hB233, hF234, hT235, hS236, hK237, hA, hF⟩
    refine ⟨vi (gwE N gx 1 order), rfl, ?_⟩
    replace hS := (hS.to (hS.mem.stepA 0 rfl hA hF)).put (d := 57) (v := vi (gwE N gx 1 order)) (by decide)
    clear hF
    refine hS.opsC 1 [0] [2, 7, 11, 12] fun _ => seg [(13, vi (gwE N gx 1 order))] [(0, none), (1, none), (2, none)] [] trivial fun ac wd hS => ?_
    refine list_nil_seq ?_
    refine hS.regS [0, 0] [2, 7, 11, 12, 13] fun _ => seg [(59, vb (((gwE N gx 1 order) : Int) != 0))] [(0, none), (1, none), (2, none)] [] trivial fun ac wd hS => ?_
    refine hS.condC (((gwE N gx 1 order) : Int) != 0) (fun hb38o hb38 => ?_) (fun hb38o hb38 => ?_)
    ·
     have hge : gwE N gx 1 order ≠ 0 := hb38
     obtain ⟨eg9, eb9⟩ := gw_no hge
     have hq9 := (hS236 hge).symm
     subst hq9
     rw [eg9] at hB233
     have hBy := hB233
     refine wp_region_seq ?_
     refine hS.opsC 1 [0] [2, 11, 13] fun _ => seg [(60, pt bb6 0)] [(0, none), (1, none), (2, none)] [] trivial fun ac wd hS => ?_
     refine hS.callC 17 #[pt bb6 0] (bu_Runs b'4 F32 mo29 bb6 N gx (gwR N gx 1 order) qx Q231 _ (hS.mem.res 0) (hS.mem.get 0 1 (.fn 0 64 dbT)) (hS.mem.get 1 bb6 (.fn 0 12 (roF [pt b'4 0, vi 1, vi ((N : Nat) : Int), pt b'4 0, vi 0, vi 256, pt b'4 0, vi 0, vi 88, pt b'4 0, vi 257, vi ((N : Nat) : Int)]))) (by first | exact i1 | exact hBy) (by first | exact i2 | exact hFy)) ?_
     rintro _ wd ⟨ao239, c240, g241, o242, rfl, hv243, hog0, hoh0, hF⟩
     have ho44 : g241 = 1 ∨ w.heap.size ≤ g241 := by have := hS.mem.fr.size; have : w.heap.size ≤ _ := this; omega
     refine ⟨.slice ao239 ((rnTo qx gx).length) c240, rfl, ?_⟩
     replace hS := (hS.to (hS.mem.outs hF [(g241, .fn o242 (o242 + (rnTo qx gx).length * 3) (rnV (gtD (rnTo qx gx)) o242))] ⟨⟨rfl, hoh0, (fun q_ => q_.elim (fun e => .inl ⟨0, .fn 0 64 dbT, by rw [e]; as_aux_lemma => kernel_rfl, rfl⟩) (fun q_ => .inr q_)) hog0⟩, trivial⟩)).put (d := 61) (v := .slice ao239 ((rnTo qx gx).length) c240) (by decide)
     clear hF
     refine hS.opsC 1 [0] [2, 13, 61] fun _ => seg [(62, .slice ao222 ((rnTo qx gx).length) c223)] [(0, none), (2, none), (3, none)] [] trivial fun ac wd hS => ?_
     refine hS.call0 20 #[.slice ao239 ((rnTo qx gx).length) c240, .slice ao222 ((rnTo qx gx).length) c223] 63 (eq_runs ao239 c240 g241 o242 (rnTo qx gx) ao222 c223 g224 o225 _ (hS.mem.get 2 g241 (.fn o242 (o242 + (rnTo qx gx).length * 3) (rnV (gtD (rnTo qx gx)) o242))) (hS.mem.get 1 g224 (.fn o225 (o225 + (rnTo qx gx).length * 3) (rnV (gtD (rnTo qx gx)) o225))) hv243 hv226 (by (have := rnTo_len qx gx; have := i1.bm.cn; omega))) fun ac wd hS => ?_
     refine hS.opsC 12 [0, 1, 1, 1, 1, 1, 3, 3, 81, 1, 70, 0] [] fun _ => seg [(6, vb ((((gwE N gx 1 order) : Int) == 2) == ((decide ((order : Int) < 0)) || (decide ((10 : Int) < order)))))] [(0, none)] [.t true, .t true, .t true, .t true, .t true, .t true, .t true, .t true] trivial fun ac wd hS => ?_
     refine list_nil_seq ?_
     refine wp_ret ?_
     refine pop_then_ret ?_
     refine St.retC 0 hS (vb ((((gwE N gx 1 order) : Int) == 2) == ((decide ((order : Int) < 0)) || (decide ((10 : Int) < order))))) [] trivial fun hw => ?_
     refine ⟨retd (vbool ?_), hw.fr0⟩
     all_goals (first | rfl | (rw [eb9]; exact beq_self_eq_true _) | (rw [hBy.cntC]; exact beq_iff_eq.2 (by omega)) | (simp; done))
    ·
     have hge : gwE N gx 1 order = 0 := hb38
     refine wp_skip ?_
     refine pop_then ?_
     have hw9 := gw_ok hge
     have hk10 := gr_bad hw9.1
     have hpb := pw_bd hk10
     obtain ⟨gy, ry, qy, Qy, hBy, hFy, hTy, hgy, hno9⟩ : ∃ (gy : Nat) (ry : Int) (qy : List Tg) (Qy : Nat → List Int), Bdy mo29 N gy ry qy Qy ∧ FullG gy qy ∧ (∀ (j : Nat) (t : Int), gtD qy j = (3, t) ↔ gtD qx j = (3, t)) ∧ gwG N gx 1 order = gy ∧ ¬ NoF qy (Int.toNat order) := ⟨_, _, _, _, hB233, hF234, hT235, rfl, grown_must hB1 hw9.1 hge hB233 hF234 hT235⟩
     rw [hgy] at hw9
     have hfr9 := frB_yes hBy hk10.1 hno9
     have hcn8 := hBy.bm.cn
     refine hS.regS [0, 20, 0] [2, 7, 11, 12] fun _ => seg [(14, vi (1 * (2 ^ Int.toNat order)))] [(0, none), (1, none), (2, none)] [.p ((0 : Int) ≤ order ∧ IntKind.i64.wrap (1 * 2 ^ (min (Int.toNat order) 64)) = (1 * (2 ^ Int.toNat order)))] ⟨shl2_i64 (by omega) (by omega) (by exact pgsN_sh (by omega)), trivial⟩ fun ac wd hS => ?_
     refine hS.regS [0] [2, 7, 11, 12, 14] fun _ => seg [(15, vb false)] [(0, none), (1, none), (2, none)] [] trivial fun ac wd hS => ?_
     refine wp_seq ?_
     refine wp_region_seq ?_
     refine hS.opsC 1 [0] [2, 7, 11, 12, 14, 15] fun _ => seg [(77, pt bb6 0)] [(0, none), (1, none), (2, none)] [] trivial fun ac wd hS => ?_
     refine hS.callC 17 #[pt bb6 0] (bu_Runs b'4 F32 mo29 bb6 N gy ry qy Qy _ (hS.mem.res 0) (hS.mem.get 0 1 (.fn 0 64 dbT)) (hS.mem.get 1 bb6 (.fn 0 12 (roF [pt b'4 0, vi 1, vi ((N : Nat) : Int), pt b'4 0, vi 0, vi 256, pt b'4 0, vi 0, vi 88, pt b'4 0, vi 257, vi ((N : Nat) : Int)]))) (by first | exact i1 | exact hBy) (by first | exact i2 | exact hFy)) ?_
     rintro _ wd ⟨ao245, c246, g247, o248, rfl, hv249, hog0, hoh0, hF⟩
     have ho50 : g247 = 1 ∨ w.heap.size ≤ g247 := by have := hS.mem.fr.size; have : w.heap.size ≤ _ := this; omega
     refine ⟨.slice ao245 ((rnTo qy gy).length) c246, rfl, ?_⟩
     replace hS := (hS.to (hS.mem.outs hF [(g247, .fn o248 (o248 + (rnTo qy gy).length * 3) (rnV (gtD (rnTo qy gy)) o248))] ⟨⟨rfl, hoh0, (fun q_ => q_.elim (fun e => .inl ⟨0, .fn 0 64 dbT, by rw [e]; as_aux_lemma => kernel_rfl, rfl⟩) (fun q_ => .inr q_)) hog0⟩, trivial⟩)).put (d := 78) (v := .slice ao245 ((rnTo qy gy).length) c246) (by decide)
     clear hF
     refine hS.opsC 2 [0, 0] [2, 7, 11, 12, 14, 15, 78] fun _ => seg [(79, vi (((rnTo qy gy).length : Nat) : Int)), (80, vi 0)] [(0, none), (1, none), (2, none), (3, none)] [] trivial fun ac wd hS => ?_
     refine list_nil_seq ?_
     refine wp_block ?_
     refine St.loopC (σ := Bool × Int) (fun (x : Bool × Int) => match x with | (x15, x80) => ⟨[(2, [], vi order), (7, [], pt bb6 0), (11, [], .slice ao222 ((rnTo qx gx).length) c223), (12, [], vi (gx : Int)), (14, [], vi (1 * (2 ^ Int.toNat order))), (15, [], vb x15), (78, [], .slice ao245 ((rnTo qy gy).length) c246), (79, [], vi (((rnTo qy gy).length : Nat) : Int)), (80, [], vi x80)], [(1, .fn 0 64 dbT), (bb6, .fn 0 12 (roF [pt b'4 0, vi 1, vi ((N : Nat) : Int), pt b'4 0, vi 0, vi 256, pt b'4 0, vi 0, vi 88, pt b'4 0, vi 257, vi ((N : Nat) : Int)])), (g224, .fn o225 (o225 + (rnTo qx gx).length * 3) (rnV (gtD (rnTo qx gx)) o225)), (g247, .fn o248 (o248 + (rnTo qy gy).length * 3) (rnV (gtD (rnTo qy gy)) o248))], [arR b'4 F32 mo29], (0 ≤ x80 ∧ x80 ≤ ((rnTo qy gy).length : Int)) ∧ (x15 = frB ((rnTo qy gy).take (Int.toNat x80)) order) ∧ True, (rnTo qy gy).length - Int.toNat x80⟩) (false, 0) ⟨(by omega), (by rfl), trivial⟩ hS ?_
     clear hS
     rintro ⟨x15, x80⟩ ⟨j0, j1, -⟩ ac wd hS
     replace j0 : 0 ≤ x80 ∧ x80 ≤ ((rnTo qy gy).length : Int) := j0
     replace j1 : x15 = frB ((rnTo qy gy).take (Int.toNat x80)) order := j1
     have hrl := rnTo_len qy gy
     have hcn9 := hBy.bm.cn
     refine hS.regS [0] [2, 7, 11, 12, 14, 15, 78, 79, 80] fun _ => seg [(81, vb (decide ((x80 : Int) < (((rnTo qy gy).length : Nat) : Int))))] [(0, none), (1, none), (2, none), (3, none)] [] trivial fun ac wd hS => ?_
     refine wp_seq ?_
     refine hS.condC (decide ((x80 : Int) < (((rnTo qy gy).length : Nat) : Int))) (fun hb51o hb51 => ?_) (fun hb51o hb51 => ?_)
     ·
      refine wp_skip ?_
      refine pop_then ?_
      refine wp_seq ?_
      refine wp_block ?_
      obtain rfl : ao245 = some ⟨g247, o248, none⟩ := Or.resolve_left hv249 (by omega)
      refine hS.regS [20, fx 300 (.agg #[vi (((gtD (rnTo qy gy)) (Int.toNat x80)).1), vi (((gtD (rnTo qy gy)) (Int.toNat x80)).2.1), vb (((gtD (rnTo qy gy)) (Int.toNat x80)).2.2)]), 0, 400] [2, 7, 11, 12, 14, 15, 78, 79, 80] fun ν31 => seg [(17, pt (ν31 0) 0)] [(0, none), (1, none), (2, none), (3, none), (4, some ((ν31 0), .cells [vi (((gtD (rnTo qy gy)) (Int.toNat x80)).1), vi (((gtD (rnTo qy gy)) (Int.toNat x80)).2.1), vb (((gtD (rnTo qy gy)) (Int.toNat x80)).2.2)] 41))] [.e (ν31 0), .e (ν31 0), .e (ν31 0), .p ((.agg #[((rnV (gtD (rnTo qy gy)) o248) (o248 + Int.toNat x80 * 3)), ((rnV (gtD (rnTo qy gy)) o248) (o248 + Int.toNat x80 * 3 + 1)), ((rnV (gtD (rnTo qy gy)) o248) (o248 + Int.toNat x80 * 3 + 2))] : Value) = .agg #[vi (((gtD (rnTo qy gy)) (Int.toNat x80)).1), vi (((gtD (rnTo qy gy)) (Int.toNat x80)).2.1), vb (((gtD (rnTo qy gy)) (Int.toNat x80)).2.2)]), .e g247, .p (o248 ≤ o248 + Int.toNat x80 * 3 + 2 ∧ o248 + Int.toNat x80 * 3 + 2 < (o248 + (rnTo qy gy).length * 3)), .e g247, .p (o248 ≤ o248 + Int.toNat x80 * 3 + 1 ∧ o248 + Int.toNat x80 * 3 + 1 < (o248 + (rnTo qy gy).length * 3)), .e g247, .p (o248 ≤ o248 + Int.toNat x80 * 3 ∧ o248 + Int.toNat x80 * 3 < (o248 + (rnTo qy gy).length * 3)), .p ((0 : Int) ≤ x80 ∧ (x80 : Int) < (((rnTo qy gy).length : Nat) : Int))] ⟨(agg3 (rnV_0 (gtD (rnTo qy gy)) o248 (Int.toNat x80)) (rnV_1 (gtD (rnTo qy gy)) o248 (Int.toNat x80)) (rnV_2 (gtD (rnTo qy gy)) o248 (Int.toNat x80))), (by omega), (by omega), (by omega), (by omega), trivial⟩ fun ac wd hS => ?_
      refine hS.regS [0, 0, 3, 403, 3, 3, 3, 403, 3, 3, 83, 80, 0] [2, 7, 11, 12, 14, 17, 78, 79, 80] fun _ => seg [(15, vb (x15 || ((!(((gtD (rnTo qy gy)) (Int.toNat x80)).2.2)) && (decide ((order : Int) ≤ (((gtD (rnTo qy gy)) (Int.toNat x80)).2.1))))))] [(0, none), (1, none), (2, none), (3, none), (4, none)] [.p ((((!(((gtD (rnTo qy gy)) (Int.toNat x80)).2.2)) = true) ∧ (x15 = false) ∧ True) → AllP [((ν31 0) : Nat) = (ν31 0)]), .p (((x15 = false) ∧ True) → AllP [((ν31 0) : Nat) = (ν31 0)])] ⟨(fun ⟨hc0, hc1, _⟩ => by replace hc0 := nrm hc0; replace hc1 := nrm hc1; exact ⟨rfl, trivial⟩), (fun ⟨hc0, _⟩ => by replace hc0 := nrm hc0; exact ⟨rfl, trivial⟩), trivial⟩ fun ac wd hS => ?_
      refine wp_region_seq ?_
      refine hS.opsC 3 [0, 400, 0] [2, 7, 11, 12, 14, 15, 17, 78, 79, 80] fun _ => seg [(98, vb (((gtD (rnTo qy gy)) (Int.toNat x80)).2.2))] [(0, none), (1, none), (2, none), (3, none), (4, none)] [.e (ν31 0)] trivial fun ac wd hS => ?_
      rcases Bool.eq_false_or_eq_true (((gtD (rnTo qy gy)) (Int.toNat x80)).2.2) with hg52o | hg52o
      ·
       have hg52 := nrm hg52o
       have hn9 : (gtD (rnTo qy gy) (Int.toNat x80)).2.2 = true := hg52o
       replace hS := hS.fix 98 (vb true) (congrArg Value.bool hg52o)
       refine hS.opsC 2 [1, 401] [2, 7, 11, 12, 14, 15, 78, 79, 80, 98] fun _ => seg [(99, .slice ao222 ((rnTo qx gx).length) c223), (100, .agg #[vi (((gtD (rnTo qy gy)) (Int.toNat x80)).1), vi (((gtD (rnTo qy gy)) (Int.toNat x80)).2.1), vb (((gtD (rnTo qy gy)) (Int.toNat x80)).2.2)])] [(0, none), (1, none), (2, none), (3, none)] [.t true, .e (ν31 0), .e (ν31 0), .e (ν31 0), .t true] trivial fun ac wd hS => ?_
       refine hS.callG true 29 #[.slice ao222 ((rnTo qx gx).length) c223, .agg #[vi (((gtD (rnTo qy gy)) (Int.toNat x80)).1), vi (((gtD (rnTo qy gy)) (Int.toNat x80)).2.1), vb (((gtD (rnTo qy gy)) (Int.toNat x80)).2.2)]] (cn_runs ao222 c223 g224 o225 (rnTo qx gx) (((gtD (rnTo qy gy)) (Int.toNat x80)).1) (((gtD (rnTo qy gy)) (Int.toNat x80)).2.1) (((gtD (rnTo qy gy)) (Int.toNat x80)).2.2) _ (hS.mem.get 2 g224 (.fn o225 (o225 + (rnTo qx gx).length * 3) (rnV (gtD (rnTo qx gx)) o225))) hv226 (by (have := rnTo_len qx gx; have := i1.bm.cn; omega))) ?_
       rintro _ wd ⟨rfl, hF⟩
       refine ⟨vb (inR (rnTo qx gx) (((gtD (rnTo qy gy)) (Int.toNat x80)).1) (((gtD (rnTo qy gy)) (Int.toNat x80)).2.1) (((gtD (rnTo qy gy)) (Int.toNat x80)).2.2)), rfl, ?_⟩
       replace hS := (hS.to (hS.mem.keep0 hF)).put (d := 101) (v := vb (inR (rnTo qx gx) (((gtD (rnTo qy gy)) (Int.toNat x80)).1) (((gtD (rnTo qy gy)) (Int.toNat x80)).2.1) (((gtD (rnTo qy gy)) (Int.toNat x80)).2.2))) (by decide)
       clear hF
       refine hS.opsC 2 [1, 70] [2, 7, 11, 12, 14, 15, 78, 79, 80] fun _ => seg [(103, vb (!(inR (rnTo qx gx) (((gtD (rnTo qy gy)) (Int.toNat x80)).1) (((gtD (rnTo qy gy)) (Int.toNat x80)).2.1) (((gtD (rnTo qy gy)) (Int.toNat x80)).2.2))))] [(0, none), (1, none), (2, none), (3, none)] [.t true, .t true] trivial fun ac wd hS => ?_
       refine list_nil_seq ?_
       refine hS.condK (!(inR (rnTo qx gx) (((gtD (rnTo qy gy)) (Int.toNat x80)).1) (((gtD (rnTo qy gy)) (Int.toNat x80)).2.1) (((gtD (rnTo qy gy)) (Int.toNat x80)).2.2))) false (by (rw [tk_in hB1 hTy (by omega) hn9]; rfl)) ?_
       show Code.wp _ _ _ _ _
       refine wp_skip ?_
       refine pop_block ?_
       refine pop_then ?_
       refine hS.regC [20, 0] [2, 7, 11, 12, 14, 15, 78, 79] fun _ => seg [(80, vi (x80 + 1))] [(0, none), (1, none), (2, none), (3, none)] [.p (fit .i64 (x80 + 1))] ⟨fit_i64 (by omega), trivial⟩ fun ac wd hS => ?_
       exact pop_then (hS.next ((x15 || ((!(((gtD (rnTo qy gy)) (Int.toNat x80)).2.2)) && (decide ((order : Int) ≤ (((gtD (rnTo qy gy)) (Int.toNat x80)).2.1))))), (x80 + 1)) ⟨(by first | omega | assumption | (simp; done) | (simp; omega)), (by exact frB_st j1 j0.1 (by omega)), trivial⟩ (by dsimp only; omega))
      ·
       have hg52 := nrm hg52o
       replace hS := hS.fix 98 (vb false) (congrArg Value.bool hg52o)
       refine hS.opsC 5 [2, 2, 2, 2, 60] [2, 7, 11, 12, 14, 15, 78, 79, 80] fun _ => seg [(103, vb false)] [(0, none), (1, none), (2, none), (3, none)] [.t false, .t false, .t false, .t false, .t false] trivial fun ac wd hS => ?_
       refine list_nil_seq ?_
       refine hS.condF ?_
       refine wp_skip ?_
       refine pop_block ?_
       refine pop_then ?_
       refine hS.regC [20, 0] [2, 7, 11, 12, 14, 15, 78, 79] fun _ => seg [(80, vi (x80 + 1))] [(0, none), (1, none), (2, none), (3, none)] [.p (fit .i64 (x80 + 1))] ⟨fit_i64 (by omega), trivial⟩ fun ac wd hS => ?_
       exact pop_then (hS.next ((x15 || ((!(((gtD (rnTo qy gy)) (Int.toNat x80)).2.2)) && (decide ((order : Int) ≤ (((gtD (rnTo qy gy)) (Int.toNat x80)).2.1))))), (x80 + 1)) ⟨(by first | omega | assumption | (simp; done) | (simp; omega)), (by exact frB_st j1 j0.1 (by omega)), trivial⟩ (by dsimp only; omega))
     ·
      refine wp_exit ?_
      refine pop_then_exit ?_
      refine pop_then_exit ?_
      refine pop_block_hit ?_
      refine pop_then ?_
      have e9 : x15 = true := by rw [j1, List.take_of_length_le (by omega)]; exact hfr9
      rw [e9] at hS
      refine wp_region_seq ?_
      refine hS.opsC 2 [0, 0] [7, 12, 14] fun _ => seg [(106, vb true)] [(0, none), (1, none)] [] trivial fun ac wd hS => ?_
      refine hS.opsC 1 [1] [7, 12, 14, 106] fun _ => seg [(107, pt bb6 0)] [(0, none), (1, none)] [.t true] trivial fun ac wd hS => ?_
      refine hS.callG true 24 #[pt bb6 0] (bu_Grown b'4 F32 mo29 bb6 N gy ry qy Qy _ (hS.mem.res 0) (hS.mem.get 1 bb6 (.fn 0 12 (roF [pt b'4 0, vi 1, vi ((N : Nat) : Int), pt b'4 0, vi 0, vi 256, pt b'4 0, vi 0, vi 88, pt b'4 0, vi 257, vi ((N : Nat) : Int)]))) (by first | exact i1 | exact hBy)) ?_
      rintro _ wd ⟨rfl, hF⟩
      refine ⟨vi (gy : Int), rfl, ?_⟩
      replace hS := (hS.to (hS.mem.keep0 hF)).put (d := 108) (v := vi (gy : Int)) (by decide)
      clear hF
      refine hS.opsC 5 [1, 21, 1, 70, 0] [7, 12, 14] fun _ => seg [(113, vb ((((gy : Int) % (1 * (2 ^ Int.toNat order))) : Int) == 0))] [(0, none), (1, none)] [.t true, .t true, .t true, .p (((1 * (2 ^ Int.toNat order)) : Int) ≠ 0 ∧ Int.tmod (gy : Int) (1 * (2 ^ Int.toNat order)) = (gy : Int) % (1 * (2 ^ Int.toNat order))), .t true] ⟨rem2 (by omega) (by omega), trivial⟩ fun ac wd hS => ?_
      have hg53o : ((((gy : Int) % (1 * (2 ^ Int.toNat order))) : Int) == 0) = true := by (rw [hw9.2.2.1]; rfl)
      replace hS := hS.fix 113 (vb true) (congrArg Value.bool hg53o)
      refine hS.opsC 1 [1] [7, 12, 14, 113] fun _ => seg [(114, pt bb6 0)] [(0, none), (1, none)] [.t true] trivial fun ac wd hS => ?_
      refine hS.callG true 24 #[pt bb6 0] (bu_Grown b'4 F32 mo29 bb6 N gy ry qy Qy _ (hS.mem.res 0) (hS.mem.get 1 bb6 (.fn 0 12 (roF [pt b'4 0, vi 1, vi ((N : Nat) : Int), pt b'4 0, vi 0, vi 256, pt b'4 0, vi 0, vi 88, pt b'4 0, vi 257, vi ((N : Nat) : Int)]))) (by first | exact i1 | exact hBy)) ?_
      rintro _ wd ⟨rfl, hF⟩
      refine ⟨vi (gy : Int), rfl, ?_⟩
      replace hS := (hS.to (hS.mem.keep0 hF)).put (d := 115) (v := vi (gy : Int)) (by decide)
      clear hF
      refine hS.opsC 6 [1, 21, 1, 1, 70, 0] [7, 12, 14] fun _ => seg [(121, vb (decide (((1 * (2 ^ Int.toNat order)) : Int) ≤ ((gy : Int) - (gx : Int)))))] [(0, none), (1, none)] [.t true, .t true, .t true, .t true, .p (fit .i64 ((gy : Int) - (gx : Int))), .t true] ⟨fit_i64 (by omega), trivial⟩ fun ac wd hS => ?_
      have hg54o : (decide (((1 * (2 ^ Int.toNat order)) : Int) ≤ ((gy : Int) - (gx : Int)))) = true := by exact decide_eq_true (by omega)
      replace hS := hS.fix 121 (vb true) (congrArg Value.bool hg54o)
      refine hS.opsC 1 [1] [7, 12, 14, 121] fun _ => seg [(122, pt bb6 0)] [(0, none), (1, none)] [.t true] trivial fun ac wd hS => ?_
      refine hS.callG true 24 #[pt bb6 0] (bu_Grown b'4 F32 mo29 bb6 N gy ry qy Qy _ (hS.mem.res 0) (hS.mem.get 1 bb6 (.fn 0 12 (roF [pt b'4 0, vi 1, vi ((N : Nat) : Int), pt b'4 0, vi 0, vi 256, pt b'4 0, vi 0, vi 88, pt b'4 0, vi 257, vi ((N : Nat) : Int)]))) (by first | exact i1 | exact hBy)) ?_
      rintro _ wd ⟨rfl, hF⟩
      refine ⟨vi (gy : Int), rfl, ?_⟩
      replace hS := (hS.to (hS.mem.keep0 hF)).put (d := 123) (v := vi (gy : Int)) (by decide)
      clear hF
      refine hS.opsC 7 [1, 21, 1, 21, 1, 70, 0] [7] fun _ => seg [(130, vb (decide ((((gy : Int) - (gx : Int)) : Int) < (2 * (1 * (2 ^ Int.toNat order))))))] [(0, none), (1, none)] [.t true, .t true, .t true, .p (fit .i64 (2 * (1 * (2 ^ Int.toNat order)))), .t true, .t true, .p (fit .i64 ((gy : Int) - (gx : Int))), .t true] ⟨fit_i64 (by omega), fit_i64 (by omega), trivial⟩ fun ac wd hS => ?_
      have hg55o : (decide ((((gy : Int) - (gx : Int)) : Int) < (2 * (1 * (2 ^ Int.toNat order))))) = true := by exact decide_eq_true (by omega)
      replace hS := hS.fix 130 (vb true) (congrArg Value.bool hg55o)
      refine hS.opsC 4 [1, 1, 1, 101] [7, 130] fun _ => seg [(134, pt b'4 0)] [(0, none), (1, none)] [.t true, .e bb6, .p (0 ≤ 0 ∧ 0 < 12), .t true, .t true, .t true] ⟨(by decide), trivial⟩ fun ac wd hS => ?_
      refine hS.callG true 27 #[pt b'4 0] (ar_Committed b'4 F32 mo29 _ (hS.mem.res 0) ) ?_
      rintro _ wd ⟨rfl, hF⟩
      refine ⟨vi ((countTo mo29.com mo29.cap : Nat) : Int), rfl, ?_⟩
      replace hS := (hS.to (hS.mem.keep0 hF)).put (d := 135) (v := vi ((countTo mo29.com mo29.cap : Nat) : Int)) (by decide)
      clear hF
      refine hS.opsC 1 [1] [7, 130, 135] fun _ => seg [(136, pt bb6 0)] [(0, none), (1, none)] [.t true] trivial fun ac wd hS => ?_
      refine hS.callG true 16 #[pt bb6 0] (bu_Base bb6 b'4 N _ (hS.mem.get 1 bb6 (.fn 0 12 (roF [pt b'4 0, vi 1, vi ((N : Nat) : Int), pt b'4 0, vi 0, vi 256, pt b'4 0, vi 0, vi 88, pt b'4 0, vi 257, vi ((N : Nat) : Int)]))) ) ?_
      rintro _ wd ⟨rfl, hF⟩
      refine ⟨vi 1, rfl, ?_⟩
      replace hS := (hS.to (hS.mem.keep0 hF)).put (d := 137) (v := vi 1) (by decide)
      clear hF
      refine hS.opsC 1 [1] [130, 135, 137] fun _ => seg [(138, pt bb6 0)] [(0, none), (1, none)] [.t true] trivial fun ac wd hS => ?_
      refine hS.callG true 24 #[pt bb6 0] (bu_Grown b'4 F32 mo29 bb6 N gy ry qy Qy _ (hS.mem.res 0) (hS.mem.get 1 bb6 (.fn 0 12 (roF [pt b'4 0, vi 1, vi ((N : Nat) : Int), pt b'4 0, vi 0, vi 256, pt b'4 0, vi 0, vi 88, pt b'4 0, vi 257, vi ((N : Nat) : Int)]))) (by first | exact i1 | exact hBy)) ?_
      rintro _ wd ⟨rfl, hF⟩
      refine ⟨vi (gy : Int), rfl, ?_⟩
      replace hS := (hS.to (hS.mem.keep0 hF)).put (d := 139) (v := vi (gy : Int)) (by decide)
      clear hF
      refine hS.opsC 4 [21, 1, 70, 0] [] fun _ => seg [(6, vb ((((countTo mo29.com mo29.cap : Nat) : Int) : Int) == (1 + (gy : Int))))] [(0, none)] [.t true, .t true, .t true, .p (fit .i64 (1 + (gy : Int)))] ⟨fit_i64 (by omega), trivial⟩ fun ac wd hS => ?_
      refine list_nil_seq ?_
      refine wp_ret ?_
      refine St.retC 0 hS (vb ((((countTo mo29.com mo29.cap : Nat) : Int) : Int) == (1 + (gy : Int)))) [] trivial fun hw => ?_
      refine ⟨retd (vbool ?_), hw.fr0⟩
      all_goals (first | rfl | (rw [eb9]; exact beq_self_eq_true _) | (rw [hBy.cntC]; exact beq_iff_eq.2 (by omega)) | (simp; done))

end Go.Proofs.YtojjkjedcafpeaaGreatDoor.K
