/-
  Walks, printed by w2.py.
-/
import Derived.Test.YtojjkjedcafpeaaGreatDoorFi
import Derived.Test.YtojjkjedcafpeaaGreatDoorM6
import Derived.Test.YtojjkjedcafpeaaGreatDoorLj
import Derived.Test.YtojjkjedcafpeaaGreatDoorProg
namespace Go.Proofs.YtojjkjedcafpeaaGreatDoor.K
set_option linter.unusedVariables false
set_option linter.unusedSimpArgs false

set_option maxRecDepth 100000 in
set_option maxHeartbeats 1000000 in
theorem bu_Grow_nil (k : Int) (w : World) :
    Calls Tryz.prog 23 #[pnil, vi k] w fun e w' => e = .returned (vi 1) ∧ Fr w w' no no := by
 refine enter (args := [pnil, vi k]) (D := no) (A := []) Tryz.func23 rfl 90 rfl [] (WS.startL trivial) fun ac hS => ?_
 refine hS.regS [0] [0, 1] fun _ => seg [] [] [] trivial fun ac wd hS => ?_
 refine wp_seq ?_
 refine wp_block ?_
 refine hS.regS [0, 0, 0] [0, 1] fun _ => seg [(9, vb true)] [] [] trivial fun ac wd hS => ?_
 refine hS.condT ?_
 refine hS.regS [0] [] fun _ => seg [(4, vi 1)] [] [] trivial fun ac wd hS => ?_
 refine wp_ret ?_
 refine pop_block_ret ?_
 refine pop_then_ret ?_
 refine St.retC 0 hS (vi 1) [] trivial fun hw => ?_
 refine ⟨retd rfl, hw.fr0⟩

set_option maxRecDepth 100000 in
set_option maxHeartbeats 1000000 in
theorem bu_Shrink_nil (w : World) :
    Calls Tryz.prog 25 #[pnil] w fun e w' => e = .returned (vi 0) ∧ Fr w w' no no := by
 refine enter (args := [pnil]) (D := no) (A := []) Tryz.func25 rfl 76 rfl [] (WS.startL trivial) fun ac hS => ?_
 refine hS.regS [0] [0] fun _ => seg [] [] [] trivial fun ac wd hS => ?_
 refine wp_region_seq ?_
 refine hS.opsC 1 [0] [0] fun _ => seg [(7, pnil)] [] [] trivial fun ac wd hS => ?_
 refine hS.call0 24 #[pnil] 8 (bu_Grown_nil  _  ) fun ac wd hS => ?_
 refine hS.opsC 1 [0] [0] fun _ => seg [(3, vi 0)] [] [] trivial fun ac wd hS => ?_
 refine list_nil_seq ?_
 refine wp_seq ?_
 refine wp_block ?_
 refine wp_loop_rounds 1 ?_
 refine rounds_in ?_
 refine wp_seq ?_
 refine wp_region_seq ?_
 refine hS.opsC 1 [0] [0, 3] fun _ => seg [(9, pnil)] [] [] trivial fun ac wd hS => ?_
 refine hS.call0 24 #[pnil] 10 (bu_Grown_nil  _  ) fun ac wd hS => ?_
 refine hS.opsC 1 [0] [0, 3] fun _ => seg [(11, vb false)] [] [] trivial fun ac wd hS => ?_
 refine list_nil_seq ?_
 refine hS.condF ?_
 refine wp_exit ?_
 refine pop_then_exit ?_
 refine pop_then_exit ?_
 refine pop_block_hit ?_
 refine pop_then ?_
 refine wp_region_seq ?_
 refine hS.opsC 2 [0, 0] [] fun _ => seg [(72, vi 0), (73, pnil)] [] [] trivial fun ac wd hS => ?_
 refine hS.call0 24 #[pnil] 74 (bu_Grown_nil  _  ) fun ac wd hS => ?_
 refine hS.opsC 2 [0, 0] [] fun _ => seg [(2, vi 0)] [] [] trivial fun ac wd hS => ?_
 refine list_nil_seq ?_
 refine wp_ret ?_
 refine St.retC 0 hS (vi 0) [] trivial fun hw => ?_
 refine ⟨retd rfl, hw.fr0⟩

set_option maxRecDepth 100000 in
set_option maxHeartbeats 1000000 in
theorem bu_Runs_nil (w : World) :
    Calls Tryz.prog 17 #[pnil] w fun e w' => e = .returned (vnil) ∧ Fr w w' no no := by
 refine enter (args := [pnil]) (D := no) (A := []) Tryz.func17 rfl 39 rfl [] (WS.startL trivial) fun ac hS => ?_
 refine hS.regS [0] [0] fun _ => seg [] [] [] trivial fun ac wd hS => ?_
 refine hS.regS [0] [0] fun _ => seg [(3, vnil)] [] [] trivial fun ac wd hS => ?_
 refine wp_seq ?_
 refine hS.regS [0] [0, 3] fun _ => seg [(4, vi 0)] [] [] trivial fun ac wd hS => ?_
 refine wp_block ?_
 refine wp_loop_rounds 1 ?_
 refine rounds_in ?_
 refine wp_seq ?_
 refine wp_region_seq ?_
 refine hS.opsC 2 [0, 0] [0, 3, 4] fun _ => seg [(7, vi 0), (8, pnil)] [] [] trivial fun ac wd hS => ?_
 refine hS.call0 24 #[pnil] 9 (bu_Grown_nil  _  ) fun ac wd hS => ?_
 refine hS.opsC 1 [0] [0, 3, 4] fun _ => seg [(10, vb false)] [] [] trivial fun ac wd hS => ?_
 refine list_nil_seq ?_
 refine hS.condF ?_
 refine wp_exit ?_
 refine pop_then_exit ?_
 refine pop_then_exit ?_
 refine pop_block_hit ?_
 refine pop_then ?_
 refine hS.regS [0, 0] [] fun _ => seg [(2, vnil)] [] [] trivial fun ac wd hS => ?_
 refine wp_ret ?_
 refine St.retC 0 hS (vnil) [] trivial fun hw => ?_
 refine ⟨retd rfl, hw.fr0⟩

set_option maxRecDepth 100000 in
set_option maxHeartbeats 1000000 in
theorem law08_BuddyWrong (ao7 : Option Addr) (c7 : Nat) (g7 : Nat) (o7 : Nat) (l : List (Int × Int × Int)) (at_ : Int) (w : World) (hh0 : HE.holds w 1 (.fn 0 64 dbT)) (hh1 : HE.holds w g7 (.fn o7 (o7 + l.length * 3) (a8V (gtD l) o7))) (hv7 : (l.length = 0 ∨ ao7 = some ⟨g7, o7, none⟩)) (hAl : ∀ i, i < l.length → rg_a8V (gtD l i)) (hat : -9223372036854775808 ≤ at_ ∧ at_ ≤ 9223372036854775807) :
    Calls Tryz.prog 3 #[.slice ao7 l.length c7, vi at_] w fun e w' => e = .returned (vb true) ∧ Fr w w' no no := by
 have hF9 : FreshA (AM.new 40) 39 (-1) := fresh_new (by decide) (by decide)
 obtain ⟨hB9, hfl9⟩ := hF9.bdy (by decide) (by decide)
 refine enter (args := [.slice ao7 l.length c7, vi at_]) (D := no) (A := []) Tryz.func3 rfl 174 rfl [(1, .fn 0 64 dbT), (g7, .fn o7 (o7 + l.length * 3) (a8V (gtD l) o7))] (WS.startL ⟨⟨rfl, hh0⟩, ⟨rfl, hh1⟩, trivial⟩) fun ac hS => ?_
 refine hS.regS [0] [0, 1] fun _ => seg [] [(0, none), (1, none)] [] trivial fun ac wd hS => ?_
 refine wp_seq ?_
 refine wp_region_seq ?_
 refine hS.call0 12 #[] 25 (law08_awake  _ (hS.mem.get 0 1 (.fn 0 64 dbT)) ) fun ac wd hS => ?_
 refine hS.opsC 1 [0] [0, 1] fun _ => seg [(26, vb false)] [(0, none), (1, none)] [] trivial fun ac wd hS => ?_
 refine list_nil_seq ?_
 refine hS.condF ?_
 refine wp_skip ?_
 refine pop_then ?_
 refine wp_seq ?_
 refine hS.regS [0, 0, 0] [0, 1] fun _ => seg [(29, vb (decide ((20 : Int) < ((l.length : Nat) : Int))))] [(0, none), (1, none)] [] trivial fun ac wd hS => ?_
 refine hS.condC (decide ((20 : Int) < ((l.length : Nat) : Int))) (fun hb1o hb1 => ?_) (fun hb1o hb1 => ?_)
 ·
  refine hS.regS [0] [] fun _ => seg [(4, vb true)] [(0, none)] [] trivial fun ac wd hS => ?_
  refine wp_ret ?_
  refine pop_then_ret ?_
  refine St.retC 0 hS (vb true) [] trivial fun hw => ?_
  refine ⟨retd rfl, hw.fr0⟩
 ·
  refine wp_skip ?_
  refine pop_then ?_
  refine wp_region_seq ?_
  refine hS.callC 14 #[vi 40] (ar_New 40 _  ) ?_
  rintro _ wd ⟨b'2, F3, rfl, hN, hF⟩
  refine ⟨pt b'2 0, rfl, ?_⟩
  replace hS := (hS.to (hS.mem.newA hN hF)).put (d := 31) (v := pt b'2 0) (by decide)
  clear hF
  refine hS.callC 13 #[pt b'2 0] (bu_New_ok b'2 F3 (AM.new 40) 39 (-1) _ (hS.mem.res 0) (by exact hF9) (by decide) (by decide)) ?_
  rintro _ wd ⟨bb4, F5, rfl, hA, hog0, hoh0, hnf0, hF⟩
  have ho6 : w.heap.size ≤ bb4 := Nat.le_trans hS.mem.fr.size hog0
  refine ⟨.tuple #[pt bb4 0, vi 0], rfl, ?_⟩
  replace hS := (hS.to (hS.mem.outAT 0 rfl hA hF (g := bb4) (z := .fn 0 12 (roF [pt b'2 0, vi 1, vi ((39 : Nat) : Int), pt b'2 0, vi 0, vi 256, pt b'2 0, vi 0, vi 88, pt b'2 0, vi 257, vi ((39 : Nat) : Int)])) rfl hoh0 (.inr hog0) hnf0)).put (d := 32) (v := .tuple #[pt bb4 0, vi 0]) (by decide)
  clear hF
  refine hS.opsC 5 [0, 0, 0, 0, 0] [0, 1] fun _ => seg [(5, pt bb4 0), (6, vi 0)] [(0, none), (1, none), (2, none)] [] trivial fun ac wd hS => ?_
  refine list_nil_seq ?_
  refine wp_seq ?_
  refine hS.regS [0, 0] [0, 1, 5] fun _ => seg [(36, vb false)] [(0, none), (1, none), (2, none)] [] trivial fun ac wd hS => ?_
  refine hS.condF ?_
  refine wp_skip ?_
  refine pop_then ?_
  refine wp_seq ?_
  refine hS.regS [0, 0, 0] [1, 5] fun _ => seg [(37, .slice ao7 l.length c7), (38, vi ((l.length : Nat) : Int)), (39, vi 0)] [(0, none), (1, none), (2, none)] [] trivial fun ac wd hS => ?_
  refine wp_block ?_
  refine St.loopC (σ := Int × (Nat → Prop) × AM × Nat × Int × List Tg × (Nat → List Int)) (fun (x : Int × (Nat → Prop) × AM × Nat × Int × List Tg × (Nat → List Int)) => match x with | (x39, Fx, mx, gx, rx, qx, Qx) => ⟨[(1, [], vi at_), (5, [], pt bb4 0), (37, [], .slice ao7 l.length c7), (38, [], vi ((l.length : Nat) : Int)), (39, [], vi x39)], [(1, .fn 0 64 dbT), (g7, .fn o7 (o7 + l.length * 3) (a8V (gtD l) o7)), (bb4, .fn 0 12 (roF [pt b'2 0, vi 1, vi ((39 : Nat) : Int), pt b'2 0, vi 0, vi 256, pt b'2 0, vi 0, vi 88, pt b'2 0, vi 257, vi ((39 : Nat) : Int)]))], [arR b'2 Fx mx], (0 ≤ x39 ∧ x39 ≤ (l.length : Int)) ∧ (Bdy mx 39 gx rx qx Qx) ∧ (FullG gx qx) ∧ True, l.length - Int.toNat x39⟩) (0, F5, (vstM (comM (AM.new 40) 0 1) 0 256 104 8 6432341300767115597), 0, (-1), (List.replicate 39 (0, 0)), (fun _ => [])) ⟨(by omega), (by exact hB9), (by exact hfl9), trivial⟩ hS ?_
  clear hS
  rintro ⟨x39, Fx, mx, gx, rx, qx, Qx⟩ ⟨i0, i1, i2, -⟩ ac wd hS
  replace i0 : 0 ≤ x39 ∧ x39 ≤ (l.length : Int) := i0
  replace i1 : Bdy mx 39 gx rx qx Qx := i1
  replace i2 : FullG gx qx := i2
  refine hS.regS [0] [1, 5, 37, 38, 39] fun _ => seg [(40, vb (decide ((x39 : Int) < ((l.length : Nat) : Int))))] [(0, none), (1, none), (2, none)] [] trivial fun ac wd hS => ?_
  refine wp_seq ?_
  refine hS.condC (decide ((x39 : Int) < ((l.length : Nat) : Int))) (fun hb7o hb7 => ?_) (fun hb7o hb7 => ?_)
  ·
   refine wp_skip ?_
   refine pop_then ?_
   refine wp_seq ?_
   refine wp_block ?_
   obtain rfl : ao7 = some ⟨g7, o7, none⟩ := Or.resolve_left hv7 (by omega)
   refine hS.regS [20, fx 100 (.agg #[v8 (((gtD l) (Int.toNat x39)).1), vi (((gtD l) (Int.toNat x39)).2.1), vi (((gtD l) (Int.toNat x39)).2.2)]), 0, 300] [1, 5, 37, 38, 39] fun ν9 => seg [(8, pt (ν9 0) 0)] [(0, none), (1, none), (2, none), (3, some ((ν9 0), .cells [v8 (((gtD l) (Int.toNat x39)).1), vi (((gtD l) (Int.toNat x39)).2.1), vi (((gtD l) (Int.toNat x39)).2.2)] 31))] [.e (ν9 0), .e (ν9 0), .e (ν9 0), .p ((.agg #[((a8V (gtD l) o7) (o7 + Int.toNat x39 * 3)), ((a8V (gtD l) o7) (o7 + Int.toNat x39 * 3 + 1)), ((a8V (gtD l) o7) (o7 + Int.toNat x39 * 3 + 2))] : Value) = .agg #[v8 (((gtD l) (Int.toNat x39)).1), vi (((gtD l) (Int.toNat x39)).2.1), vi (((gtD l) (Int.toNat x39)).2.2)]), .e g7, .p (o7 ≤ o7 + Int.toNat x39 * 3 + 2 ∧ o7 + Int.toNat x39 * 3 + 2 < (o7 + l.length * 3)), .e g7, .p (o7 ≤ o7 + Int.toNat x39 * 3 + 1 ∧ o7 + Int.toNat x39 * 3 + 1 < (o7 + l.length * 3)), .e g7, .p (o7 ≤ o7 + Int.toNat x39 * 3 ∧ o7 + Int.toNat x39 * 3 < (o7 + l.length * 3)), .p ((0 : Int) ≤ x39 ∧ (x39 : Int) < ((l.length : Nat) : Int))] ⟨(agg3 (a8V_0 (gtD l) o7 (Int.toNat x39)) (a8V_1 (gtD l) o7 (Int.toNat x39)) (a8V_2 (gtD l) o7 (Int.toNat x39))), (by omega), (by omega), (by omega), (by omega), trivial⟩ fun ac wd hS => ?_
   refine St.ordBegin [(0, 1), (1, 1), (4, 1), (2, 0), (3, 1), (5, 0)] [(1, .fn 0 64 dbT), (g7, .fn o7 (o7 + l.length * 3) (a8V (gtD l) o7)), (bb4, .fn 0 12 (roF [pt b'2 0, vi 1, vi ((39 : Nat) : Int), pt b'2 0, vi 0, vi 256, pt b'2 0, vi 0, vi 88, pt b'2 0, vi 257, vi ((39 : Nat) : Int)])), ((ν9 0), .cells [v8 (((gtD l) (Int.toNat x39)).1), vi (((gtD l) (Int.toNat x39)).2.1), vi (((gtD l) (Int.toNat x39)).2.2)] 31)] [0, 1, 2, 3] hS fun wd hS => ?_
   have hap := hS.mem.pairs (Hf := [(1, .fn 0 64 dbT), (g7, .fn o7 (o7 + l.length * 3) (a8V (gtD l) o7)), (bb4, .fn 0 12 (roF [pt b'2 0, vi 1, vi ((39 : Nat) : Int), pt b'2 0, vi 0, vi 256, pt b'2 0, vi 0, vi 88, pt b'2 0, vi 257, vi ((39 : Nat) : Int)])), ((ν9 0), .cells [v8 (((gtD l) (Int.toNat x39)).1), vi (((gtD l) (Int.toNat x39)).2.1), vi (((gtD l) (Int.toNat x39)).2.2)] 31)]) (l := [0, 1, 2, 3])
   refine St.ordF [0, 0, 300] [0, 1, 4] [1, 5, 37, 38, 39] (rest := [(2, 0), (3, 1), (5, 0)]) hS hap <| segF [(43, pt bb4 0), (44, pt bb4 0), (47, .agg #[v8 (((gtD l) (Int.toNat x39)).1), vi (((gtD l) (Int.toNat x39)).2.1), vi (((gtD l) (Int.toNat x39)).2.2)])] [.e (ν9 0), .e (ν9 0), .e (ν9 0)] trivial fun ac hS => ?_
   refine hS.ordC 2 16 #[pt bb4 0] (bu_Base bb4 b'2 39 _ (hS.mem.get 2 bb4 (.fn 0 12 (roF [pt b'2 0, vi 1, vi ((39 : Nat) : Int), pt b'2 0, vi 0, vi 256, pt b'2 0, vi 0, vi 88, pt b'2 0, vi 257, vi ((39 : Nat) : Int)]))) ) ?_
   rintro _ wd ⟨rfl, hF⟩
   refine ⟨vi 1, rfl, ?_⟩
   replace hS := (hS.to (hS.mem.keep0 hF)).put (d := 45) (v := vi 1) (by decide)
   clear hF
   refine hS.ordV (l := [0, 1, 2, 3]) ?_
   refine St.ordF [0] [3] [1, 5, 37, 38, 39, 43, 47] (rest := [(5, 0)]) hS hap <| segF [(46, .agg #[vi 1, vi 0, vi 0, vi 0, vnil])] [] trivial fun ac hS => ?_
   refine hS.ordC 5 15 #[pt bb4 0, .agg #[vi 1, vi 0, vi 0, vi 0, vnil], .agg #[v8 (((gtD l) (Int.toNat x39)).1), vi (((gtD l) (Int.toNat x39)).2.1), vi (((gtD l) (Int.toNat x39)).2.2)]] (l08_Do0 b'2 Fx mx bb4 39 (((gtD l) (Int.toNat x39)).1) (((gtD l) (Int.toNat x39)).2.1) (((gtD l) (Int.toNat x39)).2.2) gx rx qx Qx _ (hS.mem.res 0) (hS.mem.get 0 1 (.fn 0 64 dbT)) (hS.mem.get 2 bb4 (.fn 0 12 (roF [pt b'2 0, vi 1, vi ((39 : Nat) : Int), pt b'2 0, vi 0, vi 256, pt b'2 0, vi 0, vi 88, pt b'2 0, vi 257, vi ((39 : Nat) : Int)]))) (hS.mem.nF (g := 1) (r := arR b'2 Fx mx) 0 0) (hS.mem.nF (g := bb4) (r := arR b'2 Fx mx) 2 0) (by exact i1) (by exact i2) (by (have hac := hAl _ (show Int.toNat x39 < l.length by omega); exact hac.1)) (by (have hac := hAl _ (show Int.toNat x39 < l.length by omega); exact hac.2.2.1.2))) ?_
   rintro _ wd ⟨g28, r29, mo10, q211, Q212, dq13, db14, F15, rfl, hB216, hF217, hS218, hK219, hA, hF⟩
   refine ⟨.tuple #[dq13, vb db14], rfl, ?_⟩
   replace hS := (hS.to (hS.mem.stepA 0 rfl hA hF)).put (d := 48) (v := .tuple #[dq13, vb db14]) (by decide)
   clear hF
   refine hS.ordV (l := [0, 1, 2, 3]) ?_
   refine ord_nil ?_
   refine pop_block ?_
   refine pop_then ?_
   refine hS.regC [20, 0] [1, 5, 37, 38] fun _ => seg [(39, vi (x39 + 1))] [(0, none), (1, none), (2, none)] [.p (fit .i64 (x39 + 1))] ⟨fit_i64 (by omega), trivial⟩ fun ac wd hS => ?_
   exact pop_then (hS.next ((x39 + 1), F15, mo10, g28, r29, q211, Q212) ⟨(by first | omega | assumption | (simp; done) | (simp; omega)), (by assumption), (by assumption), trivial⟩ (by dsimp only; omega))
  ·
   refine wp_exit ?_
   refine pop_then_exit ?_
   refine pop_then_exit ?_
   refine pop_block_hit ?_
   refine pop_then ?_
   refine hS.regS [0] [1, 5] fun _ => seg [(9, vb false)] [(0, none), (2, none)] [] trivial fun ac wd hS => ?_
   refine wp_region_seq ?_
   refine hS.opsC 1 [0] [1, 5, 9] fun _ => seg [(50, pt bb4 0)] [(0, none), (1, none)] [] trivial fun ac wd hS => ?_
   refine hS.callC 17 #[pt bb4 0] (bu_Runs b'2 Fx mx bb4 39 gx rx qx Qx _ (hS.mem.res 0) (hS.mem.get 0 1 (.fn 0 64 dbT)) (hS.mem.get 1 bb4 (.fn 0 12 (roF [pt b'2 0, vi 1, vi ((39 : Nat) : Int), pt b'2 0, vi 0, vi 256, pt b'2 0, vi 0, vi 88, pt b'2 0, vi 257, vi ((39 : Nat) : Int)]))) (by first | exact i1 | assumption) (by exact i2)) ?_
   rintro _ wd ⟨ao220, c221, g222, o223, rfl, hv224, hog0, hoh0, hF⟩
   have ho25 : g222 = 1 ∨ w.heap.size ≤ g222 := by have := hS.mem.fr.size; have : w.heap.size ≤ _ := this; omega
   refine ⟨.slice ao220 ((rnTo qx gx).length) c221, rfl, ?_⟩
   replace hS := (hS.to (hS.mem.outs hF [(g222, .fn o223 (o223 + (rnTo qx gx).length * 3) (rnV (gtD (rnTo qx gx)) o223))] ⟨⟨rfl, hoh0, (fun q_ => q_.elim (fun e => .inl ⟨0, .fn 0 64 dbT, by rw [e]; as_aux_lemma => kernel_rfl, rfl⟩) (fun q_ => .inr q_)) hog0⟩, trivial⟩)).put (d := 51) (v := .slice ao220 ((rnTo qx gx).length) c221) (by decide)
   clear hF
   refine hS.opsC 1 [0] [1, 5, 9] fun _ => seg [(10, .slice ao220 ((rnTo qx gx).length) c221)] [(0, none), (1, none), (2, none)] [] trivial fun ac wd hS => ?_
   refine list_nil_seq ?_
   refine wp_seq ?_
   refine hS.regS [0, 0, 0] [1, 5, 9, 10] fun _ => seg [(52, .slice ao220 ((rnTo qx gx).length) c221), (53, vi (((rnTo qx gx).length : Nat) : Int)), (54, vi 0)] [(0, none), (1, none), (2, none)] [] trivial fun ac wd hS => ?_
   refine wp_block ?_
   refine St.loopC (σ := Bool × Int) (fun (x : Bool × Int) => match x with | (x9, x54) => ⟨[(1, [], vi at_), (5, [], pt bb4 0), (9, [], vb x9), (10, [], .slice ao220 ((rnTo qx gx).length) c221), (52, [], .slice ao220 ((rnTo qx gx).length) c221), (53, [], vi (((rnTo qx gx).length : Nat) : Int)), (54, [], vi x54)], [(1, .fn 0 64 dbT), (bb4, .fn 0 12 (roF [pt b'2 0, vi 1, vi ((39 : Nat) : Int), pt b'2 0, vi 0, vi 256, pt b'2 0, vi 0, vi 88, pt b'2 0, vi 257, vi ((39 : Nat) : Int)])), (g222, .fn o223 (o223 + (rnTo qx gx).length * 3) (rnV (gtD (rnTo qx gx)) o223))], [arR b'2 Fx mx], (0 ≤ x54 ∧ x54 ≤ ((rnTo qx gx).length : Int)) ∧ (x9 = thB ((rnTo qx gx).take (Int.toNat x54)) at_) ∧ True, (rnTo qx gx).length - Int.toNat x54⟩) (false, 0) ⟨(by omega), (by rfl), trivial⟩ hS ?_
   clear hS
   rintro ⟨x9, x54⟩ ⟨j0, j1, -⟩ ac wd hS
   replace j0 : 0 ≤ x54 ∧ x54 ≤ ((rnTo qx gx).length : Int) := j0
   replace j1 : x9 = thB ((rnTo qx gx).take (Int.toNat x54)) at_ := j1
   have hrl := rnTo_len qx gx
   have hcn9 := i1.bm.cn
   refine hS.regS [0] [1, 5, 9, 10, 52, 53, 54] fun _ => seg [(55, vb (decide ((x54 : Int) < (((rnTo qx gx).length : Nat) : Int))))] [(0, none), (1, none), (2, none)] [] trivial fun ac wd hS => ?_
   refine wp_seq ?_
   refine hS.condC (decide ((x54 : Int) < (((rnTo qx gx).length : Nat) : Int))) (fun hb26o hb26 => ?_) (fun hb26o hb26 => ?_)
   ·
    refine wp_skip ?_
    refine pop_then ?_
    refine wp_seq ?_
    refine wp_block ?_
    obtain rfl : ao220 = some ⟨g222, o223, none⟩ := Or.resolve_left hv224 (by omega)
    refine hS.regS [20, fx 200 (.agg #[vi (((gtD (rnTo qx gx)) (Int.toNat x54)).1), vi (((gtD (rnTo qx gx)) (Int.toNat x54)).2.1), vb (((gtD (rnTo qx gx)) (Int.toNat x54)).2.2)]), 0, 300] [1, 5, 9, 10, 52, 53, 54] fun ν16 => seg [(12, pt (ν16 0) 0)] [(0, none), (1, none), (2, none), (3, some ((ν16 0), .cells [vi (((gtD (rnTo qx gx)) (Int.toNat x54)).1), vi (((gtD (rnTo qx gx)) (Int.toNat x54)).2.1), vb (((gtD (rnTo qx gx)) (Int.toNat x54)).2.2)] 41))] [.e (ν16 0), .e (ν16 0), .e (ν16 0), .p ((.agg #[((rnV (gtD (rnTo qx gx)) o223) (o223 + Int.toNat x54 * 3)), ((rnV (gtD (rnTo qx gx)) o223) (o223 + Int.toNat x54 * 3 + 1)), ((rnV (gtD (rnTo qx gx)) o223) (o223 + Int.toNat x54 * 3 + 2))] : Value) = .agg #[vi (((gtD (rnTo qx gx)) (Int.toNat x54)).1), vi (((gtD (rnTo qx gx)) (Int.toNat x54)).2.1), vb (((gtD (rnTo qx gx)) (Int.toNat x54)).2.2)]), .e g222, .p (o223 ≤ o223 + Int.toNat x54 * 3 + 2 ∧ o223 + Int.toNat x54 * 3 + 2 < (o223 + (rnTo qx gx).length * 3)), .e g222, .p (o223 ≤ o223 + Int.toNat x54 * 3 + 1 ∧ o223 + Int.toNat x54 * 3 + 1 < (o223 + (rnTo qx gx).length * 3)), .e g222, .p (o223 ≤ o223 + Int.toNat x54 * 3 ∧ o223 + Int.toNat x54 * 3 < (o223 + (rnTo qx gx).length * 3)), .p ((0 : Int) ≤ x54 ∧ (x54 : Int) < (((rnTo qx gx).length : Nat) : Int))] ⟨(agg3 (rnV_0 (gtD (rnTo qx gx)) o223 (Int.toNat x54)) (rnV_1 (gtD (rnTo qx gx)) o223 (Int.toNat x54)) (rnV_2 (gtD (rnTo qx gx)) o223 (Int.toNat x54))), (by omega), (by omega), (by omega), (by omega), trivial⟩ fun ac wd hS => ?_
    refine hS.regC [0, 0, 3, 303, 3, 3, 303, 3, 3, 83, 80, 0] [1, 5, 10, 52, 53, 54] fun _ => seg [(9, vb (x9 || ((((gtD (rnTo qx gx)) (Int.toNat x54)).2.2) && ((((gtD (rnTo qx gx)) (Int.toNat x54)).1 : Int) == at_))))] [(0, none), (1, none), (2, none)] [.p ((((((gtD (rnTo qx gx)) (Int.toNat x54)).2.2) = true) ∧ (x9 = false) ∧ True) → AllP [((ν16 0) : Nat) = (ν16 0)]), .p (((x9 = false) ∧ True) → AllP [((ν16 0) : Nat) = (ν16 0)])] ⟨(fun ⟨hc0, hc1, _⟩ => by replace hc0 := nrm hc0; replace hc1 := nrm hc1; exact ⟨rfl, trivial⟩), (fun ⟨hc0, _⟩ => by replace hc0 := nrm hc0; exact ⟨rfl, trivial⟩), trivial⟩ fun ac wd hS => ?_
    refine pop_block ?_
    refine pop_then ?_
    refine hS.regC [20, 0] [1, 5, 9, 10, 52, 53] fun _ => seg [(54, vi (x54 + 1))] [(0, none), (1, none), (2, none)] [.p (fit .i64 (x54 + 1))] ⟨fit_i64 (by omega), trivial⟩ fun ac wd hS => ?_
    exact pop_then (hS.next ((x9 || ((((gtD (rnTo qx gx)) (Int.toNat x54)).2.2) && ((((gtD (rnTo qx gx)) (Int.toNat x54)).1 : Int) == at_))), (x54 + 1)) ⟨(by first | omega | assumption | (simp; done) | (simp; omega)), (by exact thB_st j1 j0.1 (by omega)), trivial⟩ (by dsimp only; omega))
   ·
    refine wp_exit ?_
    refine pop_then_exit ?_
    refine pop_then_exit ?_
    refine pop_block_hit ?_
    refine pop_then ?_
    refine wp_region_seq ?_
    refine hS.opsC 2 [0, 0] [1, 5, 9, 10] fun _ => seg [(71, pt bb4 0), (72, vi at_)] [(0, none), (1, none), (2, none)] [] trivial fun ac wd hS => ?_
    refine hS.call0 18 #[pt bb4 0, vi at_] 73 (bu_Order b'2 Fx mx bb4 39 at_ gx rx qx Qx _ (hS.mem.res 0) (hS.mem.get 1 bb4 (.fn 0 12 (roF [pt b'2 0, vi 1, vi ((39 : Nat) : Int), pt b'2 0, vi 0, vi 256, pt b'2 0, vi 0, vi 88, pt b'2 0, vi 257, vi ((39 : Nat) : Int)]))) (by exact i1) (by first | assumption | omega | (simp_all; done) | (simp_all; omega))) fun ac wd hS => ?_
    refine hS.opsC 5 [0, 0, 0, 0, 0] [1, 5, 9, 10] fun _ => seg [(13, vi (tkK qx at_)), (14, vi (tkE qx at_))] [(0, none), (1, none), (2, none)] [] trivial fun ac wd hS => ?_
    refine list_nil_seq ?_
    refine wp_seq ?_
    by_cases hz9 : tkE qx at_ = 0
    ·
     have e9 := (th_end i1 j1 (by omega)).trans (decide_eq_true hz9)
     rw [e9, hz9] at hS
     refine wp_region_seq ?_
     refine hS.opsC 2 [0, 0] [5, 9, 10, 13, 14] fun _ => seg [(76, pt bb4 0), (77, vi at_)] [(0, none), (1, none), (2, none)] [] trivial fun ac wd hS => ?_
     refine hS.callC 19 #[pt bb4 0, vi at_] (bu_Free b'2 Fx mx bb4 39 at_ gx rx qx Qx _ (hS.mem.res 0) (hS.mem.get 1 bb4 (.fn 0 12 (roF [pt b'2 0, vi 1, vi ((39 : Nat) : Int), pt b'2 0, vi 0, vi 256, pt b'2 0, vi 0, vi 88, pt b'2 0, vi 257, vi ((39 : Nat) : Int)]))) (hS.mem.nF (g := bb4) (r := arR b'2 Fx mx) 1 0) (by exact i1) (by first | assumption | omega | (simp_all; done) | (simp_all; omega))) ?_
     rintro _ wd ⟨mo27, q228, Q229, F30, rfl, hB231, hF232, hK233, hA, hF⟩
     refine ⟨vi (tkE qx at_), rfl, ?_⟩
     replace hS := (hS.to (hS.mem.stepA 0 rfl hA hF)).put (d := 78) (v := vi (tkE qx at_)) (by decide)
     clear hF
     refine hS.opsC 1 [0] [5, 9, 10, 13, 14] fun _ => seg [(15, vi (tkE qx at_))] [(0, none), (1, none), (2, none)] [] trivial fun ac wd hS => ?_
     refine list_nil_seq ?_
     rw [hz9] at hS
     refine wp_region_seq ?_
     refine hS.opsC 10 [0, 0, 0, 0, 0, 1, 1, 1, 60, 0] [5, 9, 10, 13, 15] fun _ => seg [(88, vb false)] [(0, none), (1, none), (2, none)] [.t false, .t false, .t false, .t false] trivial fun ac wd hS => ?_
     refine hS.opsC 3 [1, 1, 1] [5, 10, 13, 15, 88] fun _ => seg [(91, vb false)] [(0, none), (1, none), (2, none)] [.t false, .t false, .t false] trivial fun ac wd hS => ?_
     refine hS.opsC 7 [2, 2, 2, 4, 4, 2, 2] [5, 10, 88, 91] fun _ => seg [(98, undef)] [(0, none), (1, none), (2, none)] [.t false, .t false, .u, .u, .t false, .t false, .t false] trivial fun ac wd hS => ?_
     refine hS.opsC 8 [4, 4, 4, 4, 4, 2, 61, 60] [] fun _ => seg [(106, vb false)] [(0, none)] [.t false, .t false, .t false, .t false, .u, .u, .u, .u, .u] trivial fun ac wd hS => ?_
     refine list_nil_seq ?_
     refine hS.condF ?_
     refine wp_skip ?_
     refine pop_then ?_
     refine hS.regS [0] [] fun _ => seg [(16, pnil)] [(0, none)] [] trivial fun ac wd hS => ?_
     refine wp_region_seq ?_
     refine hS.opsC 1 [0] [16] fun _ => seg [(108, pnil)] [(0, none)] [] trivial fun ac wd hS => ?_
     refine hS.call0 21 #[pnil, vi 11] 109 (bu_Alloc_nil 11 _  ) fun ac wd hS => ?_
     refine hS.opsC 5 [0, 0, 0, 0, 0] [16] fun _ => seg [(18, vi 1)] [(0, none)] [] trivial fun ac wd hS => ?_
     refine list_nil_seq ?_
     refine wp_region_seq ?_
     refine hS.opsC 1 [0] [16, 18] fun _ => seg [(113, pnil)] [(0, none)] [] trivial fun ac wd hS => ?_
     refine hS.call0 18 #[pnil, vi 0] 114 (bu_Order_nil 0 _  ) fun ac wd hS => ?_
     refine hS.opsC 5 [0, 0, 0, 0, 0] [16, 18] fun _ => seg [(20, vi 1)] [(0, none)] [] trivial fun ac wd hS => ?_
     refine list_nil_seq ?_
     refine wp_region_seq ?_
     refine hS.call0 13 #[pnil] 118 (bu_New_nil  _  ) fun ac wd hS => ?_
     refine hS.opsC 5 [0, 0, 0, 0, 0] [16, 18, 20] fun _ => seg [(21, pnil), (22, vi 1)] [(0, none)] [] trivial fun ac wd hS => ?_
     refine list_nil_seq ?_
     refine wp_region_seq ?_
     refine hS.call0 22 #[pnil] 122 (bu_Open_nil  _  ) fun ac wd hS => ?_
     refine hS.opsC 5 [0, 0, 0, 0, 0] [16, 18, 20, 21, 22] fun _ => seg [(23, pnil), (24, vi 1)] [(0, none)] [] trivial fun ac wd hS => ?_
     refine list_nil_seq ?_
     refine wp_region_seq ?_
     refine hS.opsC 7 [0, 0, 0, 1, 1, 70, 0] [16, 21, 22, 23, 24] fun _ => seg [(131, vb true)] [(0, none)] [.t true, .t true, .t true] trivial fun ac wd hS => ?_
     refine hS.opsC 1 [1] [16, 21, 22, 23, 24, 131] fun _ => seg [(132, pnil)] [(0, none)] [.t true] trivial fun ac wd hS => ?_
     refine hS.callG true 19 #[pnil, vi 0] (bu_Free_nil 0 _  ) ?_
     rintro _ wd ⟨rfl, hF⟩
     refine ⟨vi 1, rfl, ?_⟩
     replace hS := (hS.to (hS.mem.keep0 hF)).put (d := 133) (v := vi 1) (by decide)
     clear hF
     refine hS.opsC 3 [1, 70, 0] [16, 21, 22, 23, 24] fun _ => seg [(136, vb true)] [(0, none)] [.t true, .t true] trivial fun ac wd hS => ?_
     refine hS.opsC 1 [1] [16, 21, 22, 23, 24, 136] fun _ => seg [(137, pnil)] [(0, none)] [.t true] trivial fun ac wd hS => ?_
     refine hS.callG true 23 #[pnil, vi 11] (bu_Grow_nil 11 _  ) ?_
     rintro _ wd ⟨rfl, hF⟩
     refine ⟨vi 1, rfl, ?_⟩
     replace hS := (hS.to (hS.mem.keep0 hF)).put (d := 138) (v := vi 1) (by decide)
     clear hF
     refine hS.opsC 3 [1, 70, 0] [16, 21, 22, 23, 24] fun _ => seg [(141, vb true)] [(0, none)] [.t true, .t true] trivial fun ac wd hS => ?_
     refine hS.opsC 1 [1] [16, 21, 22, 23, 24, 141] fun _ => seg [(142, pnil)] [(0, none)] [.t true] trivial fun ac wd hS => ?_
     refine hS.callG true 16 #[pnil] (bu_Base_nil  _  ) ?_
     rintro _ wd ⟨rfl, hF⟩
     refine ⟨vi 0, rfl, ?_⟩
     replace hS := (hS.to (hS.mem.keep0 hF)).put (d := 143) (v := vi 0) (by decide)
     clear hF
     refine hS.opsC 1 [1] [16, 21, 22, 23, 24, 141, 143] fun _ => seg [(144, pnil)] [(0, none)] [.t true] trivial fun ac wd hS => ?_
     refine hS.callG true 24 #[pnil] (bu_Grown_nil  _  ) ?_
     rintro _ wd ⟨rfl, hF⟩
     refine ⟨vi 0, rfl, ?_⟩
     replace hS := (hS.to (hS.mem.keep0 hF)).put (d := 145) (v := vi 0) (by decide)
     clear hF
     refine hS.opsC 2 [1, 1] [16, 21, 22, 23, 24, 141] fun _ => seg [(146, vi 0), (147, pnil)] [(0, none)] [.t true, .t true] trivial fun ac wd hS => ?_
     refine hS.callG true 25 #[pnil] (bu_Shrink_nil  _  ) ?_
     rintro _ wd ⟨rfl, hF⟩
     refine ⟨vi 0, rfl, ?_⟩
     replace hS := (hS.to (hS.mem.keep0 hF)).put (d := 148) (v := vi 0) (by decide)
     clear hF
     refine hS.opsC 4 [1, 1, 70, 0] [16, 21, 22, 23, 24] fun _ => seg [(152, vb true)] [(0, none)] [.t true, .t true, .t true] trivial fun ac wd hS => ?_
     refine hS.opsC 1 [1] [21, 22, 23, 24, 152] fun _ => seg [(153, pnil)] [(0, none)] [.t true] trivial fun ac wd hS => ?_
     refine hS.callG true 17 #[pnil] (bu_Runs_nil  _  ) ?_
     rintro _ wd ⟨rfl, hF⟩
     refine ⟨vnil, rfl, ?_⟩
     replace hS := (hS.to (hS.mem.keep0 hF)).put (d := 154) (v := vnil) (by decide)
     clear hF
     refine hS.opsC 20 [1, 1, 70, 0, 1, 1, 70, 0, 1, 1, 70, 0, 1, 1, 70, 0, 1, 1, 70, 0] [] fun _ => seg [(4, vb true)] [(0, none)] [.t true, .t true, .t true, .t true, .t true, .t true, .t true, .t true, .t true, .t true, .t true, .t true, .t true, .t true, .t true] trivial fun ac wd hS => ?_
     refine list_nil_seq ?_
     refine wp_ret ?_
     refine St.retC 0 hS (vb true) [] trivial fun hw => ?_
     refine ⟨retd rfl, hw.fr0⟩
    ·
     have e9 := (th_end i1 j1 (by omega)).trans (decide_eq_false hz9)
     obtain ⟨hz8, hz7⟩ := tkE_8 hz9
     rw [e9, hz8, hz7] at hS
     refine wp_region_seq ?_
     refine hS.opsC 2 [0, 0] [5, 9, 10, 13, 14] fun _ => seg [(76, pt bb4 0), (77, vi at_)] [(0, none), (1, none), (2, none)] [] trivial fun ac wd hS => ?_
     refine hS.callC 19 #[pt bb4 0, vi at_] (bu_Free b'2 Fx mx bb4 39 at_ gx rx qx Qx _ (hS.mem.res 0) (hS.mem.get 1 bb4 (.fn 0 12 (roF [pt b'2 0, vi 1, vi ((39 : Nat) : Int), pt b'2 0, vi 0, vi 256, pt b'2 0, vi 0, vi 88, pt b'2 0, vi 257, vi ((39 : Nat) : Int)]))) (hS.mem.nF (g := bb4) (r := arR b'2 Fx mx) 1 0) (by exact i1) (by first | assumption | omega | (simp_all; done) | (simp_all; omega))) ?_
     rintro _ wd ⟨mo34, q235, Q236, F37, rfl, hB238, hF239, hK240, hA, hF⟩
     refine ⟨vi (tkE qx at_), rfl, ?_⟩
     replace hS := (hS.to (hS.mem.stepA 0 rfl hA hF)).put (d := 78) (v := vi (tkE qx at_)) (by decide)
     clear hF
     refine hS.opsC 1 [0] [5, 9, 10, 13, 14] fun _ => seg [(15, vi (tkE qx at_))] [(0, none), (1, none), (2, none)] [] trivial fun ac wd hS => ?_
     refine list_nil_seq ?_
     have hq9 := (FreeP.same (by assumption) hz9).symm
     subst hq9
     rw [hz8] at hS
     refine wp_region_seq ?_
     refine hS.opsC 10 [0, 0, 0, 0, 0, 1, 1, 1, 60, 0] [5, 9, 10, 13, 15] fun _ => seg [(88, vb false)] [(0, none), (1, none), (2, none)] [.t false, .t false, .t false, .t false] trivial fun ac wd hS => ?_
     refine hS.opsC 3 [1, 1, 1] [5, 10, 13, 15, 88] fun _ => seg [(91, vb true)] [(0, none), (1, none), (2, none)] [.t false, .t false, .t false] trivial fun ac wd hS => ?_
     refine hS.opsC 7 [1, 1, 1, 1, 1, 61, 1] [5, 10, 88, 91] fun _ => seg [(98, vb false)] [(0, none), (1, none), (2, none)] [.t true, .t true, .t false, .t false, .t false, .t true, .t true, .t true] trivial fun ac wd hS => ?_
     refine hS.opsC 1 [1] [10, 88, 91, 98] fun _ => seg [(99, pt bb4 0)] [(0, none), (1, none), (2, none)] [.t false] trivial fun ac wd hS => ?_
     refine hS.callG false 17 #[pt bb4 0] (bu_Runs b'2 F37 mo34 bb4 39 gx rx qx Q236 _ (hS.mem.res 0) (hS.mem.get 0 1 (.fn 0 64 dbT)) (hS.mem.get 1 bb4 (.fn 0 12 (roF [pt b'2 0, vi 1, vi ((39 : Nat) : Int), pt b'2 0, vi 0, vi 256, pt b'2 0, vi 0, vi 88, pt b'2 0, vi 257, vi ((39 : Nat) : Int)]))) (by first | exact i1 | assumption) (by exact i2)) ?_
     rintro _ wd ⟨ao241, c242, g243, o244, rfl, hv245, hog0, hoh0, hF⟩
     have ho46 : g243 = 1 ∨ w.heap.size ≤ g243 := by have := hS.mem.fr.size; have : w.heap.size ≤ _ := this; omega
     refine ⟨.slice ao241 ((rnTo qx gx).length) c242, rfl, ?_⟩
     replace hS := (hS.to (hS.mem.outs hF [(g243, .fn o244 (o244 + (rnTo qx gx).length * 3) (rnV (gtD (rnTo qx gx)) o244))] ⟨⟨rfl, hoh0, (fun q_ => q_.elim (fun e => .inl ⟨0, .fn 0 64 dbT, by rw [e]; as_aux_lemma => kernel_rfl, rfl⟩) (fun q_ => .inr q_)) hog0⟩, trivial⟩)).put (d := 100) (v := .slice ao241 ((rnTo qx gx).length) c242) (by decide)
     clear hF
     refine hS.opsC 1 [1] [88, 91, 98, 100] fun _ => seg [(101, .slice ao220 ((rnTo qx gx).length) c221)] [(0, none), (2, none), (3, none)] [.t false] trivial fun ac wd hS => ?_
     refine hS.callG false 20 #[.slice ao241 ((rnTo qx gx).length) c242, .slice ao220 ((rnTo qx gx).length) c221] (eq_runs ao241 c242 g243 o244 (rnTo qx gx) ao220 c221 g222 o223 _ (hS.mem.get 2 g243 (.fn o244 (o244 + (rnTo qx gx).length * 3) (rnV (gtD (rnTo qx gx)) o244))) (hS.mem.get 1 g222 (.fn o223 (o223 + (rnTo qx gx).length * 3) (rnV (gtD (rnTo qx gx)) o223))) hv245 hv224 (by (have := rnTo_len qx gx; have := i1.bm.cn; omega))) ?_
     rintro _ wd ⟨rfl, hF⟩
     refine ⟨vb true, rfl, ?_⟩
     replace hS := (hS.to (hS.mem.keep0 hF)).put (d := 102) (v := vb true) (by decide)
     clear hF
     refine hS.opsC 4 [1, 61, 71, 60] [] fun _ => seg [(106, vb false)] [(0, none)] [.t false, .t false, .t true, .t true, .t false, .t false] trivial fun ac wd hS => ?_
     refine list_nil_seq ?_
     refine hS.condF ?_
     refine wp_skip ?_
     refine pop_then ?_
     refine hS.regS [0] [] fun _ => seg [(16, pnil)] [(0, none)] [] trivial fun ac wd hS => ?_
     refine wp_region_seq ?_
     refine hS.opsC 1 [0] [16] fun _ => seg [(108, pnil)] [(0, none)] [] trivial fun ac wd hS => ?_
     refine hS.call0 21 #[pnil, vi 11] 109 (bu_Alloc_nil 11 _  ) fun ac wd hS => ?_
     refine hS.opsC 5 [0, 0, 0, 0, 0] [16] fun _ => seg [(18, vi 1)] [(0, none)] [] trivial fun ac wd hS => ?_
     refine list_nil_seq ?_
     refine wp_region_seq ?_
     refine hS.opsC 1 [0] [16, 18] fun _ => seg [(113, pnil)] [(0, none)] [] trivial fun ac wd hS => ?_
     refine hS.call0 18 #[pnil, vi 0] 114 (bu_Order_nil 0 _  ) fun ac wd hS => ?_
     refine hS.opsC 5 [0, 0, 0, 0, 0] [16, 18] fun _ => seg [(20, vi 1)] [(0, none)] [] trivial fun ac wd hS => ?_
     refine list_nil_seq ?_
     refine wp_region_seq ?_
     refine hS.call0 13 #[pnil] 118 (bu_New_nil  _  ) fun ac wd hS => ?_
     refine hS.opsC 5 [0, 0, 0, 0, 0] [16, 18, 20] fun _ => seg [(21, pnil), (22, vi 1)] [(0, none)] [] trivial fun ac wd hS => ?_
     refine list_nil_seq ?_
     refine wp_region_seq ?_
     refine hS.call0 22 #[pnil] 122 (bu_Open_nil  _  ) fun ac wd hS => ?_
     refine hS.opsC 5 [0, 0, 0, 0, 0] [16, 18, 20, 21, 22] fun _ => seg [(23, pnil), (24, vi 1)] [(0, none)] [] trivial fun ac wd hS => ?_
     refine list_nil_seq ?_
     refine wp_region_seq ?_
     refine hS.opsC 7 [0, 0, 0, 1, 1, 70, 0] [16, 21, 22, 23, 24] fun _ => seg [(131, vb true)] [(0, none)] [.t true, .t true, .t true] trivial fun ac wd hS => ?_
     refine hS.opsC 1 [1] [16, 21, 22, 23, 24, 131] fun _ => seg [(132, pnil)] [(0, none)] [.t true] trivial fun ac wd hS => ?_
     refine hS.callG true 19 #[pnil, vi 0] (bu_Free_nil 0 _  ) ?_
     rintro _ wd ⟨rfl, hF⟩
     refine ⟨vi 1, rfl, ?_⟩
     replace hS := (hS.to (hS.mem.keep0 hF)).put (d := 133) (v := vi 1) (by decide)
     clear hF
     refine hS.opsC 3 [1, 70, 0] [16, 21, 22, 23, 24] fun _ => seg [(136, vb true)] [(0, none)] [.t true, .t true] trivial fun ac wd hS => ?_
     refine hS.opsC 1 [1] [16, 21, 22, 23, 24, 136] fun _ => seg [(137, pnil)] [(0, none)] [.t true] trivial fun ac wd hS => ?_
     refine hS.callG true 23 #[pnil, vi 11] (bu_Grow_nil 11 _  ) ?_
     rintro _ wd ⟨rfl, hF⟩
     refine ⟨vi 1, rfl, ?_⟩
     replace hS := (hS.to (hS.mem.keep0 hF)).put (d := 138) (v := vi 1) (by decide)
     clear hF
     refine hS.opsC 3 [1, 70, 0] [16, 21, 22, 23, 24] fun _ => seg [(141, vb true)] [(0, none)] [.t true, .t true] trivial fun ac wd hS => ?_
     refine hS.opsC 1 [1] [16, 21, 22, 23, 24, 141] fun _ => seg [(142, pnil)] [(0, none)] [.t true] trivial fun ac wd hS => ?_
     refine hS.callG true 16 #[pnil] (bu_Base_nil  _  ) ?_
     rintro _ wd ⟨rfl, hF⟩
     refine ⟨vi 0, rfl, ?_⟩
     replace hS := (hS.to (hS.mem.keep0 hF)).put (d := 143) (v := vi 0) (by decide)
     clear hF
     refine hS.opsC 1 [1] [16, 21, 22, 23, 24, 141, 143] fun _ => seg [(144, pnil)] [(0, none)] [.t true] trivial fun ac wd hS => ?_
     refine hS.callG true 24 #[pnil] (bu_Grown_nil  _  ) ?_
     rintro _ wd ⟨rfl, hF⟩
     refine ⟨vi 0, rfl, ?_⟩
     replace hS := (hS.to (hS.mem.keep0 hF)).put (d := 145) (v := vi 0) (by decide)
     clear hF
     refine hS.opsC 2 [1, 1] [16, 21, 22, 23, 24, 141] fun _ => seg [(146, vi 0), (147, pnil)] [(0, none)] [.t true, .t true] trivial fun ac wd hS => ?_
     refine hS.callG true 25 #[pnil] (bu_Shrink_nil  _  ) ?_
     rintro _ wd ⟨rfl, hF⟩
     refine ⟨vi 0, rfl, ?_⟩
     replace hS := (hS.to (hS.mem.keep0 hF)).put (d := 148) (v := vi 0) (by decide)
     clear hF
     refine hS.opsC 4 [1, 1, 70, 0] [16, 21, 22, 23, 24] fun _ => seg [(152, vb true)] [(0, none)] [.t true, .t true, .t true] trivial fun ac wd hS => ?_
     refine hS.opsC 1 [1] [21, 22, 23, 24, 152] fun _ => seg [(153, pnil)] [(0, none)] [.t true] trivial fun ac wd hS => ?_
     refine hS.callG true 17 #[pnil] (bu_Runs_nil  _  ) ?_
     rintro _ wd ⟨rfl, hF⟩
     refine ⟨vnil, rfl, ?_⟩
     replace hS := (hS.to (hS.mem.keep0 hF)).put (d := 154) (v := vnil) (by decide)
     clear hF
     refine hS.opsC 20 [1, 1, 70, 0, 1, 1, 70, 0, 1, 1, 70, 0, 1, 1, 70, 0, 1, 1, 70, 0] [] fun _ => seg [(4, vb true)] [(0, none)] [.t true, .t true, .t true, .t true, .t true, .t true, .t true, .t true, .t true, .t true, .t true, .t true, .t true, .t true, .t true] trivial fun ac wd hS => ?_
     refine list_nil_seq ?_
     refine wp_ret ?_
     refine St.retC 0 hS (vb true) [] trivial fun hw => ?_
     refine ⟨retd rfl, hw.fr0⟩

end Go.Proofs.YtojjkjedcafpeaaGreatDoor.K
