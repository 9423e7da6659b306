/-
  Walks, printed by w2.py.
-/
import Derived.Test.YtindbpffbjhfaaaDoorHf
import Derived.Test.YtindbpffbjhfaaaDoorProg
namespace Go.Proofs.YtindbpffbjhfaaaDoor.K
set_option linter.unusedVariables false
set_option linter.unusedSimpArgs false

set_option maxRecDepth 100000 in
set_option maxHeartbeats 1000000 in
theorem cl_Open (b : Nat) (o_ : Int) (z : Int) (w : World) :
    Calls Tryd.prog 69 #[.agg #[pt b 0, vi o_, vi z]] w fun e w' => e = .returned (.agg #[pt b 0, vi o_, vi z]) ∧ Fr w w' no no := by
 refine enter (args := [.agg #[pt b 0, vi o_, vi z]]) (D := no) (A := []) Tryd.func69 rfl 5 rfl [] (WS.startL trivial) fun ac hS => ?_
 refine hS.regS [0, 0] [] fun ν1 => seg [(1, pt (ν1 0) 0), (2, pt (ν1 1) 0)] [(0, some ((ν1 0), .cells [pt b 0, vi o_, vi z] 25)), (1, some ((ν1 1), .cells [pnil, vi 0, vi 0] 112))] [] trivial fun ac wd hS => ?_
 refine hS.regS [0, 0, 100] [2] fun _ => seg [] [(1, some ((ν1 1), .cells [pt b 0, vi o_, vi z] 112))] [.e (ν1 1), .e (ν1 1), .e (ν1 1), .e (ν1 0), .e (ν1 0), .e (ν1 0)] trivial fun ac wd hS => ?_
 refine wp_ret ?_
 refine St.retC 0 hS (.agg #[pt b 0, vi o_, vi z]) [.e (ν1 1), .e (ν1 1), .e (ν1 1)] trivial fun hw => ?_
 refine ⟨retd rfl, hw.fr0⟩

set_option maxRecDepth 100000 in
set_option maxHeartbeats 1000000 in
theorem cl_record (w : World) :
    Calls Tryd.prog 204 #[] w fun e w' => ∃ (g2 : Nat) (c2 : Nat), e = .returned (.agg #[sc g2 0 oRec.length c2]) ∧ oRec.length ≤ c2 ∧ w.heap.size ≤ g2 ∧ HE.holds w' g2 (.fn 0 (0 + oRec.length) (ints oRec 0)) ∧ Fr w w' no no := by
 refine enter (args := []) (D := no) (A := []) Tryd.func204 rfl 9 rfl [] (WS.startL trivial) fun ac hS => ?_
 refine hS.regS [0] [] fun ν1 => seg [(0, pt (ν1 0) 0)] [(0, some ((ν1 0), .cells [vnil] 230))] [] trivial fun ac wd hS => ?_
 refine wp_region_seq ?_
 refine hS.opsC 1 [0] [0] fun ν2 => seg [(4, sc (ν2 0) 0 2 2)] [(0, none), (1, some ((ν2 0), .cells [vi 8, vi 8] 3))] [] trivial fun ac wd hS => ?_
 refine hS.callC 187 #[sc (ν2 0) 0 2 2] (field_Of (ν2 0) 0 2 oRec _ (HE.of_cells (hS.mem.get 1 (ν2 0) (.cells [vi 8, vi 8] 3)) (fun o_ ho => by have ho : o_ < 2 := ho; rcases (by omega : o_ = 0 ∨ o_ = 1) with rfl | rfl <;> rfl)) (by exact oRec_ok)) ?_
 rintro _ wd ⟨g21, c22, rfl, hc23, hog0, hoh0, hF⟩
 have ho4 : w.heap.size ≤ g21 := Nat.le_trans hS.mem.fr.size hog0
 refine ⟨.tuple #[.agg #[sc g21 0 oRec.length c22], vi 0], rfl, ?_⟩
 replace hS := (hS.to (hS.mem.outs hF [(g21, .fn 0 (0 + oRec.length) (ints oRec 0))] ⟨⟨rfl, hoh0, .inr hog0⟩, trivial⟩)).put (d := 5) (v := .tuple #[.agg #[sc g21 0 oRec.length c22], vi 0]) (by decide)
 clear hF
 refine hS.opsC 6 [0, 0, 0, 0, 300, 0] [0] fun ν3 => seg [(1, pt (ν3 0) 0)] [(0, none), (2, none), (3, some ((ν3 0), .cells [sc g21 0 oRec.length c22] 230))] [.e (ν3 0)] trivial fun ac wd hS => ?_
 refine list_nil_seq ?_
 refine hS.regS [200, 0] [0] fun _ => seg [] [(0, some ((ν1 0), .cells [sc g21 0 oRec.length c22] 230)), (1, none)] [.e (ν1 0), .e (ν3 0)] trivial fun ac wd hS => ?_
 refine wp_ret ?_
 refine St.retC 0 hS (.agg #[sc g21 0 oRec.length c22]) [.e (ν1 0)] trivial fun hw => ?_
 refine ⟨g21, c22, retd rfl, ?_, ho4, (hw.get 1 g21 (.fn 0 (0 + oRec.length) (ints oRec 0))), hw.fr0⟩
 all_goals (first | rfl | assumption | (simp; done) | (simp; omega) | omega | (simp_all; done) | (simp_all; omega))

set_option maxRecDepth 100000 in
set_option maxHeartbeats 1000000 in
theorem vw_Part (b : Nat) (F : Nat → Prop) (m : AM) (o_ : Int) (z : Int) (a : Int) (k : Int) (w : World) (hr : (arR b F m).R w) (ho : 0 ≤ o_ ∧ 0 ≤ z ∧ o_ + z ≤ 4294967296) (hin : vchE z a k = 0) (htp : thr m (o_ + a) k = true) :
    Calls Tryd.prog 224 #[.agg #[pt b 0, vi o_, vi z], vi a, vi k] w fun e w' => e = .returned (.tuple #[.agg #[pt b 0, vi (o_ + a), vi k], vi 0]) ∧ Fr w w' no no := by
 obtain ⟨hc1, hc2, hc3, hc4⟩ := vch_in hin
 refine enter (args := [.agg #[pt b 0, vi o_, vi z], vi a, vi k]) (D := no) (A := []) Tryd.func224 rfl 27 rfl [] (WS.startL trivial) fun ac hS => ?_
 refine hS.regS [0, 0, 0] [1, 2] fun ν1 => seg [(3, pt (ν1 0) 0), (6, pt (ν1 1) 0)] [(0, some ((ν1 0), .cells [pt b 0, vi o_, vi z] 25)), (1, some ((ν1 1), .cells [pnil, vi 0, vi 0] 25))] [] trivial fun ac wd hS => ?_
 refine wp_seq ?_
 refine wp_region_seq ?_
 refine hS.opsC 3 [0, 0, 0] [1, 2, 3, 6] fun _ => seg [(9, .agg #[pt b 0, vi o_, vi z]), (10, vi a), (11, vi k)] [(0, none), (1, none)] [.e (ν1 0), .e (ν1 0), .e (ν1 0)] trivial fun ac wd hS => ?_
 refine hS.call0 203 #[.agg #[pt b 0, vi o_, vi z], vi a, vi k] 12 (vw_check b a k o_ z _  (by first | assumption | omega | (simp_all; done) | (simp_all; omega))) fun ac wd hS => ?_
 refine hS.opsC 1 [0] [1, 2, 3, 6] fun _ => seg [(8, vi (vchE z a k))] [(0, none), (1, none)] [] trivial fun ac wd hS => ?_
 refine list_nil_seq ?_
 refine hS.regS [0, 0] [1, 2, 3, 6, 8] fun _ => seg [(14, vb (((vchE z a k) : Int) != 0))] [(0, none), (1, none)] [] trivial fun ac wd hS => ?_
 refine hS.condK (((vchE z a k) : Int) != 0) false (by rw [hin]; rfl) ?_
 show Code.wp _ _ _ _ _
 refine wp_skip ?_
 refine pop_then ?_
 refine wp_region_seq ?_
 refine hS.opsC 7 [0, 0, 0, 0, 0, 20, 0] [6] fun _ => seg [(18, pt b 0), (22, vi (o_ + a)), (23, vi k)] [(1, none)] [.p (fit .i64 (o_ + a)), .e (ν1 0), .e (ν1 0)] ⟨fit_i64 (by omega), trivial⟩ fun ac wd hS => ?_
 refine hS.call0 28 #[pt b 0, vi (o_ + a), vi k] 24 (vw_Of b F m (o_ + a) k _ (Res.keep hr hS.mem.fr) (by first | assumption | omega | (simp_all; done) | (simp_all; omega))) fun ac wd hS => ?_
 refine hS.opsC 4 [0, 0, 0, 0] [6] fun _ => seg [(7, vi 0)] [(0, some ((ν1 1), .cells [pt b 0, vi (o_ + a), vi k] 25))] [.e (ν1 1), .e (ν1 1), .e (ν1 1)] trivial fun ac wd hS => ?_
 refine list_nil_seq ?_
 refine wp_ret ?_
 refine St.retC 0 hS (.tuple #[.agg #[pt b 0, vi (o_ + a), vi k], vi 0]) [.e (ν1 1), .e (ν1 1), .e (ν1 1)] trivial fun hw => ?_
 refine ⟨retd rfl, hw.fr0⟩

set_option maxRecDepth 100000 in
set_option maxHeartbeats 1000000 in
theorem cl_slots (b : Nat) (o_ : Int) (z : Int) (w : World) (ho : 0 ≤ o_ ∧ 0 ≤ z ∧ o_ + z ≤ 4294967296) :
    Calls Tryd.prog 148 #[.agg #[pt b 0, vi o_, vi z]] w fun e w' => e = .returned (vi (cSl z)) ∧ Fr w w' no no := by
 refine enter (args := [.agg #[pt b 0, vi o_, vi z]]) (D := no) (A := []) Tryd.func148 rfl 7 rfl [] (WS.startL trivial) fun ac hS => ?_
 refine hS.regS [0, 0] [] fun ν1 => seg [(1, pt (ν1 0) 0)] [(0, some ((ν1 0), .cells [pt b 0, vi o_, vi z] 112))] [] trivial fun ac wd hS => ?_
 refine wp_region_seq ?_
 refine hS.opsC 2 [0, 0] [] fun _ => seg [(4, .agg #[pt b 0, vi o_, vi z])] [] [.e (ν1 0), .e (ν1 0), .e (ν1 0)] trivial fun ac wd hS => ?_
 refine hS.call0 180 #[.agg #[pt b 0, vi o_, vi z]] 5 (vw_Size b o_ z _  ) fun ac wd hS => ?_
 refine hS.opsC 2 [20, 0] [] fun _ => seg [(2, vi (z / 24))] [] [.p ((24 : Int) ≠ 0 ∧ IntKind.i64.wrap (Int.tdiv z 24) = z / 24)] ⟨quo2 (by omega) (by omega) (by omega), trivial⟩ fun ac wd hS => ?_
 refine list_nil_seq ?_
 refine wp_ret ?_
 refine St.retC 0 hS (vi (z / 24)) [] trivial fun hw => ?_
 refine ⟨retd (vint ?_), hw.fr0⟩
 all_goals (rfl)

set_option maxRecDepth 100000 in
set_option maxHeartbeats 1000000 in
theorem cl_at (b : Nat) (F : Nat → Prop) (m : AM) (o_ : Int) (z : Int) (i : Int) (w : World) (hr : (arR b F m).R w) (ho : 0 ≤ o_ ∧ 0 ≤ z ∧ o_ + z ≤ 4294967296) (hi : 0 ≤ i ∧ i < cSl z) (hthr : thr m o_ z = true) :
    Calls Tryd.prog 205 #[.agg #[pt b 0, vi o_, vi z], vi i] w fun e w' => e = .returned (.agg #[pt b 0, vi (o_ + (i * 24)), vi 24]) ∧ Fr w w' no no := by
 have hsl : cSl z * 24 ≤ z ∧ 0 ≤ cSl z := by unfold cSl; omega
 have hti : thr m (o_ + (i * 24)) 24 = true := thr_sub hthr (by omega) (by omega) (by omega)
 refine enter (args := [.agg #[pt b 0, vi o_, vi z], vi i]) (D := no) (A := []) Tryd.func205 rfl 16 rfl [] (WS.startL trivial) fun ac hS => ?_
 refine hS.regS [0, 0] [1] fun ν1 => seg [(2, pt (ν1 0) 0), (4, pt (ν1 1) 0)] [(0, some ((ν1 0), .cells [pt b 0, vi o_, vi z] 112)), (1, some ((ν1 1), .cells [pnil, vi 0, vi 0] 25))] [] trivial fun ac wd hS => ?_
 refine wp_region_seq ?_
 refine hS.opsC 4 [0, 0, 0, 20] [4] fun _ => seg [(9, .agg #[pt b 0, vi o_, vi z]), (11, vi (i * 24))] [(1, none)] [.p (fit .i64 (i * 24)), .e (ν1 0), .e (ν1 0), .e (ν1 0)] ⟨fit_i64 (by omega), trivial⟩ fun ac wd hS => ?_
 refine hS.call0 224 #[.agg #[pt b 0, vi o_, vi z], vi (i * 24), vi 24] 12 (vw_Part b F m o_ z (i * 24) 24 _ (Res.keep hr hS.mem.fr) (by first | assumption | omega | (simp_all; done) | (simp_all; omega)) (by exact (vch_yes (by omega)).symm) (by assumption)) fun ac wd hS => ?_
 refine hS.opsC 6 [0, 0, 0, 0, 100, 0] [4] fun ν3 => seg [(5, pt (ν3 0) 0)] [(0, none), (1, some ((ν3 0), .cells [pt b 0, vi (o_ + (i * 24)), vi 24] 25))] [.e (ν3 0), .e (ν3 0), .e (ν3 0)] trivial fun ac wd hS => ?_
 refine list_nil_seq ?_
 refine hS.regS [100, 0] [4] fun _ => seg [] [(0, some ((ν1 1), .cells [pt b 0, vi (o_ + (i * 24)), vi 24] 25))] [.e (ν1 1), .e (ν1 1), .e (ν1 1), .e (ν3 0), .e (ν3 0), .e (ν3 0)] trivial fun ac wd hS => ?_
 refine wp_ret ?_
 refine St.retC 0 hS (.agg #[pt b 0, vi (o_ + (i * 24)), vi 24]) [.e (ν1 1), .e (ν1 1), .e (ν1 1)] trivial fun hw => ?_
 refine ⟨retd rfl, hw.fr0⟩

set_option maxRecDepth 100000 in
set_option maxHeartbeats 1000000 in
theorem cl_get (b : Nat) (F : Nat → Prop) (m : AM) (o_ : Int) (z : Int) (iq : Int) (w : World) (hr : (arR b F m).R w) (ho : 0 ≤ o_ ∧ 0 ≤ z ∧ o_ + z ≤ 4294967296) (hi : 0 ≤ iq ∧ iq < cSl z) (hthr : thr m o_ z = true) :
    Calls Tryd.prog 149 #[.agg #[pt b 0, vi o_, vi z], vi iq] w fun e w' => e = .returned (.tuple #[.agg #[vu (gIf m o_ iq (cId m o_ iq)), v8 (gIf m o_ iq (cKd m o_ iq)), v8 (gIf m o_ iq (cLv m o_ iq)), vu (gIf m o_ iq (cN1 m o_ iq))], vb (gOk m o_ iq)]) ∧ Fr w w' no no := by
 have hsl : cSl z * 24 ≤ z ∧ 0 ≤ cSl z := by unfold cSl; omega
 have hti : thr m (o_ + (iq * 24)) 24 = true := thr_sub hthr (by omega) (by omega) (by omega)
 refine enter (args := [.agg #[pt b 0, vi o_, vi z], vi iq]) (D := no) (A := []) Tryd.func149 rfl 43 rfl [] (WS.startL trivial) fun ac hS => ?_
 refine hS.regS [0, 0, 0] [1] fun ν1 => seg [(2, pt (ν1 0) 0), (4, pt (ν1 1) 0)] [(0, some ((ν1 0), .cells [pt b 0, vi o_, vi z] 112)), (1, some ((ν1 1), .cells [vu 0, v8 0, v8 0, vu 0] 117))] [] trivial fun ac wd hS => ?_
 refine St.ordBeginS [(1, 1), (2, 1), (0, 0), (3, 0), (4, 0), (5, 1), (6, 1), (7, 1), (8, 1), (9, 1)] [((ν1 0), .cells [pt b 0, vi o_, vi z] 112), ((ν1 1), .cells [vu 0, v8 0, v8 0, vu 0] 117)] [0, 1] hS fun wd hS => ?_
 have hap := hS.mem.pairs (Hf := [((ν1 0), .cells [pt b 0, vi o_, vi z] 112), ((ν1 1), .cells [vu 0, v8 0, v8 0, vu 0] 117)]) (l := [0, 1])
 refine St.ordF [0, 0] [1, 2] [4] (rest := [(0, 0), (3, 0), (4, 0), (5, 1), (6, 1), (7, 1), (8, 1), (9, 1)]) hS hap <| segF [(10, .agg #[pt b 0, vi o_, vi z]), (11, vi iq)] [.e (ν1 0), .e (ν1 0), .e (ν1 0)] trivial fun ac hS => ?_
 refine hS.ordC 0 204 #[] (cl_record  _  ) ?_
 rintro _ wd ⟨g21, c22, rfl, hc23, hog0, hoh0, hF⟩
 have ho4 : w.heap.size ≤ g21 := Nat.le_trans hS.mem.fr.size hog0
 refine ⟨.agg #[sc g21 0 2 c22], rfl, ?_⟩
 replace hS := (hS.to (hS.mem.outs hF [(g21, .fn 0 2 (ints oRec 0))] ⟨⟨rfl, hoh0, .inr hog0⟩, trivial⟩)).put (d := 9) (v := .agg #[sc g21 0 2 c22]) (by decide)
 clear hF
 refine hS.ordV (l := [0, 1]) ?_
 refine hS.ordC 3 205 #[.agg #[pt b 0, vi o_, vi z], vi iq] (cl_at b F m o_ z iq _ (Res.keep hr hS.mem.fr) (by first | assumption | omega | (simp_all; done) | (simp_all; omega)) (by first | assumption | omega | (simp_all; done) | (simp_all; omega)) (by first | assumption | omega | (simp_all; done) | (simp_all; omega))) ?_
 rintro _ wd ⟨rfl, hF⟩
 refine ⟨.agg #[pt b 0, vi (o_ + (iq * 24)), vi 24], rfl, ?_⟩
 replace hS := (hS.to (hS.mem.keep0 hF)).put (d := 12) (v := .agg #[pt b 0, vi (o_ + (iq * 24)), vi 24]) (by decide)
 clear hF
 refine hS.ordV (l := [0, 1]) ?_
 refine hS.ordC 4 128 #[.agg #[sc g21 0 2 c22], .agg #[pt b 0, vi (o_ + (iq * 24)), vi 24]] (rec_All b F m g21 0 c22 oRec (o_ + (iq * 24)) 24 _ (Res.keep hr hS.mem.fr) (hS.mem.get 2 g21 (.fn 0 2 (ints oRec 0))) (by first | assumption | exact oRec_ok | exact vby_all hti oRec_ok (by decide) | omega) (by first | assumption | exact oRec_ok | exact vby_all hti oRec_ok (by decide) | omega) (by first | assumption | exact oRec_ok | exact vby_all hti oRec_ok (by decide) | omega) (by first | assumption | exact oRec_ok | exact vby_all hti oRec_ok (by decide) | omega)) ?_
 rintro _ wd ⟨g25, c26, rfl, hc27, hog0, hoh0, hF⟩
 have ho8 : w.heap.size ≤ g25 := Nat.le_trans hS.mem.fr.size hog0
 refine ⟨.tuple #[sc g25 0 2 c26, vi 0], rfl, ?_⟩
 replace hS := (hS.to (hS.mem.outs hF [(g25, .fn 0 2 (u64z (fun i => getW oRec m (o_ + (iq * 24)) 24 (i : Int)) 0))] ⟨⟨rfl, hoh0, .inr hog0⟩, trivial⟩)).put (d := 13) (v := .tuple #[sc g25 0 2 c26, vi 0]) (by decide)
 clear hF
 refine hS.ordV (l := [0, 1]) ?_
 refine St.ordF [0, 0, 0, 0, 0] [5, 6, 7, 8, 9] [4] (rest := []) hS hap <| segF [(6, sc g25 0 2 c26), (7, vi 0)] [] trivial fun ac hS => ?_
 refine ord_nil ?_
 refine wp_seq ?_
 refine hS.regS [0, 0, 0, 1, 1, fx 301 (vu (cN0 m o_ iq)), fx 21 (vu (cId m o_ iq)), 1, 60] [4, 6] fun _ => seg [(24, vb (((cId m o_ iq) : Int) == 0))] [(1, none), (3, none)] [.t false, .t false, .t false, .p ((vu ((cN0 m o_ iq) / 65536) : Value) = vu (cId m o_ iq)), .p (0 ≤ 16 ∧ Int.fdiv (cN0 m o_ iq) (2 ^ (min (Int.toNat 16) 64)) = ((cN0 m o_ iq) / 65536)), .t false, .p ((((u64z (fun i => getW oRec m (o_ + (iq * 24)) 24 (i : Int)) 0) 0) : Value) = vu (cN0 m o_ iq)), .e g25, .p (0 ≤ 0 ∧ 0 < 2), .t false, .t false] ⟨(vint (cId_eq _ _ _)), shr2_u64 (by omega) (by omega) (by decide), ((u64z_rel (fun i => getW oRec m (o_ + (iq * 24)) 24 (i : Int)) 0 0).trans (cN0_eq _ _ _)), (by first | omega | decide), trivial⟩ fun ac wd hS => ?_
 refine hS.condC (((cId m o_ iq) : Int) == 0) (fun hb9o hb9 => ?_) (fun hb9o hb9 => ?_)
 ·
  have h0 : cId m o_ iq = 0 := hb9
  refine hS.regS [0, 0, 0] [4] fun _ => seg [(5, vb false)] [(0, none)] [.e (ν1 1), .e (ν1 1), .e (ν1 1), .e (ν1 1)] trivial fun ac wd hS => ?_
  refine wp_ret ?_
  refine pop_then_ret ?_
  refine St.retC 0 hS (.tuple #[.agg #[vu 0, v8 0, v8 0, vu 0], vb false]) [.e (ν1 1), .e (ν1 1), .e (ν1 1), .e (ν1 1)] trivial fun hw => ?_
  refine ⟨retd (tuple2 (agg4 (vint ?_) (vint ?_) (vint ?_) (vint ?_)) (vbool ?_)), hw.fr0⟩
  all_goals (first | exact gIf_no h0 | exact gIf_yes h0 | exact gOk_0 h0 | exact gOk_1 h0)
 ·
  have h0 : cId m o_ iq ≠ 0 := hb9
  refine wp_skip ?_
  refine pop_then ?_
  refine St.ordBeginS [(0, 1), (1, 1), (2, 1), (3, 1), (4, 1), (5, 1), (6, 1), (7, 1), (8, 1), (9, 1), (10, 1), (11, 1), (12, 1), (13, 1), (14, 1), (15, 1), (16, 1), (17, 0), (18, 1)] [(g25, .fn 0 2 (u64z (fun i => getW oRec m (o_ + (iq * 24)) 24 (i : Int)) 0))] [1] hS fun wd hS => ?_
  have hap := hS.mem.pairs (Hf := [(g25, .fn 0 2 (u64z (fun i => getW oRec m (o_ + (iq * 24)) 24 (i : Int)) 0))]) (l := [1])
  refine St.ordF [0, 0, fx 0 (vu (cN0 m o_ iq)), fx 20 (vu (cId m o_ iq)), 0, 0, fx 0 (vu (cN0 m o_ iq)), fx 0 (v8 (cKd m o_ iq)), 0, 0, fx 0 (vu (cN0 m o_ iq)), 20, fx 0 (v8 (cLv m o_ iq)), 0, 0, fx 0 (vu (cN1 m o_ iq)), 0] [0, 1, 2, 3, 4, 5, 6, 7, 8, 9, 10, 11, 12, 13, 14, 15, 16] [4] (rest := [(17, 0), (18, 1)]) hS hap <| segF [(42, .agg #[vu (cId m o_ iq), v8 (cKd m o_ iq), v8 (cLv m o_ iq), vu (cN1 m o_ iq)])] [.p ((((u64z (fun i => getW oRec m (o_ + (iq * 24)) 24 (i : Int)) 0) 1) : Value) = vu (cN1 m o_ iq)), .e g25, .p (0 ≤ 1 ∧ 1 < 2), .p ((v8 (IntKind.wrap .u8 ((cN0 m o_ iq) / 256)) : Value) = v8 (cLv m o_ iq)), .p (0 ≤ 8 ∧ Int.fdiv (cN0 m o_ iq) (2 ^ (min (Int.toNat 8) 64)) = ((cN0 m o_ iq) / 256)), .p ((((u64z (fun i => getW oRec m (o_ + (iq * 24)) 24 (i : Int)) 0) 0) : Value) = vu (cN0 m o_ iq)), .e g25, .p (0 ≤ 0 ∧ 0 < 2), .p ((v8 (IntKind.wrap .u8 (cN0 m o_ iq)) : Value) = v8 (cKd m o_ iq)), .p ((((u64z (fun i => getW oRec m (o_ + (iq * 24)) 24 (i : Int)) 0) 0) : Value) = vu (cN0 m o_ iq)), .e g25, .p (0 ≤ 0 ∧ 0 < 2), .p ((vu ((cN0 m o_ iq) / 65536) : Value) = vu (cId m o_ iq)), .p (0 ≤ 16 ∧ Int.fdiv (cN0 m o_ iq) (2 ^ (min (Int.toNat 16) 64)) = ((cN0 m o_ iq) / 65536)), .p ((((u64z (fun i => getW oRec m (o_ + (iq * 24)) 24 (i : Int)) 0) 0) : Value) = vu (cN0 m o_ iq)), .e g25, .p (0 ≤ 0 ∧ 0 < 2)] ⟨((u64z_rel (fun i => getW oRec m (o_ + (iq * 24)) 24 (i : Int)) 0 1).trans (cN1_eq _ _ _)), (by first | omega | decide), (vint (cLv_eq _ _ _)), shr2_u64 (by omega) (by omega) (by decide), ((u64z_rel (fun i => getW oRec m (o_ + (iq * 24)) 24 (i : Int)) 0 0).trans (cN0_eq _ _ _)), (by first | omega | decide), (vint (cKd_eq _ _ _)), ((u64z_rel (fun i => getW oRec m (o_ + (iq * 24)) 24 (i : Int)) 0 0).trans (cN0_eq _ _ _)), (by first | omega | decide), (vint (cId_eq _ _ _)), shr2_u64 (by omega) (by omega) (by decide), ((u64z_rel (fun i => getW oRec m (o_ + (iq * 24)) 24 (i : Int)) 0 0).trans (cN0_eq _ _ _)), (by first | omega | decide), trivial⟩ fun ac hS => ?_
  refine St.ord1 17 [0] [4] [1] hS rfl fun _ => seg [] [(0, some ((ν1 1), .cells [vu (cId m o_ iq), v8 (cKd m o_ iq), v8 (cLv m o_ iq), vu (cN1 m o_ iq)] 117)), (1, none)] [.e (ν1 1), .e (ν1 1), .e (ν1 1), .e (ν1 1)] trivial ⟨by as_aux_lemma => kernel_rfl, fun ac wd hS => ?_⟩
  refine St.ordF [0] [18] [4] (rest := []) hS hap <| segF [(5, vb true)] [] trivial fun ac hS => ?_
  refine ord_nil ?_
  refine wp_ret ?_
  refine St.retC 0 hS (.tuple #[.agg #[vu (cId m o_ iq), v8 (cKd m o_ iq), v8 (cLv m o_ iq), vu (cN1 m o_ iq)], vb true]) [.e (ν1 1), .e (ν1 1), .e (ν1 1), .e (ν1 1)] trivial fun hw => ?_
  refine ⟨retd (tuple2 (agg4 (vint ?_) (vint ?_) (vint ?_) (vint ?_)) (vbool ?_)), hw.fr0⟩
  all_goals (first | exact gIf_no h0 | exact gIf_yes h0 | exact gOk_0 h0 | exact gOk_1 h0)

set_option maxRecDepth 100000 in
set_option maxHeartbeats 1000000 in
theorem cl_All_some (b : Nat) (F : Nat → Prop) (m : AM) (o_ : Int) (z : Int) (w : World) (hr : (arR b F m).R w) (ho : 0 ≤ o_ ∧ 0 ≤ z ∧ o_ + z ≤ 4294967296) (hthr : thr m o_ z = true) (hp : 0 < cCnt m o_ z) :
    Calls Tryd.prog 67 #[.agg #[pt b 0, vi o_, vi z]] w fun e w' => ∃ (g2 : Nat) (c2 : Nat), e = .returned (sc g2 0 (cCnt m o_ z) c2) ∧ w.heap.size ≤ g2 ∧ HE.holds w' g2 (.fn 0 (0 + (cCnt m o_ z) * 4) (entV (cEnt m o_) 0)) ∧ Fr w w' no no := by
 have hsl : cSl z * 24 ≤ z ∧ 0 ≤ cSl z := by unfold cSl; omega
 refine enter (args := [.agg #[pt b 0, vi o_, vi z]]) (D := no) (A := []) Tryd.func67 rfl 26 rfl [] (WS.startL trivial) fun ac hS => ?_
 refine hS.regS [0, 0] [] fun ν1 => seg [(1, pt (ν1 0) 0)] [(0, some ((ν1 0), .cells [pt b 0, vi o_, vi z] 112))] [] trivial fun ac wd hS => ?_
 refine hS.regS [0] [1] fun _ => seg [(3, vnil)] [(0, none)] [] trivial fun ac wd hS => ?_
 refine wp_seq ?_
 replace hS := hS.to (hS.mem.grNew 117 4 (entV (cEnt m o_) 0))
 refine wp_region_seq ?_
 refine hS.opsC 1 [0] [1, 3] fun _ => seg [(7, .agg #[pt b 0, vi o_, vi z])] [(0, none)] [.e (ν1 0), .e (ν1 0), .e (ν1 0)] trivial fun ac wd hS => ?_
 refine hS.call0 148 #[.agg #[pt b 0, vi o_, vi z]] 8 (cl_slots b o_ z _  (by first | assumption | omega | (simp_all; done) | (simp_all; omega))) fun ac wd hS => ?_
 refine hS.opsC 1 [0] [1, 3, 8] fun _ => seg [(9, vi 0)] [(0, none)] [] trivial fun ac wd hS => ?_
 refine list_nil_seq ?_
 refine wp_block ?_
 refine St.loopC (σ := Int × Option Addr × Nat × (Nat → Prop)) (fun (x : Int × Option Addr × Nat × (Nat → Prop)) => match x with | (x9, xo, xc, Fx) => ⟨[(1, [], pt (ν1 0) 0), (3, [], .slice xo (Int.toNat x9) xc), (8, [], vi (cSl z)), (9, [], vi x9)], [((ν1 0), .cells [pt b 0, vi o_, vi z] 112)], [grR 117 4 (.slice xo (Int.toNat x9) xc) Fx ((Int.toNat x9), (entV (cEnt m o_) 0))], (0 ≤ x9 ∧ x9 ≤ cSl z) ∧ (NoUp (cNo m o_) x9) ∧ True, Int.toNat (cSl z - x9)⟩) (0, none, 0, no) ⟨(by first | omega | exact noUp_zero _), (by first | omega | exact noUp_zero _), trivial⟩ hS ?_
 clear hS
 rintro ⟨x9, xo, xc, Fx⟩ ⟨i0, i1, -⟩ ac wd hS
 replace i0 : 0 ≤ x9 ∧ x9 ≤ cSl z := i0
 replace i1 : NoUp (cNo m o_) x9 := i1
 refine hS.regS [0] [1, 3, 8, 9] fun _ => seg [(10, vb (decide ((x9 : Int) < (cSl z))))] [(0, none)] [] trivial fun ac wd hS => ?_
 refine wp_seq ?_
 refine hS.condC (decide ((x9 : Int) < (cSl z))) (fun hb1o hb1 => ?_) (fun hb1o hb1 => ?_)
 ·
  refine wp_skip ?_
  refine pop_then ?_
  refine wp_seq ?_
  refine wp_block ?_
  refine hS.regS [0, 0] [1, 3, 8, 9] fun _ => seg [(4, vi x9)] [(0, none)] [] trivial fun ac wd hS => ?_
  refine wp_region_seq ?_
  refine hS.opsC 2 [0, 0] [1, 3, 8, 9] fun _ => seg [(13, .agg #[pt b 0, vi o_, vi z]), (14, vi x9)] [(0, none)] [.e (ν1 0), .e (ν1 0), .e (ν1 0)] trivial fun ac wd hS => ?_
  refine hS.call0 149 #[.agg #[pt b 0, vi o_, vi z], vi x9] 15 (cl_get b F m o_ z x9 _ (Res.keep hr hS.mem.fr) (by first | assumption | omega | (simp_all; done) | (simp_all; omega)) (by first | assumption | omega | (simp_all; done) | (simp_all; omega)) (by first | assumption | omega | (simp_all; done) | (simp_all; omega))) fun ac wd hS => ?_
  refine hS.opsC 6 [0, 0, 0, 0, 100, 0] [1, 3, 8, 9] fun ν8 => seg [(5, pt (ν8 0) 0), (6, vb (gOk m o_ x9))] [(0, none), (1, some ((ν8 0), .cells [vu (gIf m o_ x9 (cId m o_ x9)), v8 (gIf m o_ x9 (cKd m o_ x9)), v8 (gIf m o_ x9 (cLv m o_ x9)), vu (gIf m o_ x9 (cN1 m o_ x9))] 117))] [.e (ν8 0), .e (ν8 0), .e (ν8 0), .e (ν8 0)] trivial fun ac wd hS => ?_
  refine list_nil_seq ?_
  refine wp_seq ?_
  refine hS.regS [0, 0] [1, 3, 5, 8, 9] fun _ => seg [(19, vb (!(gOk m o_ x9)))] [(0, none), (1, none)] [] trivial fun ac wd hS => ?_
  refine hS.condC (!(gOk m o_ x9)) (fun hb2o hb2 => ?_) (fun hb2o hb2 => ?_)
  ·
   have h0 : cId m o_ x9 = 0 := gOk_no (by simpa using hb2)
   have hcc : cCnt m o_ z = Int.toNat x9 := cCnt_at i1 i0.1 (by omega) h0
   refine wp_exit ?_
   refine pop_then_exit ?_
   refine pop_block_miss rfl ?_
   refine pop_then_exit ?_
   refine pop_then_exit ?_
   refine pop_block_hit ?_
   refine pop_then ?_
   refine hS.regS [0, 0] [] fun _ => seg [(2, .slice xo (Int.toNat x9) xc)] [] [] trivial fun ac wd hS => ?_
   refine wp_ret ?_
   have hm_ : (Int.toNat x9) = (cCnt m o_ z) := by omega
   replace hS := hS.to (hS.mem.grRe (v := .slice xo (Int.toNat x9) xc) (v' := .slice xo (cCnt m o_ z) xc) (m := (Int.toNat x9)) (m' := (cCnt m o_ z)) (f := (entV (cEnt m o_) 0)) 0 (by rw [hm_]) hm_)
   replace hS := hS.fix 2 (.slice xo (cCnt m o_ z) xc) (show (.slice xo (Int.toNat x9) xc : Value) = .slice xo (cCnt m o_ z) xc by rw [hm_])
   obtain ⟨gg3, cp4, hv_, hcp_, hO⟩ := WS.grOpen (e := 117) (sz := 4) (m := (cCnt m o_ z)) (f := (entV (cEnt m o_) 0)) hS.mem (by omega)
   obtain ⟨rfl, rfl⟩ : some (⟨gg3, 0, none⟩ : Addr) = xo ∧ cp4 = xc := by cases hv_; exact ⟨rfl, rfl⟩
   clear hv_
   replace hS := hS.to hO
   clear hO
   refine St.retC 0 hS (sc gg3 0 (cCnt m o_ z) cp4) [] trivial fun hw => ?_
   refine ⟨gg3, cp4, retd rfl, ((hw.getm 0 gg3 (.row 117 ((cCnt m o_ z) * 4) (cp4 * 4) (entV (cEnt m o_) 0))).resolve_right (fun h => h)), (HE.fn_hi (by omega) (HE.of_row (hw.get 0 gg3 (.row 117 ((cCnt m o_ z) * 4) (cp4 * 4) (entV (cEnt m o_) 0))) (fun _ _ => rfl))), hw.fr0⟩
  ·
   have hne : cId m o_ x9 ≠ 0 := gOk_yes (by simpa using hb2)
   refine wp_skip ?_
   refine pop_then ?_
   refine wp_region_lit ?_
   refine hS.opsC 3 [0, 100, 0] [1, 3, 8, 9] fun ν11 => seg [(20, .slice xo (Int.toNat x9) xc), (22, sc (ν11 0) 0 1 1)] [(0, none), (2, some ((ν11 0), .cells [vu (gIf m o_ x9 (cId m o_ x9)), v8 (gIf m o_ x9 (cKd m o_ x9)), v8 (gIf m o_ x9 (cLv m o_ x9)), vu (gIf m o_ x9 (cN1 m o_ x9))] 117))] [.e (ν8 0), .e (ν8 0), .e (ν8 0), .e (ν8 0)] trivial fun ac wd hS => ?_
   obtain ⟨i_, hi_, hz_, hs_, hb_⟩ := info_get (P := Tryd.prog) (e := 117) (z := .agg #[vu 0, v8 0, v8 0, vu 0]) (s := 4) (b := 24) (by kernel_rfl)
   refine Runs1.list ?_
   refine St.appV (m := (Int.toNat x9)) (f := (entV (cEnt m o_) 0)) (news := [vu (gIf m o_ x9 (cId m o_ x9)), v8 (gIf m o_ x9 (cKd m o_ x9)), v8 (gIf m o_ x9 (cLv m o_ x9)), vu (gIf m o_ x9 (cN1 m o_ x9))]) (bx := (ν11 0)) (cx := 1) (Tx := 117) 0 hS (.tmp 20) (.tmp 22) 134 rfl rfl (by decide) Tryd.underlying134 hi_ hz_ hs_ (by omega) rfl (by decide) 1 rfl rfl (by omega) fun ac wd v2_ F7 hB8 hS => ?_
   obtain ⟨xo5, xc6, rfl⟩ := hB8.slice
   refine hS.opsC 1 [0] [1, 8, 9] fun _ => seg [(3, .slice xo5 ((Int.toNat x9) + 1) xc6)] [(0, none)] [] trivial fun ac wd hS => ?_
   refine list_nil ?_
   refine pop_block ?_
   refine pop_then ?_
   refine hS.regC [20, 0] [1, 3, 8] fun _ => seg [(9, vi (x9 + 1))] [(0, none)] [.p (fit .i64 (x9 + 1))] ⟨fit_i64 (by omega), trivial⟩ fun ac wd hS => ?_
   replace hS := hS.to (hS.mem.grTell (m := ((Int.toNat x9) + 1)) 0 (entV (cEnt m o_) 0) (gr_ent (a := (gIf m o_ x9 (cId m o_ x9))) (b := (gIf m o_ x9 (cKd m o_ x9))) (c := (gIf m o_ x9 (cLv m o_ x9))) (d := (gIf m o_ x9 (cN1 m o_ x9))) (by show (cId m o_ ((Int.toNat x9 : Nat) : Int), cKd m o_ ((Int.toNat x9 : Nat) : Int), cLv m o_ ((Int.toNat x9 : Nat) : Int), cN1 m o_ ((Int.toNat x9 : Nat) : Int)) = ((gIf m o_ x9 (cId m o_ x9)), (gIf m o_ x9 (cKd m o_ x9)), (gIf m o_ x9 (cLv m o_ x9)), (gIf m o_ x9 (cN1 m o_ x9))); rw [Int.toNat_of_nonneg i0.1, ← gIf_yes hne, ← gIf_yes hne, ← gIf_yes hne, ← gIf_yes hne])))
   have hm_ : (Int.toNat x9) + 1 = (Int.toNat (x9 + 1)) := by omega
   replace hS := hS.to (hS.mem.grRe (v := .slice xo5 ((Int.toNat x9) + 1) xc6) (v' := .slice xo5 (Int.toNat (x9 + 1)) xc6) (m := ((Int.toNat x9) + 1)) (m' := (Int.toNat (x9 + 1))) (f := (entV (cEnt m o_) 0)) 0 (by rw [hm_]) hm_)
   replace hS := hS.fix 3 (.slice xo5 (Int.toNat (x9 + 1)) xc6) (show (.slice xo5 ((Int.toNat x9) + 1) xc6 : Value) = .slice xo5 (Int.toNat (x9 + 1)) xc6 by rw [hm_])
   exact pop_then (hS.next ((x9 + 1), xo5, xc6, F7) ⟨(by first | omega | assumption | (simp; done) | (simp; omega)), (by exact cCnt_step i1 i0.1 hne), trivial⟩ (by dsimp only; omega))
 ·
  have hcc : cCnt m o_ z = Int.toNat x9 := cCnt_end i1 i0.1 i0.2 (by omega)
  refine wp_exit ?_
  refine pop_then_exit ?_
  refine pop_then_exit ?_
  refine pop_block_hit ?_
  refine pop_then ?_
  refine hS.regS [0, 0] [] fun _ => seg [(2, .slice xo (Int.toNat x9) xc)] [] [] trivial fun ac wd hS => ?_
  refine wp_ret ?_
  have hm_ : (Int.toNat x9) = (cCnt m o_ z) := by omega
  replace hS := hS.to (hS.mem.grRe (v := .slice xo (Int.toNat x9) xc) (v' := .slice xo (cCnt m o_ z) xc) (m := (Int.toNat x9)) (m' := (cCnt m o_ z)) (f := (entV (cEnt m o_) 0)) 0 (by rw [hm_]) hm_)
  replace hS := hS.fix 2 (.slice xo (cCnt m o_ z) xc) (show (.slice xo (Int.toNat x9) xc : Value) = .slice xo (cCnt m o_ z) xc by rw [hm_])
  obtain ⟨gg9, cp10, hv_, hcp_, hO⟩ := WS.grOpen (e := 117) (sz := 4) (m := (cCnt m o_ z)) (f := (entV (cEnt m o_) 0)) hS.mem (by omega)
  obtain ⟨rfl, rfl⟩ : some (⟨gg9, 0, none⟩ : Addr) = xo ∧ cp10 = xc := by cases hv_; exact ⟨rfl, rfl⟩
  clear hv_
  replace hS := hS.to hO
  clear hO
  refine St.retC 0 hS (sc gg9 0 (cCnt m o_ z) cp10) [] trivial fun hw => ?_
  refine ⟨gg9, cp10, retd rfl, ((hw.getm 0 gg9 (.row 117 ((cCnt m o_ z) * 4) (cp10 * 4) (entV (cEnt m o_) 0))).resolve_right (fun h => h)), (HE.fn_hi (by omega) (HE.of_row (hw.get 0 gg9 (.row 117 ((cCnt m o_ z) * 4) (cp10 * 4) (entV (cEnt m o_) 0))) (fun _ _ => rfl))), hw.fr0⟩

set_option maxRecDepth 100000 in
set_option maxHeartbeats 1000000 in
theorem cl_All_none (b : Nat) (F : Nat → Prop) (m : AM) (o_ : Int) (z : Int) (w : World) (hr : (arR b F m).R w) (ho : 0 ≤ o_ ∧ 0 ≤ z ∧ o_ + z ≤ 4294967296) (hthr : thr m o_ z = true) (hp : cCnt m o_ z = 0) :
    Calls Tryd.prog 67 #[.agg #[pt b 0, vi o_, vi z]] w fun e w' => e = .returned (vnil) ∧ Fr w w' no no := by
 have hsl : cSl z * 24 ≤ z ∧ 0 ≤ cSl z := by unfold cSl; omega
 refine enter (args := [.agg #[pt b 0, vi o_, vi z]]) (D := no) (A := []) Tryd.func67 rfl 26 rfl [] (WS.startL trivial) fun ac hS => ?_
 refine hS.regS [0, 0] [] fun ν1 => seg [(1, pt (ν1 0) 0)] [(0, some ((ν1 0), .cells [pt b 0, vi o_, vi z] 112))] [] trivial fun ac wd hS => ?_
 refine hS.regS [0] [1] fun _ => seg [(3, vnil)] [(0, none)] [] trivial fun ac wd hS => ?_
 refine wp_seq ?_
 replace hS := hS.to (hS.mem.grNew 117 4 (entV (cEnt m o_) 0))
 refine wp_region_seq ?_
 refine hS.opsC 1 [0] [1, 3] fun _ => seg [(7, .agg #[pt b 0, vi o_, vi z])] [(0, none)] [.e (ν1 0), .e (ν1 0), .e (ν1 0)] trivial fun ac wd hS => ?_
 refine hS.call0 148 #[.agg #[pt b 0, vi o_, vi z]] 8 (cl_slots b o_ z _  (by first | assumption | omega | (simp_all; done) | (simp_all; omega))) fun ac wd hS => ?_
 refine hS.opsC 1 [0] [1, 3, 8] fun _ => seg [(9, vi 0)] [(0, none)] [] trivial fun ac wd hS => ?_
 refine list_nil_seq ?_
 refine wp_block ?_
 refine St.loopC (σ := Int × Option Addr × Nat × (Nat → Prop)) (fun (x : Int × Option Addr × Nat × (Nat → Prop)) => match x with | (x9, xo, xc, Fx) => ⟨[(1, [], pt (ν1 0) 0), (3, [], .slice xo (Int.toNat x9) xc), (8, [], vi (cSl z)), (9, [], vi x9)], [((ν1 0), .cells [pt b 0, vi o_, vi z] 112)], [grR 117 4 (.slice xo (Int.toNat x9) xc) Fx ((Int.toNat x9), (entV (cEnt m o_) 0))], (0 ≤ x9 ∧ x9 ≤ cSl z) ∧ (NoUp (cNo m o_) x9) ∧ True, Int.toNat (cSl z - x9)⟩) (0, none, 0, no) ⟨(by first | omega | exact noUp_zero _), (by first | omega | exact noUp_zero _), trivial⟩ hS ?_
 clear hS
 rintro ⟨x9, xo, xc, Fx⟩ ⟨i0, i1, -⟩ ac wd hS
 replace i0 : 0 ≤ x9 ∧ x9 ≤ cSl z := i0
 replace i1 : NoUp (cNo m o_) x9 := i1
 refine hS.regS [0] [1, 3, 8, 9] fun _ => seg [(10, vb (decide ((x9 : Int) < (cSl z))))] [(0, none)] [] trivial fun ac wd hS => ?_
 refine wp_seq ?_
 refine hS.condC (decide ((x9 : Int) < (cSl z))) (fun hb1o hb1 => ?_) (fun hb1o hb1 => ?_)
 ·
  refine wp_skip ?_
  refine pop_then ?_
  refine wp_seq ?_
  refine wp_block ?_
  refine hS.regS [0, 0] [1, 3, 8, 9] fun _ => seg [(4, vi x9)] [(0, none)] [] trivial fun ac wd hS => ?_
  refine wp_region_seq ?_
  refine hS.opsC 2 [0, 0] [1, 3, 8, 9] fun _ => seg [(13, .agg #[pt b 0, vi o_, vi z]), (14, vi x9)] [(0, none)] [.e (ν1 0), .e (ν1 0), .e (ν1 0)] trivial fun ac wd hS => ?_
  refine hS.call0 149 #[.agg #[pt b 0, vi o_, vi z], vi x9] 15 (cl_get b F m o_ z x9 _ (Res.keep hr hS.mem.fr) (by first | assumption | omega | (simp_all; done) | (simp_all; omega)) (by first | assumption | omega | (simp_all; done) | (simp_all; omega)) (by first | assumption | omega | (simp_all; done) | (simp_all; omega))) fun ac wd hS => ?_
  refine hS.opsC 6 [0, 0, 0, 0, 100, 0] [1, 3, 8, 9] fun ν8 => seg [(5, pt (ν8 0) 0), (6, vb (gOk m o_ x9))] [(0, none), (1, some ((ν8 0), .cells [vu (gIf m o_ x9 (cId m o_ x9)), v8 (gIf m o_ x9 (cKd m o_ x9)), v8 (gIf m o_ x9 (cLv m o_ x9)), vu (gIf m o_ x9 (cN1 m o_ x9))] 117))] [.e (ν8 0), .e (ν8 0), .e (ν8 0), .e (ν8 0)] trivial fun ac wd hS => ?_
  refine list_nil_seq ?_
  refine wp_seq ?_
  refine hS.regS [0, 0] [1, 3, 5, 8, 9] fun _ => seg [(19, vb (!(gOk m o_ x9)))] [(0, none), (1, none)] [] trivial fun ac wd hS => ?_
  refine hS.condC (!(gOk m o_ x9)) (fun hb2o hb2 => ?_) (fun hb2o hb2 => ?_)
  ·
   have h0 : cId m o_ x9 = 0 := gOk_no (by simpa using hb2)
   have hcc : cCnt m o_ z = Int.toNat x9 := cCnt_at i1 i0.1 (by omega) h0
   refine wp_exit ?_
   refine pop_then_exit ?_
   refine pop_block_miss rfl ?_
   refine pop_then_exit ?_
   refine pop_then_exit ?_
   refine pop_block_hit ?_
   refine pop_then ?_
   refine hS.regS [0, 0] [] fun _ => seg [(2, .slice xo (Int.toNat x9) xc)] [] [] trivial fun ac wd hS => ?_
   refine wp_ret ?_
   have hm_ : (Int.toNat x9) = 0 := by omega
   replace hS := hS.to (hS.mem.grRe (v := .slice xo (Int.toNat x9) xc) (v' := .slice xo 0 xc) (m := (Int.toNat x9)) (m' := 0) (f := (entV (cEnt m o_) 0)) 0 (by rw [hm_]) hm_)
   replace hS := hS.fix 2 (.slice xo 0 xc) (show (.slice xo (Int.toNat x9) xc : Value) = .slice xo 0 xc by rw [hm_])
   obtain ⟨hv_, hO⟩ := WS.grNil (e := 117) (sz := 4) (m := 0) (f := (entV (cEnt m o_) 0)) hS.mem (by omega)
   obtain ⟨rfl, rfl⟩ : (none : Option Addr) = xo ∧ 0 = xc := by cases hv_; exact ⟨rfl, rfl⟩
   clear hv_
   replace hS := hS.to hO
   clear hO
   refine St.retC 0 hS (vnil) [] trivial fun hw => ?_
   refine ⟨retd rfl, hw.fr0⟩
  ·
   have hne : cId m o_ x9 ≠ 0 := gOk_yes (by simpa using hb2)
   refine wp_skip ?_
   refine pop_then ?_
   refine wp_region_lit ?_
   refine hS.opsC 3 [0, 100, 0] [1, 3, 8, 9] fun ν11 => seg [(20, .slice xo (Int.toNat x9) xc), (22, sc (ν11 0) 0 1 1)] [(0, none), (2, some ((ν11 0), .cells [vu (gIf m o_ x9 (cId m o_ x9)), v8 (gIf m o_ x9 (cKd m o_ x9)), v8 (gIf m o_ x9 (cLv m o_ x9)), vu (gIf m o_ x9 (cN1 m o_ x9))] 117))] [.e (ν8 0), .e (ν8 0), .e (ν8 0), .e (ν8 0)] trivial fun ac wd hS => ?_
   obtain ⟨i_, hi_, hz_, hs_, hb_⟩ := info_get (P := Tryd.prog) (e := 117) (z := .agg #[vu 0, v8 0, v8 0, vu 0]) (s := 4) (b := 24) (by kernel_rfl)
   refine Runs1.list ?_
   refine St.appV (m := (Int.toNat x9)) (f := (entV (cEnt m o_) 0)) (news := [vu (gIf m o_ x9 (cId m o_ x9)), v8 (gIf m o_ x9 (cKd m o_ x9)), v8 (gIf m o_ x9 (cLv m o_ x9)), vu (gIf m o_ x9 (cN1 m o_ x9))]) (bx := (ν11 0)) (cx := 1) (Tx := 117) 0 hS (.tmp 20) (.tmp 22) 134 rfl rfl (by decide) Tryd.underlying134 hi_ hz_ hs_ (by omega) rfl (by decide) 1 rfl rfl (by omega) fun ac wd v2_ F5 hB6 hS => ?_
   obtain ⟨xo3, xc4, rfl⟩ := hB6.slice
   refine hS.opsC 1 [0] [1, 8, 9] fun _ => seg [(3, .slice xo3 ((Int.toNat x9) + 1) xc4)] [(0, none)] [] trivial fun ac wd hS => ?_
   refine list_nil ?_
   refine pop_block ?_
   refine pop_then ?_
   refine hS.regC [20, 0] [1, 3, 8] fun _ => seg [(9, vi (x9 + 1))] [(0, none)] [.p (fit .i64 (x9 + 1))] ⟨fit_i64 (by omega), trivial⟩ fun ac wd hS => ?_
   replace hS := hS.to (hS.mem.grTell (m := ((Int.toNat x9) + 1)) 0 (entV (cEnt m o_) 0) (gr_ent (a := (gIf m o_ x9 (cId m o_ x9))) (b := (gIf m o_ x9 (cKd m o_ x9))) (c := (gIf m o_ x9 (cLv m o_ x9))) (d := (gIf m o_ x9 (cN1 m o_ x9))) (by show (cId m o_ ((Int.toNat x9 : Nat) : Int), cKd m o_ ((Int.toNat x9 : Nat) : Int), cLv m o_ ((Int.toNat x9 : Nat) : Int), cN1 m o_ ((Int.toNat x9 : Nat) : Int)) = ((gIf m o_ x9 (cId m o_ x9)), (gIf m o_ x9 (cKd m o_ x9)), (gIf m o_ x9 (cLv m o_ x9)), (gIf m o_ x9 (cN1 m o_ x9))); rw [Int.toNat_of_nonneg i0.1, ← gIf_yes hne, ← gIf_yes hne, ← gIf_yes hne, ← gIf_yes hne])))
   have hm_ : (Int.toNat x9) + 1 = (Int.toNat (x9 + 1)) := by omega
   replace hS := hS.to (hS.mem.grRe (v := .slice xo3 ((Int.toNat x9) + 1) xc4) (v' := .slice xo3 (Int.toNat (x9 + 1)) xc4) (m := ((Int.toNat x9) + 1)) (m' := (Int.toNat (x9 + 1))) (f := (entV (cEnt m o_) 0)) 0 (by rw [hm_]) hm_)
   replace hS := hS.fix 3 (.slice xo3 (Int.toNat (x9 + 1)) xc4) (show (.slice xo3 ((Int.toNat x9) + 1) xc4 : Value) = .slice xo3 (Int.toNat (x9 + 1)) xc4 by rw [hm_])
   exact pop_then (hS.next ((x9 + 1), xo3, xc4, F5) ⟨(by first | omega | assumption | (simp; done) | (simp; omega)), (by exact cCnt_step i1 i0.1 hne), trivial⟩ (by dsimp only; omega))
 ·
  have hcc : cCnt m o_ z = Int.toNat x9 := cCnt_end i1 i0.1 i0.2 (by omega)
  refine wp_exit ?_
  refine pop_then_exit ?_
  refine pop_then_exit ?_
  refine pop_block_hit ?_
  refine pop_then ?_
  refine hS.regS [0, 0] [] fun _ => seg [(2, .slice xo (Int.toNat x9) xc)] [] [] trivial fun ac wd hS => ?_
  refine wp_ret ?_
  have hm_ : (Int.toNat x9) = 0 := by omega
  replace hS := hS.to (hS.mem.grRe (v := .slice xo (Int.toNat x9) xc) (v' := .slice xo 0 xc) (m := (Int.toNat x9)) (m' := 0) (f := (entV (cEnt m o_) 0)) 0 (by rw [hm_]) hm_)
  replace hS := hS.fix 2 (.slice xo 0 xc) (show (.slice xo (Int.toNat x9) xc : Value) = .slice xo 0 xc by rw [hm_])
  obtain ⟨hv_, hO⟩ := WS.grNil (e := 117) (sz := 4) (m := 0) (f := (entV (cEnt m o_) 0)) hS.mem (by omega)
  obtain ⟨rfl, rfl⟩ : (none : Option Addr) = xo ∧ 0 = xc := by cases hv_; exact ⟨rfl, rfl⟩
  clear hv_
  replace hS := hS.to hO
  clear hO
  refine St.retC 0 hS (vnil) [] trivial fun hw => ?_
  refine ⟨retd rfl, hw.fr0⟩

set_option maxRecDepth 100000 in
set_option maxHeartbeats 1000000 in
theorem cl_find_none (b : Nat) (F : Nat → Prop) (m : AM) (o_ : Int) (z : Int) (id : Int) (w : World) (hr : (arR b F m).R w) (ho : 0 ≤ o_ ∧ 0 ≤ z ∧ o_ + z ≤ 4294967296) (hthr : thr m o_ z = true) (hp : cCnt m o_ z = 0) :
    Calls Tryd.prog 145 #[.agg #[pt b 0, vi o_, vi z], vu id] w fun e w' => e = .returned (vi (cFind m o_ z id)) ∧ Fr w w' no no := by
 have hsl : cSl z * 24 ≤ z ∧ 0 ≤ cSl z := by unfold cSl; omega
 have hle := cCnt_le m o_ z
 refine enter (args := [.agg #[pt b 0, vi o_, vi z], vu id]) (D := no) (A := []) Tryd.func145 rfl 21 rfl [] (WS.startL trivial) fun ac hS => ?_
 refine hS.regS [0, 0] [1] fun ν1 => seg [(2, pt (ν1 0) 0)] [(0, some ((ν1 0), .cells [pt b 0, vi o_, vi z] 112))] [] trivial fun ac wd hS => ?_
 refine wp_seq ?_
 refine wp_region_seq ?_
 refine hS.opsC 1 [0] [1] fun _ => seg [(7, .agg #[pt b 0, vi o_, vi z])] [] [.e (ν1 0), .e (ν1 0), .e (ν1 0)] trivial fun ac wd hS => ?_
 refine hS.call0 67 #[.agg #[pt b 0, vi o_, vi z]] 8 (cl_All_none b F m o_ z _ (Res.keep hr hS.mem.fr) (by first | assumption | omega | (simp_all; done) | (simp_all; omega)) (by first | assumption | omega | (simp_all; done) | (simp_all; omega)) (by first | assumption | omega | (simp_all; done) | (simp_all; omega))) fun ac wd hS => ?_
 refine hS.opsC 2 [0, 0] [1, 8] fun _ => seg [(9, vi 0), (10, vi 0)] [] [] trivial fun ac wd hS => ?_
 refine list_nil_seq ?_
 refine wp_block ?_
 refine wp_loop_rounds 1 ?_
 refine rounds_in ?_
 refine hS.regS [0] [1, 8, 9, 10] fun _ => seg [(11, vb false)] [] [] trivial fun ac wd hS => ?_
 refine wp_seq ?_
 refine hS.condF ?_
 refine wp_exit ?_
 refine pop_then_exit ?_
 refine pop_then_exit ?_
 refine pop_block_hit ?_
 refine pop_then ?_
 refine hS.regS [0] [] fun _ => seg [(4, vi (-1))] [] [] trivial fun ac wd hS => ?_
 refine wp_ret ?_
 refine St.retC 0 hS (vi (-1)) [] trivial fun hw => ?_
 refine ⟨retd (vint ?_), hw.fr0⟩
 all_goals (exact cFind_no (x := 0) (noUp_zero _) (by omega))

set_option maxRecDepth 100000 in
set_option maxHeartbeats 1000000 in
theorem cl_find_some (b : Nat) (F : Nat → Prop) (m : AM) (o_ : Int) (z : Int) (id : Int) (w : World) (hr : (arR b F m).R w) (ho : 0 ≤ o_ ∧ 0 ≤ z ∧ o_ + z ≤ 4294967296) (hthr : thr m o_ z = true) (hp : 0 < cCnt m o_ z) :
    Calls Tryd.prog 145 #[.agg #[pt b 0, vi o_, vi z], vu id] w fun e w' => e = .returned (vi (cFind m o_ z id)) ∧ Fr w w' no no := by
 have hsl : cSl z * 24 ≤ z ∧ 0 ≤ cSl z := by unfold cSl; omega
 have hle := cCnt_le m o_ z
 refine enter (args := [.agg #[pt b 0, vi o_, vi z], vu id]) (D := no) (A := []) Tryd.func145 rfl 21 rfl [] (WS.startL trivial) fun ac hS => ?_
 refine hS.regS [0, 0] [1] fun ν1 => seg [(2, pt (ν1 0) 0)] [(0, some ((ν1 0), .cells [pt b 0, vi o_, vi z] 112))] [] trivial fun ac wd hS => ?_
 refine wp_seq ?_
 refine wp_region_seq ?_
 refine hS.opsC 1 [0] [1] fun _ => seg [(7, .agg #[pt b 0, vi o_, vi z])] [] [.e (ν1 0), .e (ν1 0), .e (ν1 0)] trivial fun ac wd hS => ?_
 refine hS.callC 67 #[.agg #[pt b 0, vi o_, vi z]] (cl_All_some b F m o_ z _ (Res.keep hr hS.mem.fr) (by first | assumption | omega | (simp_all; done) | (simp_all; omega)) (by first | assumption | omega | (simp_all; done) | (simp_all; omega)) (by first | assumption | omega | (simp_all; done) | (simp_all; omega))) ?_
 rintro _ wd ⟨g21, c22, rfl, hog0, hoh0, hF⟩
 have ho3 : w.heap.size ≤ g21 := Nat.le_trans hS.mem.fr.size hog0
 refine ⟨sc g21 0 (cCnt m o_ z) c22, rfl, ?_⟩
 replace hS := (hS.to (hS.mem.outs hF [(g21, .fn 0 (0 + (cCnt m o_ z) * 4) (entV (cEnt m o_) 0))] ⟨⟨rfl, hoh0, .inr hog0⟩, trivial⟩)).put (d := 8) (v := sc g21 0 (cCnt m o_ z) c22) (by decide)
 clear hF
 refine hS.opsC 2 [0, 0] [1, 8] fun _ => seg [(9, vi (((cCnt m o_ z) : Nat) : Int)), (10, vi 0)] [(0, none)] [] trivial fun ac wd hS => ?_
 refine list_nil_seq ?_
 refine wp_block ?_
 refine St.loopC (σ := Int) (fun (x10 : Int) => ⟨[(1, [], vu id), (8, [], sc g21 0 (cCnt m o_ z) c22), (9, [], vi (((cCnt m o_ z) : Nat) : Int)), (10, [], vi x10)], [(g21, .fn 0 (0 + (cCnt m o_ z) * 4) (entV (cEnt m o_) 0))], [], (0 ≤ x10 ∧ x10 ≤ ((cCnt m o_ z : Nat) : Int)) ∧ (NoUp (cIs m o_ id) x10) ∧ True, Int.toNat (((cCnt m o_ z : Nat) : Int) - x10)⟩) 0 ⟨(by first | omega | exact noUp_zero _), (by first | omega | exact noUp_zero _), trivial⟩ hS ?_
 clear hS
 rintro x10 ⟨i0, i1, -⟩ ac wd hS
 replace i0 : 0 ≤ x10 ∧ x10 ≤ ((cCnt m o_ z : Nat) : Int) := i0
 replace i1 : NoUp (cIs m o_ id) x10 := i1
 refine hS.regS [0] [1, 8, 9, 10] fun _ => seg [(11, vb (decide ((x10 : Int) < (((cCnt m o_ z) : Nat) : Int))))] [(0, none)] [] trivial fun ac wd hS => ?_
 refine wp_seq ?_
 refine hS.condC (decide ((x10 : Int) < (((cCnt m o_ z) : Nat) : Int))) (fun hb4o hb4 => ?_) (fun hb4o hb4 => ?_)
 ·
  refine wp_skip ?_
  refine pop_then ?_
  refine wp_seq ?_
  refine wp_block ?_
  refine hS.regS [0, 20, fx 0 (.agg #[vu (cId m o_ ((Int.toNat x10 : Nat) : Int)), v8 (cKd m o_ ((Int.toNat x10 : Nat) : Int)), v8 (cLv m o_ ((Int.toNat x10 : Nat) : Int)), vu (cN1 m o_ ((Int.toNat x10 : Nat) : Int))]), 0, 0, 100] [1, 8, 9, 10] fun ν5 => seg [(5, vi x10), (6, pt (ν5 0) 0)] [(0, none), (1, some ((ν5 0), .cells [vu (cId m o_ ((Int.toNat x10 : Nat) : Int)), v8 (cKd m o_ ((Int.toNat x10 : Nat) : Int)), v8 (cLv m o_ ((Int.toNat x10 : Nat) : Int)), vu (cN1 m o_ ((Int.toNat x10 : Nat) : Int))] 117))] [.e (ν5 0), .e (ν5 0), .e (ν5 0), .e (ν5 0), .p ((.agg #[((entV (cEnt m o_) 0) (0 + Int.toNat x10 * 4)), ((entV (cEnt m o_) 0) (0 + Int.toNat x10 * 4 + 1)), ((entV (cEnt m o_) 0) (0 + Int.toNat x10 * 4 + 2)), ((entV (cEnt m o_) 0) (0 + Int.toNat x10 * 4 + 3))] : Value) = .agg #[vu (cId m o_ ((Int.toNat x10 : Nat) : Int)), v8 (cKd m o_ ((Int.toNat x10 : Nat) : Int)), v8 (cLv m o_ ((Int.toNat x10 : Nat) : Int)), vu (cN1 m o_ ((Int.toNat x10 : Nat) : Int))]), .e g21, .p (0 ≤ 0 + Int.toNat x10 * 4 + 3 ∧ 0 + Int.toNat x10 * 4 + 3 < (0 + (cCnt m o_ z) * 4)), .e g21, .p (0 ≤ 0 + Int.toNat x10 * 4 + 2 ∧ 0 + Int.toNat x10 * 4 + 2 < (0 + (cCnt m o_ z) * 4)), .e g21, .p (0 ≤ 0 + Int.toNat x10 * 4 + 1 ∧ 0 + Int.toNat x10 * 4 + 1 < (0 + (cCnt m o_ z) * 4)), .e g21, .p (0 ≤ 0 + Int.toNat x10 * 4 ∧ 0 + Int.toNat x10 * 4 < (0 + (cCnt m o_ z) * 4)), .p ((0 : Int) ≤ x10 ∧ (x10 : Int) < (((cCnt m o_ z) : Nat) : Int))] ⟨((agg4 (entV_0 (cEnt m o_) 0 (Int.toNat x10)) (entV_1 (cEnt m o_) 0 (Int.toNat x10)) (entV_2 (cEnt m o_) 0 (Int.toNat x10)) (entV_3 (cEnt m o_) 0 (Int.toNat x10))).trans (rfl)), (by omega), (by omega), (by omega), (by omega), (by omega), trivial⟩ fun ac wd hS => ?_
  refine hS.regS [0, 100, 0, 0] [1, 5, 8, 9, 10] fun _ => seg [(18, vb (((cId m o_ ((Int.toNat x10 : Nat) : Int)) : Int) == id))] [(0, none)] [.e (ν5 0)] trivial fun ac wd hS => ?_
  refine hS.condC (((cId m o_ ((Int.toNat x10 : Nat) : Int)) : Int) == id) (fun hb5o hb5 => ?_) (fun hb5o hb5 => ?_)
  ·
   have hq : cId m o_ x10 = id := by have := hb5; rwa [Int.toNat_of_nonneg i0.1] at this
   refine hS.regS [0, 0] [] fun _ => seg [(4, vi x10)] [] [] trivial fun ac wd hS => ?_
   refine wp_ret ?_
   refine pop_block_ret ?_
   refine pop_then_ret ?_
   refine pop_then_ret ?_
   refine pop_block_ret ?_
   refine pop_then_ret ?_
   refine St.retC 0 hS (vi x10) [] trivial fun hw => ?_
   refine ⟨retd (vint ?_), hw.fr0⟩
   all_goals (first | exact cFind_at i1 i0.1 (by omega) hq | exact cFind_no i1 (by omega))
  ·
   have hq : cId m o_ x10 ≠ id := by have := hb5; rwa [Int.toNat_of_nonneg i0.1] at this
   refine wp_skip ?_
   refine pop_block ?_
   refine pop_then ?_
   refine hS.regC [20, 0] [1, 8, 9] fun _ => seg [(10, vi (x10 + 1))] [(0, none)] [.p (fit .i64 (x10 + 1))] ⟨fit_i64 (by omega), trivial⟩ fun ac wd hS => ?_
   exact pop_then (hS.next (x10 + 1) ⟨(by first | omega | assumption | (simp; done) | (simp; omega)), (by exact cFind_step i1 i0.1 hq), trivial⟩ (by dsimp only; omega))
 ·
  refine wp_exit ?_
  refine pop_then_exit ?_
  refine pop_then_exit ?_
  refine pop_block_hit ?_
  refine pop_then ?_
  refine hS.regS [0] [] fun _ => seg [(4, vi (-1))] [] [] trivial fun ac wd hS => ?_
  refine wp_ret ?_
  refine St.retC 0 hS (vi (-1)) [] trivial fun hw => ?_
  refine ⟨retd (vint ?_), hw.fr0⟩
  all_goals (first | exact cFind_at i1 i0.1 (by omega) hq | exact cFind_no i1 (by omega))

theorem cl_find (b : Nat) (F : Nat → Prop) (m : AM) (o_ : Int) (z : Int) (id : Int) (w : World) (hr : (arR b F m).R w) (ho : 0 ≤ o_ ∧ 0 ≤ z ∧ o_ + z ≤ 4294967296) (hthr : thr m o_ z = true) :
    Calls Tryd.prog 145 #[.agg #[pt b 0, vi o_, vi z], vu id] w fun e w' => e = .returned (vi (cFind m o_ z id)) ∧ Fr w w' no no := by
 by_cases hp : cCnt m o_ z = 0
 · exact cl_find_none b F m o_ z id w hr ho hthr hp
 · exact cl_find_some b F m o_ z id w hr ho hthr (by omega)

set_option maxRecDepth 100000 in
set_option maxHeartbeats 1000000 in
theorem cl_Room_none (b : Nat) (F : Nat → Prop) (m : AM) (o_ : Int) (z : Int) (w : World) (hr : (arR b F m).R w) (ho : 0 ≤ o_ ∧ 0 ≤ z ∧ o_ + z ≤ 4294967296) (hthr : thr m o_ z = true) (hp : cCnt m o_ z = 0) :
    Calls Tryd.prog 68 #[.agg #[pt b 0, vi o_, vi z]] w fun e w' => e = .returned (vi (cSl z - ((cCnt m o_ z : Nat) : Int))) ∧ Fr w w' no no := by
 have hsl : cSl z * 24 ≤ z ∧ 0 ≤ cSl z := by unfold cSl; omega
 have hle := cCnt_le m o_ z
 refine enter (args := [.agg #[pt b 0, vi o_, vi z]]) (D := no) (A := []) Tryd.func68 rfl 9 rfl [] (WS.startL trivial) fun ac hS => ?_
 refine hS.regS [0, 0] [] fun ν1 => seg [(1, pt (ν1 0) 0)] [(0, some ((ν1 0), .cells [pt b 0, vi o_, vi z] 112))] [] trivial fun ac wd hS => ?_
 refine St.ordBeginS [(0, 1), (2, 1), (1, 0), (3, 0), (4, 1), (5, 1), (6, 1)] [((ν1 0), .cells [pt b 0, vi o_, vi z] 112)] [0] hS fun wd hS => ?_
 have hap := hS.mem.pairs (Hf := [((ν1 0), .cells [pt b 0, vi o_, vi z] 112)]) (l := [0])
 refine St.ordF [0, 0] [0, 2] [] (rest := [(1, 0), (3, 0), (4, 1), (5, 1), (6, 1)]) hS hap <| segF [(3, .agg #[pt b 0, vi o_, vi z]), (5, .agg #[pt b 0, vi o_, vi z])] [.e (ν1 0), .e (ν1 0), .e (ν1 0), .e (ν1 0), .e (ν1 0), .e (ν1 0)] trivial fun ac hS => ?_
 refine hS.ordC 1 148 #[.agg #[pt b 0, vi o_, vi z]] (cl_slots b o_ z _  (by first | assumption | omega | (simp_all; done) | (simp_all; omega))) ?_
 rintro _ wd ⟨rfl, hF⟩
 refine ⟨vi (cSl z), rfl, ?_⟩
 replace hS := (hS.to (hS.mem.keep0 hF)).put (d := 4) (v := vi (cSl z)) (by decide)
 clear hF
 refine hS.ordV (l := [0]) ?_
 refine hS.ordC 3 67 #[.agg #[pt b 0, vi o_, vi z]] (cl_All_none b F m o_ z _ (Res.keep hr hS.mem.fr) (by first | assumption | omega | (simp_all; done) | (simp_all; omega)) (by first | assumption | omega | (simp_all; done) | (simp_all; omega)) (by first | assumption | omega | (simp_all; done) | (simp_all; omega))) ?_
 rintro _ wd ⟨rfl, hF⟩
 refine ⟨vnil, rfl, ?_⟩
 replace hS := (hS.to (hS.mem.keep0 hF)).put (d := 6) (v := vnil) (by decide)
 clear hF
 refine hS.ordV (l := [0]) ?_
 refine St.ordF [0, 20, 0] [4, 5, 6] [] (rest := []) hS hap <| segF [(2, vi ((cSl z) - 0))] [.p (fit .i64 ((cSl z) - 0))] ⟨fit_i64 (by omega), trivial⟩ fun ac hS => ?_
 refine ord_nil ?_
 refine wp_ret ?_
 refine St.retC 0 hS (vi ((cSl z) - 0)) [] trivial fun hw => ?_
 refine ⟨retd (vint ?_), hw.fr0⟩
 all_goals (first | rfl | (rw [hp]; omega))

set_option maxRecDepth 100000 in
set_option maxHeartbeats 1000000 in
theorem cl_Room_some (b : Nat) (F : Nat → Prop) (m : AM) (o_ : Int) (z : Int) (w : World) (hr : (arR b F m).R w) (ho : 0 ≤ o_ ∧ 0 ≤ z ∧ o_ + z ≤ 4294967296) (hthr : thr m o_ z = true) (hp : 0 < cCnt m o_ z) :
    Calls Tryd.prog 68 #[.agg #[pt b 0, vi o_, vi z]] w fun e w' => e = .returned (vi (cSl z - ((cCnt m o_ z : Nat) : Int))) ∧ Fr w w' no no := by
 have hsl : cSl z * 24 ≤ z ∧ 0 ≤ cSl z := by unfold cSl; omega
 have hle := cCnt_le m o_ z
 refine enter (args := [.agg #[pt b 0, vi o_, vi z]]) (D := no) (A := []) Tryd.func68 rfl 9 rfl [] (WS.startL trivial) fun ac hS => ?_
 refine hS.regS [0, 0] [] fun ν1 => seg [(1, pt (ν1 0) 0)] [(0, some ((ν1 0), .cells [pt b 0, vi o_, vi z] 112))] [] trivial fun ac wd hS => ?_
 refine St.ordBeginS [(0, 1), (2, 1), (1, 0), (3, 0), (4, 1), (5, 1), (6, 1)] [((ν1 0), .cells [pt b 0, vi o_, vi z] 112)] [0] hS fun wd hS => ?_
 have hap := hS.mem.pairs (Hf := [((ν1 0), .cells [pt b 0, vi o_, vi z] 112)]) (l := [0])
 refine St.ordF [0, 0] [0, 2] [] (rest := [(1, 0), (3, 0), (4, 1), (5, 1), (6, 1)]) hS hap <| segF [(3, .agg #[pt b 0, vi o_, vi z]), (5, .agg #[pt b 0, vi o_, vi z])] [.e (ν1 0), .e (ν1 0), .e (ν1 0), .e (ν1 0), .e (ν1 0), .e (ν1 0)] trivial fun ac hS => ?_
 refine hS.ordC 1 148 #[.agg #[pt b 0, vi o_, vi z]] (cl_slots b o_ z _  (by first | assumption | omega | (simp_all; done) | (simp_all; omega))) ?_
 rintro _ wd ⟨rfl, hF⟩
 refine ⟨vi (cSl z), rfl, ?_⟩
 replace hS := (hS.to (hS.mem.keep0 hF)).put (d := 4) (v := vi (cSl z)) (by decide)
 clear hF
 refine hS.ordV (l := [0]) ?_
 refine hS.ordC 3 67 #[.agg #[pt b 0, vi o_, vi z]] (cl_All_some b F m o_ z _ (Res.keep hr hS.mem.fr) (by first | assumption | omega | (simp_all; done) | (simp_all; omega)) (by first | assumption | omega | (simp_all; done) | (simp_all; omega)) (by first | assumption | omega | (simp_all; done) | (simp_all; omega))) ?_
 rintro _ wd ⟨g21, c22, rfl, hog0, hoh0, hF⟩
 have ho3 : w.heap.size ≤ g21 := Nat.le_trans hS.mem.fr.size hog0
 refine ⟨sc g21 0 (cCnt m o_ z) c22, rfl, ?_⟩
 replace hS := (hS.to (hS.mem.outs hF [(g21, .fn 0 (0 + (cCnt m o_ z) * 4) (entV (cEnt m o_) 0))] ⟨⟨rfl, hoh0, .inr hog0⟩, trivial⟩)).put (d := 6) (v := sc g21 0 (cCnt m o_ z) c22) (by decide)
 clear hF
 refine hS.ordV (l := [0]) ?_
 refine St.ordF [0, 20, 0] [4, 5, 6] [] (rest := []) hS hap <| segF [(2, vi ((cSl z) - (((cCnt m o_ z) : Nat) : Int)))] [.p (fit .i64 ((cSl z) - (((cCnt m o_ z) : Nat) : Int)))] ⟨fit_i64 (by omega), trivial⟩ fun ac hS => ?_
 refine ord_nil ?_
 refine wp_ret ?_
 refine St.retC 0 hS (vi ((cSl z) - (((cCnt m o_ z) : Nat) : Int))) [] trivial fun hw => ?_
 refine ⟨retd (vint ?_), hw.fr0⟩
 all_goals (first | rfl | omega)

theorem cl_Room (b : Nat) (F : Nat → Prop) (m : AM) (o_ : Int) (z : Int) (w : World) (hr : (arR b F m).R w) (ho : 0 ≤ o_ ∧ 0 ≤ z ∧ o_ + z ≤ 4294967296) (hthr : thr m o_ z = true) :
    Calls Tryd.prog 68 #[.agg #[pt b 0, vi o_, vi z]] w fun e w' => e = .returned (vi (cSl z - ((cCnt m o_ z : Nat) : Int))) ∧ Fr w w' no no := by
 by_cases hp : cCnt m o_ z = 0
 · exact cl_Room_none b F m o_ z w hr ho hthr hp
 · exact cl_Room_some b F m o_ z w hr ho hthr (by omega)

set_option maxRecDepth 100000 in
set_option maxHeartbeats 1000000 in
theorem cl_put (b : Nat) (F : Nat → Prop) (m : AM) (o_ : Int) (z : Int) (i : Int) (id : Int) (kd : Int) (lv : Int) (ar : Int) (w : World) (hr : (arR b F m).R w) (ho : 0 ≤ o_ ∧ 0 ≤ z ∧ o_ + z ≤ 4294967296) (hi : 0 ≤ i ∧ i < cSl z) (hthr : thr m o_ z = true) (hen : (0 ≤ id ∧ id ≤ 18446744073709551615) ∧ (0 ≤ kd ∧ kd ≤ 255) ∧ (0 ≤ lv ∧ lv ≤ 255) ∧ 0 ≤ ar ∧ ar ≤ 18446744073709551615) :
    Calls Tryd.prog 146 #[.agg #[pt b 0, vi o_, vi z], vi i, .agg #[vu id, v8 kd, v8 lv, vu ar]] w fun e w' => ∃ (F' : Nat → Prop), e = .returned (.tuple #[]) ∧ (arR b F' (cPutM m o_ i id kd lv ar)).R w' ∧ Fr w w' F F' := by
 have hsl : cSl z * 24 ≤ z ∧ 0 ≤ cSl z := by unfold cSl; omega
 have hti : thr m (o_ + (i * 24)) 24 = true := thr_sub hthr (by omega) (by omega) (by omega)
 refine enter (args := [.agg #[pt b 0, vi o_, vi z], vi i, .agg #[vu id, v8 kd, v8 lv, vu ar]]) (D := F) (A := [arR b F m]) Tryd.func146 rfl 26 rfl [] (WS.startA (r := arR b F m) hr trivial trivial) fun ac hS => ?_
 refine hS.regS [0, 0] [1] fun ν1 => seg [(3, pt (ν1 0) 0), (5, pt (ν1 1) 0)] [(0, some ((ν1 0), .cells [pt b 0, vi o_, vi z] 112)), (1, some ((ν1 1), .cells [vu id, v8 kd, v8 lv, vu ar] 117))] [] trivial fun ac wd hS => ?_
 refine St.ordBeginT [(1, 1), (2, 1), (4, 1), (5, 1), (6, 1), (7, 1), (8, 1), (9, 1), (10, 1), (11, 1), (12, 1), (13, 1), (14, 1), (15, 1), (16, 1), (17, 1), (0, 0), (3, 0), (18, 0), (19, 0)] (.two [(1, 1), (2, 1), (4, 1), (5, 1), (6, 1), (7, 1), (8, 1), (9, 1), (10, 1), (11, 1), (12, 1), (13, 1), (14, 1), (15, 1), (16, 1), (17, 1)] 0 (.two [] 3 (.lin [(18, 0), (19, 0)]) 18 (.lin [(3, 0), (19, 0)])) 18 (.lin [(0, 0), (3, 0), (19, 0)])) [((ν1 0), .cells [pt b 0, vi o_, vi z] 112), ((ν1 1), .cells [vu id, v8 kd, v8 lv, vu ar] 117)] [0, 1] hS fun wd hS => ?_
 have hap := hS.mem.pairs (Hf := [((ν1 0), .cells [pt b 0, vi o_, vi z] 112), ((ν1 1), .cells [vu id, v8 kd, v8 lv, vu ar] 117)]) (l := [0, 1])
 refine wpT_two ?_
 refine St.ordF [0, 0, 0, 100, 0, 0, 100, 20, 0, 0, 0, 100, 20, fx 0 (vu (eN0 id kd lv)), 0, 100] [1, 2, 4, 5, 6, 7, 8, 9, 10, 11, 12, 13, 14, 15, 16, 17] [] (rest := []) hS hap <| segF [(7, .agg #[pt b 0, vi o_, vi z]), (8, vi i), (21, vu (eN0 id kd lv)), (23, vu ar)] [.e (ν1 1), .p ((vu (ior .u64 (ior .u64 (IntKind.wrap .u64 (id * 2 ^ 16)) (IntKind.wrap .u64 (lv * 2 ^ 8))) kd) : Value) = vu (eN0 id kd lv)), .p (fit .u64 kd), .e (ν1 1), .p (fit .u64 lv), .e (ν1 1), .e (ν1 1), .e (ν1 0), .e (ν1 0), .e (ν1 0)] ⟨(vint (rfl)), fit_u64 (by omega), fit_u64 (by omega), trivial⟩ fun ac hS => ?_
 refine ord_nil ?_
 refine ⟨?_, ?_⟩
 ·
  refine hS.ordC 0 204 #[] (cl_record  _  ) ?_
  rintro _ wd ⟨g21, c22, rfl, hc23, hog0, hoh0, hF⟩
  have ho4 : w.heap.size ≤ g21 := Nat.le_trans hS.mem.fr.size hog0
  refine ⟨.agg #[sc g21 0 2 c22], rfl, ?_⟩
  replace hS := (hS.to (hS.mem.outs hF [(g21, .fn 0 2 (ints oRec 0))] ⟨⟨rfl, hoh0, .inr hog0⟩, trivial⟩)).put (d := 6) (v := .agg #[sc g21 0 2 c22]) (by decide)
  clear hF
  refine hS.ordV (l := [0, 1]) ?_
  refine ord_nil ?_
  refine wpT_two ?_
  refine ord_nil ?_
  refine ⟨?_, ?_⟩
  ·
   refine hS.ordC 3 205 #[.agg #[pt b 0, vi o_, vi z], vi i] (cl_at b F m o_ z i _ (hS.mem.res 0) (by first | assumption | omega | (simp_all; done) | (simp_all; omega)) (by first | assumption | omega | (simp_all; done) | (simp_all; omega)) (by first | assumption | omega | (simp_all; done) | (simp_all; omega))) ?_
   rintro _ wd ⟨rfl, hF⟩
   refine ⟨.agg #[pt b 0, vi (o_ + (i * 24)), vi 24], rfl, ?_⟩
   replace hS := (hS.to (hS.mem.keep0 hF)).put (d := 9) (v := .agg #[pt b 0, vi (o_ + (i * 24)), vi 24]) (by decide)
   clear hF
   refine hS.ordV (l := [0, 1]) ?_
   refine ord_nil ?_
   refine wpT_lin ?_
   refine St.ord1 18 [0] [6, 9] [0, 1] hS rfl fun ν2 => seg [(24, sc (ν2 0) 0 2 2)] [(0, none), (1, none), (2, none), (3, some ((ν2 0), .cells [vu (eN0 id kd lv), vu ar] 76))] [] trivial ⟨by as_aux_lemma => kernel_rfl, fun ac wd hS => ?_⟩
   refine hS.ordC 19 127 #[.agg #[sc g21 0 2 c22], .agg #[pt b 0, vi (o_ + (i * 24)), vi 24], sc (ν2 0) 0 2 2] (rec_Put b F m g21 0 c22 oRec (o_ + (i * 24)) 24 (ν2 0) 0 2 2 (eNum id kd lv ar) _ (hS.mem.res 0) (hS.mem.get 2 g21 (.fn 0 2 (ints oRec 0))) (HE.of_cells (hS.mem.get 3 (ν2 0) (.cells [vu (eN0 id kd lv), vu ar] 76)) (eNum_cells hen.2.2.2.1)) (hS.mem.nF (g := g21) (r := arR b F m) 2 0) (hS.mem.nF (g := (ν2 0)) (r := arR b F m) 3 0) (by first | assumption | exact oRec_ok | decide | omega) (by first | assumption | exact oRec_ok | decide | omega) (by first | assumption | exact oRec_ok | decide | omega) (by first | assumption | exact oRec_ok | decide | omega)) ?_
   rintro _ wd ⟨F5, rfl, hA, hF⟩
   refine ⟨vi (pRE oRec 2 (eNum id kd lv ar) m (o_ + (i * 24)) 24), rfl, ?_⟩
   replace hS := (hS.to (hS.mem.stepA 0 rfl hA hF)).put (d := 25) (v := vi (pRE oRec 2 (eNum id kd lv ar) m (o_ + (i * 24)) 24)) (by decide)
   clear hF
   refine hS.ordV (l := [0, 1]) ?_
   refine ord_nil ?_
   refine St.fallC 0 hS (.tuple #[]) [] trivial fun hw => ?_
   refine ⟨F5, retd rfl, (res_eq (r := arR b F5 (pRM oRec 2 (eNum id kd lv ar) m (o_ + (i * 24)) 24)) (by rfl) (hw.res 0)), hw.frA⟩
  ·
   refine St.ord1 18 [0] [6, 7, 8] [0, 1] hS rfl fun ν3 => seg [(24, sc (ν3 0) 0 2 2)] [(0, none), (1, none), (2, none), (3, some ((ν3 0), .cells [vu (eN0 id kd lv), vu ar] 76))] [] trivial ⟨by as_aux_lemma => kernel_rfl, fun ac wd hS => ?_⟩
   refine ord_nil ?_
   refine wpT_lin ?_
   refine hS.ordC 3 205 #[.agg #[pt b 0, vi o_, vi z], vi i] (cl_at b F m o_ z i _ (hS.mem.res 0) (by first | assumption | omega | (simp_all; done) | (simp_all; omega)) (by first | assumption | omega | (simp_all; done) | (simp_all; omega)) (by first | assumption | omega | (simp_all; done) | (simp_all; omega))) ?_
   rintro _ wd ⟨rfl, hF⟩
   refine ⟨.agg #[pt b 0, vi (o_ + (i * 24)), vi 24], rfl, ?_⟩
   replace hS := (hS.to (hS.mem.keep0 hF)).put (d := 9) (v := .agg #[pt b 0, vi (o_ + (i * 24)), vi 24]) (by decide)
   clear hF
   refine hS.ordV (l := [0, 1]) ?_
   refine hS.ordC 19 127 #[.agg #[sc g21 0 2 c22], .agg #[pt b 0, vi (o_ + (i * 24)), vi 24], sc (ν3 0) 0 2 2] (rec_Put b F m g21 0 c22 oRec (o_ + (i * 24)) 24 (ν3 0) 0 2 2 (eNum id kd lv ar) _ (hS.mem.res 0) (hS.mem.get 2 g21 (.fn 0 2 (ints oRec 0))) (HE.of_cells (hS.mem.get 3 (ν3 0) (.cells [vu (eN0 id kd lv), vu ar] 76)) (eNum_cells hen.2.2.2.1)) (hS.mem.nF (g := g21) (r := arR b F m) 2 0) (hS.mem.nF (g := (ν3 0)) (r := arR b F m) 3 0) (by first | assumption | exact oRec_ok | decide | omega) (by first | assumption | exact oRec_ok | decide | omega) (by first | assumption | exact oRec_ok | decide | omega) (by first | assumption | exact oRec_ok | decide | omega)) ?_
   rintro _ wd ⟨F6, rfl, hA, hF⟩
   refine ⟨vi (pRE oRec 2 (eNum id kd lv ar) m (o_ + (i * 24)) 24), rfl, ?_⟩
   replace hS := (hS.to (hS.mem.stepA 0 rfl hA hF)).put (d := 25) (v := vi (pRE oRec 2 (eNum id kd lv ar) m (o_ + (i * 24)) 24)) (by decide)
   clear hF
   refine hS.ordV (l := [0, 1]) ?_
   refine ord_nil ?_
   refine St.fallC 0 hS (.tuple #[]) [] trivial fun hw => ?_
   refine ⟨F6, retd rfl, (res_eq (r := arR b F6 (pRM oRec 2 (eNum id kd lv ar) m (o_ + (i * 24)) 24)) (by rfl) (hw.res 0)), hw.frA⟩
 ·
  refine St.ord1 18 [0] [7, 8] [0, 1] hS rfl fun ν4 => seg [(24, sc (ν4 0) 0 2 2)] [(0, none), (1, none), (2, some ((ν4 0), .cells [vu (eN0 id kd lv), vu ar] 76))] [] trivial ⟨by as_aux_lemma => kernel_rfl, fun ac wd hS => ?_⟩
  refine ord_nil ?_
  refine wpT_lin ?_
  refine hS.ordC 0 204 #[] (cl_record  _  ) ?_
  rintro _ wd ⟨g27, c28, rfl, hc29, hog0, hoh0, hF⟩
  have ho10 : w.heap.size ≤ g27 := Nat.le_trans hS.mem.fr.size hog0
  refine ⟨.agg #[sc g27 0 2 c28], rfl, ?_⟩
  replace hS := (hS.to (hS.mem.outs hF [(g27, .fn 0 2 (ints oRec 0))] ⟨⟨rfl, hoh0, .inr hog0⟩, trivial⟩)).put (d := 6) (v := .agg #[sc g27 0 2 c28]) (by decide)
  clear hF
  refine hS.ordV (l := [0, 1]) ?_
  refine hS.ordC 3 205 #[.agg #[pt b 0, vi o_, vi z], vi i] (cl_at b F m o_ z i _ (hS.mem.res 0) (by first | assumption | omega | (simp_all; done) | (simp_all; omega)) (by first | assumption | omega | (simp_all; done) | (simp_all; omega)) (by first | assumption | omega | (simp_all; done) | (simp_all; omega))) ?_
  rintro _ wd ⟨rfl, hF⟩
  refine ⟨.agg #[pt b 0, vi (o_ + (i * 24)), vi 24], rfl, ?_⟩
  replace hS := (hS.to (hS.mem.keep0 hF)).put (d := 9) (v := .agg #[pt b 0, vi (o_ + (i * 24)), vi 24]) (by decide)
  clear hF
  refine hS.ordV (l := [0, 1]) ?_
  refine hS.ordC 19 127 #[.agg #[sc g27 0 2 c28], .agg #[pt b 0, vi (o_ + (i * 24)), vi 24], sc (ν4 0) 0 2 2] (rec_Put b F m g27 0 c28 oRec (o_ + (i * 24)) 24 (ν4 0) 0 2 2 (eNum id kd lv ar) _ (hS.mem.res 0) (hS.mem.get 3 g27 (.fn 0 2 (ints oRec 0))) (HE.of_cells (hS.mem.get 2 (ν4 0) (.cells [vu (eN0 id kd lv), vu ar] 76)) (eNum_cells hen.2.2.2.1)) (hS.mem.nF (g := g27) (r := arR b F m) 3 0) (hS.mem.nF (g := (ν4 0)) (r := arR b F m) 2 0) (by first | assumption | exact oRec_ok | decide | omega) (by first | assumption | exact oRec_ok | decide | omega) (by first | assumption | exact oRec_ok | decide | omega) (by first | assumption | exact oRec_ok | decide | omega)) ?_
  rintro _ wd ⟨F11, rfl, hA, hF⟩
  refine ⟨vi (pRE oRec 2 (eNum id kd lv ar) m (o_ + (i * 24)) 24), rfl, ?_⟩
  replace hS := (hS.to (hS.mem.stepA 0 rfl hA hF)).put (d := 25) (v := vi (pRE oRec 2 (eNum id kd lv ar) m (o_ + (i * 24)) 24)) (by decide)
  clear hF
  refine hS.ordV (l := [0, 1]) ?_
  refine ord_nil ?_
  refine St.fallC 0 hS (.tuple #[]) [] trivial fun hw => ?_
  refine ⟨F11, retd rfl, (res_eq (r := arR b F11 (pRM oRec 2 (eNum id kd lv ar) m (o_ + (i * 24)) 24)) (by rfl) (hw.res 0)), hw.frA⟩

set_option maxRecDepth 100000 in
set_option maxHeartbeats 1000000 in
theorem cl_Add_none (b : Nat) (F : Nat → Prop) (m : AM) (o_ : Int) (z : Int) (id : Int) (kd : Int) (lv : Int) (ar : Int) (w : World) (hr : (arR b F m).R w) (ho : 0 ≤ o_ ∧ 0 ≤ z ∧ o_ + z ≤ 4294967296) (hthr : thr m o_ z = true) (hen : (0 ≤ id ∧ id ≤ 18446744073709551615) ∧ (0 ≤ kd ∧ kd ≤ 255) ∧ (0 ≤ lv ∧ lv ≤ 255) ∧ 0 ≤ ar ∧ ar ≤ 18446744073709551615) (hp : cCnt m o_ z = 0) :
    Calls Tryd.prog 63 #[.agg #[pt b 0, vi o_, vi z], .agg #[vu id, v8 kd, v8 lv, vu ar]] w fun e w' => ∃ (F' : Nat → Prop), e = .returned (vi (addE m o_ z id)) ∧ (arR b F' (addM m o_ z id kd lv ar)).R w' ∧ Fr w w' F F' := by
 have hsl : cSl z * 24 ≤ z ∧ 0 ≤ cSl z := by unfold cSl; omega
 have hle := cCnt_le m o_ z
 have hfb := cFind_bd m o_ z id
 refine enter (args := [.agg #[pt b 0, vi o_, vi z], .agg #[vu id, v8 kd, v8 lv, vu ar]]) (D := F) (A := [arR b F m]) Tryd.func63 rfl 35 rfl [] (WS.startA (r := arR b F m) hr trivial trivial) fun ac hS => ?_
 refine hS.regS [0, 0, 0] [] fun ν1 => seg [(2, pt (ν1 0) 0), (3, pt (ν1 1) 0)] [(0, some ((ν1 0), .cells [pt b 0, vi o_, vi z] 112)), (1, some ((ν1 1), .cells [vu id, v8 kd, v8 lv, vu ar] 117))] [] trivial fun ac wd hS => ?_
 refine wp_seq ?_
 refine wp_block ?_
 refine hS.regS [0, 0, 0, 0, 0] [2, 3] fun _ => seg [(5, vb false)] [(0, none), (1, none)] [.e (ν1 0)] trivial fun ac wd hS => ?_
 refine hS.condF ?_
 refine hS.regS [0, 100, 0, 0, 3, 103, 3, 80, 0] [2, 3] fun _ => seg [(10, vb (((id : Int) == 0) || (decide ((281474976710655 : Int) < id))))] [(0, none), (1, none)] [.p (((((id : Int) == 0) = false) ∧ True) → AllP [((ν1 1) : Nat) = (ν1 1)]), .e (ν1 1)] ⟨(fun ⟨hc0, _⟩ => by replace hc0 := nrm hc0; exact ⟨rfl, trivial⟩), trivial⟩ fun ac wd hS => ?_
 refine hS.condC (((id : Int) == 0) || (decide ((281474976710655 : Int) < id))) (fun hb1o hb1 => ?_) (fun hb1o hb1 => ?_)
 ·
  have h1 : id = 0 ∨ 281474976710655 < id := hb1
  have hAD := add_1 (m := m) (o := o_) (z := z) (kd := kd) (lv := lv) (ar := ar) h1
  refine hS.regS [0] [] fun _ => seg [(4, vi 2)] [] [] trivial fun ac wd hS => ?_
  refine wp_ret ?_
  refine pop_block_ret ?_
  refine pop_then_ret ?_
  refine St.retC 0 hS (vi 2) [] trivial fun hw => ?_
  refine ⟨F, retd (vint ?_), (res_eq (r := arR b F m) (by first | exact congrArg _ hAD.2 | (rw [hp] at hAD; exact congrArg _ hAD.2)) (hw.res 0)), hw.frA⟩
  all_goals (exact hAD.1)
 ·
  have h1 : ¬ (id = 0 ∨ 281474976710655 < id) := by omega
  refine wp_region_seq ?_
  refine hS.opsC 3 [0, 0, 100] [2, 3] fun _ => seg [(20, .agg #[pt b 0, vi o_, vi z]), (22, vu id)] [(0, none), (1, none)] [.e (ν1 1), .e (ν1 0), .e (ν1 0), .e (ν1 0)] trivial fun ac wd hS => ?_
  refine hS.call0 145 #[.agg #[pt b 0, vi o_, vi z], vu id] 23 (cl_find b F m o_ z id _ (hS.mem.res 0) (by first | assumption | omega | (simp_all; done) | (simp_all; omega)) (by first | assumption | omega | (simp_all; done) | (simp_all; omega))) fun ac wd hS => ?_
  refine hS.opsC 2 [0, 0] [2, 3] fun _ => seg [(19, vb (decide ((0 : Int) ≤ (cFind m o_ z id))))] [(0, none), (1, none)] [] trivial fun ac wd hS => ?_
  refine list_nil_seq ?_
  refine hS.condC (decide ((0 : Int) ≤ (cFind m o_ z id))) (fun hb2o hb2 => ?_) (fun hb2o hb2 => ?_)
  ·
   have h2 : 0 ≤ cFind m o_ z id := hb2
   have hAD := add_2 (m := m) (o := o_) (z := z) (kd := kd) (lv := lv) (ar := ar) h1 h2
   refine hS.regS [0] [] fun _ => seg [(4, vi 9)] [] [] trivial fun ac wd hS => ?_
   refine wp_ret ?_
   refine pop_block_ret ?_
   refine pop_then_ret ?_
   refine St.retC 0 hS (vi 9) [] trivial fun hw => ?_
   refine ⟨F, retd (vint ?_), (res_eq (r := arR b F m) (by first | exact congrArg _ hAD.2 | (rw [hp] at hAD; exact congrArg _ hAD.2)) (hw.res 0)), hw.frA⟩
   all_goals (exact hAD.1)
  ·
   have h2 : ¬ 0 ≤ cFind m o_ z id := by omega
   refine wp_region_seq ?_
   refine hS.opsC 1 [0] [2, 3] fun _ => seg [(26, .agg #[pt b 0, vi o_, vi z])] [(0, none), (1, none)] [.e (ν1 0), .e (ν1 0), .e (ν1 0)] trivial fun ac wd hS => ?_
   refine hS.call0 68 #[.agg #[pt b 0, vi o_, vi z]] 27 (cl_Room b F m o_ z _ (hS.mem.res 0) (by first | assumption | omega | (simp_all; done) | (simp_all; omega)) (by first | assumption | omega | (simp_all; done) | (simp_all; omega))) fun ac wd hS => ?_
   refine hS.opsC 2 [0, 0] [2, 3] fun _ => seg [(25, vb (((cSl z - ((cCnt m o_ z : Nat) : Int)) : Int) == 0))] [(0, none), (1, none)] [] trivial fun ac wd hS => ?_
   refine list_nil_seq ?_
   refine hS.condC (((cSl z - ((cCnt m o_ z : Nat) : Int)) : Int) == 0) (fun hb3o hb3 => ?_) (fun hb3o hb3 => ?_)
   ·
    have h3 : cSl z - ((cCnt m o_ z : Nat) : Int) = 0 := hb3
    have hAD := add_3 (m := m) (o := o_) (z := z) (kd := kd) (lv := lv) (ar := ar) h1 h2 h3
    refine hS.regS [0] [] fun _ => seg [(4, vi 10)] [] [] trivial fun ac wd hS => ?_
    refine wp_ret ?_
    refine pop_block_ret ?_
    refine pop_then_ret ?_
    refine St.retC 0 hS (vi 10) [] trivial fun hw => ?_
    refine ⟨F, retd (vint ?_), (res_eq (r := arR b F m) (by first | exact congrArg _ hAD.2 | (rw [hp] at hAD; exact congrArg _ hAD.2)) (hw.res 0)), hw.frA⟩
    all_goals (exact hAD.1)
   ·
    have h3 : ¬ cSl z - ((cCnt m o_ z : Nat) : Int) = 0 := fun q => hb3 q
    have hAD := add_4 (m := m) (o := o_) (z := z) (kd := kd) (lv := lv) (ar := ar) h1 h2 h3
    refine wp_skip ?_
    refine pop_block ?_
    refine pop_then ?_
    refine St.ordBeginS [(0, 1), (1, 1), (4, 1), (2, 0), (3, 1), (5, 0)] [((ν1 0), .cells [pt b 0, vi o_, vi z] 112), ((ν1 1), .cells [vu id, v8 kd, v8 lv, vu ar] 117)] [0, 1] hS fun wd hS => ?_
    have hap := hS.mem.pairs (Hf := [((ν1 0), .cells [pt b 0, vi o_, vi z] 112), ((ν1 1), .cells [vu id, v8 kd, v8 lv, vu ar] 117)]) (l := [0, 1])
    refine St.ordF [0, 0, 100] [0, 1, 4] [] (rest := [(2, 0), (3, 1), (5, 0)]) hS hap <| segF [(29, .agg #[pt b 0, vi o_, vi z]), (30, .agg #[pt b 0, vi o_, vi z]), (33, .agg #[vu id, v8 kd, v8 lv, vu ar])] [.e (ν1 1), .e (ν1 1), .e (ν1 1), .e (ν1 1), .e (ν1 0), .e (ν1 0), .e (ν1 0), .e (ν1 0), .e (ν1 0), .e (ν1 0)] trivial fun ac hS => ?_
    refine hS.ordC 2 67 #[.agg #[pt b 0, vi o_, vi z]] (cl_All_none b F m o_ z _ (hS.mem.res 0) (by first | assumption | omega | (simp_all; done) | (simp_all; omega)) (by first | assumption | omega | (simp_all; done) | (simp_all; omega)) (by first | assumption | omega | (simp_all; done) | (simp_all; omega))) ?_
    rintro _ wd ⟨rfl, hF⟩
    refine ⟨vnil, rfl, ?_⟩
    replace hS := (hS.to (hS.mem.keep0 hF)).put (d := 31) (v := vnil) (by decide)
    clear hF
    refine hS.ordV (l := [0, 1]) ?_
    refine St.ordF [0] [3] [29, 33] (rest := [(5, 0)]) hS hap <| segF [(32, vi 0)] [] trivial fun ac hS => ?_
    refine hS.ordC 5 146 #[.agg #[pt b 0, vi o_, vi z], vi 0, .agg #[vu id, v8 kd, v8 lv, vu ar]] (cl_put b F m o_ z 0 id kd lv ar _ (hS.mem.res 0) (by first | assumption | omega | (simp_all; done) | (simp_all; omega)) (by first | assumption | omega | (simp_all; done) | (simp_all; omega)) (by first | assumption | omega | (simp_all; done) | (simp_all; omega)) (by first | assumption | omega | (simp_all; done) | (simp_all; omega))) ?_
    rintro _ wd ⟨F4, rfl, hA, hF⟩
    refine ⟨.tuple #[], rfl, ?_⟩
    replace hS := (hS.to (hS.mem.stepA 0 rfl hA hF)).put (d := 34) (v := .tuple #[]) (by decide)
    clear hF
    refine hS.ordV (l := [0, 1]) ?_
    refine ord_nil ?_
    refine hS.regS [0] [] fun _ => seg [(4, vi 0)] [] [] trivial fun ac wd hS => ?_
    refine wp_ret ?_
    refine St.retC 0 hS (vi 0) [] trivial fun hw => ?_
    refine ⟨F4, retd (vint ?_), (res_eq (r := arR b F4 (cPutM m o_ 0 id kd lv ar)) (by first | exact congrArg _ hAD.2 | (rw [hp] at hAD; exact congrArg _ hAD.2)) (hw.res 0)), hw.frA⟩
    all_goals (exact hAD.1)

set_option maxRecDepth 100000 in
set_option maxHeartbeats 1000000 in
theorem cl_Add_some (b : Nat) (F : Nat → Prop) (m : AM) (o_ : Int) (z : Int) (id : Int) (kd : Int) (lv : Int) (ar : Int) (w : World) (hr : (arR b F m).R w) (ho : 0 ≤ o_ ∧ 0 ≤ z ∧ o_ + z ≤ 4294967296) (hthr : thr m o_ z = true) (hen : (0 ≤ id ∧ id ≤ 18446744073709551615) ∧ (0 ≤ kd ∧ kd ≤ 255) ∧ (0 ≤ lv ∧ lv ≤ 255) ∧ 0 ≤ ar ∧ ar ≤ 18446744073709551615) (hp : 0 < cCnt m o_ z) :
    Calls Tryd.prog 63 #[.agg #[pt b 0, vi o_, vi z], .agg #[vu id, v8 kd, v8 lv, vu ar]] w fun e w' => ∃ (F' : Nat → Prop), e = .returned (vi (addE m o_ z id)) ∧ (arR b F' (addM m o_ z id kd lv ar)).R w' ∧ Fr w w' F F' := by
 have hsl : cSl z * 24 ≤ z ∧ 0 ≤ cSl z := by unfold cSl; omega
 have hle := cCnt_le m o_ z
 have hfb := cFind_bd m o_ z id
 refine enter (args := [.agg #[pt b 0, vi o_, vi z], .agg #[vu id, v8 kd, v8 lv, vu ar]]) (D := F) (A := [arR b F m]) Tryd.func63 rfl 35 rfl [] (WS.startA (r := arR b F m) hr trivial trivial) fun ac hS => ?_
 refine hS.regS [0, 0, 0] [] fun ν1 => seg [(2, pt (ν1 0) 0), (3, pt (ν1 1) 0)] [(0, some ((ν1 0), .cells [pt b 0, vi o_, vi z] 112)), (1, some ((ν1 1), .cells [vu id, v8 kd, v8 lv, vu ar] 117))] [] trivial fun ac wd hS => ?_
 refine wp_seq ?_
 refine wp_block ?_
 refine hS.regS [0, 0, 0, 0, 0] [2, 3] fun _ => seg [(5, vb false)] [(0, none), (1, none)] [.e (ν1 0)] trivial fun ac wd hS => ?_
 refine hS.condF ?_
 refine hS.regS [0, 100, 0, 0, 3, 103, 3, 80, 0] [2, 3] fun _ => seg [(10, vb (((id : Int) == 0) || (decide ((281474976710655 : Int) < id))))] [(0, none), (1, none)] [.p (((((id : Int) == 0) = false) ∧ True) → AllP [((ν1 1) : Nat) = (ν1 1)]), .e (ν1 1)] ⟨(fun ⟨hc0, _⟩ => by replace hc0 := nrm hc0; exact ⟨rfl, trivial⟩), trivial⟩ fun ac wd hS => ?_
 refine hS.condC (((id : Int) == 0) || (decide ((281474976710655 : Int) < id))) (fun hb1o hb1 => ?_) (fun hb1o hb1 => ?_)
 ·
  have h1 : id = 0 ∨ 281474976710655 < id := hb1
  have hAD := add_1 (m := m) (o := o_) (z := z) (kd := kd) (lv := lv) (ar := ar) h1
  refine hS.regS [0] [] fun _ => seg [(4, vi 2)] [] [] trivial fun ac wd hS => ?_
  refine wp_ret ?_
  refine pop_block_ret ?_
  refine pop_then_ret ?_
  refine St.retC 0 hS (vi 2) [] trivial fun hw => ?_
  refine ⟨F, retd (vint ?_), (res_eq (r := arR b F m) (by first | exact congrArg _ hAD.2 | (rw [hp] at hAD; exact congrArg _ hAD.2)) (hw.res 0)), hw.frA⟩
  all_goals (exact hAD.1)
 ·
  have h1 : ¬ (id = 0 ∨ 281474976710655 < id) := by omega
  refine wp_region_seq ?_
  refine hS.opsC 3 [0, 0, 100] [2, 3] fun _ => seg [(20, .agg #[pt b 0, vi o_, vi z]), (22, vu id)] [(0, none), (1, none)] [.e (ν1 1), .e (ν1 0), .e (ν1 0), .e (ν1 0)] trivial fun ac wd hS => ?_
  refine hS.call0 145 #[.agg #[pt b 0, vi o_, vi z], vu id] 23 (cl_find b F m o_ z id _ (hS.mem.res 0) (by first | assumption | omega | (simp_all; done) | (simp_all; omega)) (by first | assumption | omega | (simp_all; done) | (simp_all; omega))) fun ac wd hS => ?_
  refine hS.opsC 2 [0, 0] [2, 3] fun _ => seg [(19, vb (decide ((0 : Int) ≤ (cFind m o_ z id))))] [(0, none), (1, none)] [] trivial fun ac wd hS => ?_
  refine list_nil_seq ?_
  refine hS.condC (decide ((0 : Int) ≤ (cFind m o_ z id))) (fun hb2o hb2 => ?_) (fun hb2o hb2 => ?_)
  ·
   have h2 : 0 ≤ cFind m o_ z id := hb2
   have hAD := add_2 (m := m) (o := o_) (z := z) (kd := kd) (lv := lv) (ar := ar) h1 h2
   refine hS.regS [0] [] fun _ => seg [(4, vi 9)] [] [] trivial fun ac wd hS => ?_
   refine wp_ret ?_
   refine pop_block_ret ?_
   refine pop_then_ret ?_
   refine St.retC 0 hS (vi 9) [] trivial fun hw => ?_
   refine ⟨F, retd (vint ?_), (res_eq (r := arR b F m) (by first | exact congrArg _ hAD.2 | (rw [hp] at hAD; exact congrArg _ hAD.2)) (hw.res 0)), hw.frA⟩
   all_goals (exact hAD.1)
  ·
   have h2 : ¬ 0 ≤ cFind m o_ z id := by omega
   refine wp_region_seq ?_
   refine hS.opsC 1 [0] [2, 3] fun _ => seg [(26, .agg #[pt b 0, vi o_, vi z])] [(0, none), (1, none)] [.e (ν1 0), .e (ν1 0), .e (ν1 0)] trivial fun ac wd hS => ?_
   refine hS.call0 68 #[.agg #[pt b 0, vi o_, vi z]] 27 (cl_Room b F m o_ z _ (hS.mem.res 0) (by first | assumption | omega | (simp_all; done) | (simp_all; omega)) (by first | assumption | omega | (simp_all; done) | (simp_all; omega))) fun ac wd hS => ?_
   refine hS.opsC 2 [0, 0] [2, 3] fun _ => seg [(25, vb (((cSl z - ((cCnt m o_ z : Nat) : Int)) : Int) == 0))] [(0, none), (1, none)] [] trivial fun ac wd hS => ?_
   refine list_nil_seq ?_
   refine hS.condC (((cSl z - ((cCnt m o_ z : Nat) : Int)) : Int) == 0) (fun hb3o hb3 => ?_) (fun hb3o hb3 => ?_)
   ·
    have h3 : cSl z - ((cCnt m o_ z : Nat) : Int) = 0 := hb3
    have hAD := add_3 (m := m) (o := o_) (z := z) (kd := kd) (lv := lv) (ar := ar) h1 h2 h3
    refine hS.regS [0] [] fun _ => seg [(4, vi 10)] [] [] trivial fun ac wd hS => ?_
    refine wp_ret ?_
    refine pop_block_ret ?_
    refine pop_then_ret ?_
    refine St.retC 0 hS (vi 10) [] trivial fun hw => ?_
    refine ⟨F, retd (vint ?_), (res_eq (r := arR b F m) (by first | exact congrArg _ hAD.2 | (rw [hp] at hAD; exact congrArg _ hAD.2)) (hw.res 0)), hw.frA⟩
    all_goals (exact hAD.1)
   ·
    have h3 : ¬ cSl z - ((cCnt m o_ z : Nat) : Int) = 0 := fun q => hb3 q
    have hAD := add_4 (m := m) (o := o_) (z := z) (kd := kd) (lv := lv) (ar := ar) h1 h2 h3
    refine wp_skip ?_
    refine pop_block ?_
    refine pop_then ?_
    refine St.ordBeginS [(0, 1), (1, 1), (4, 1), (2, 0), (3, 1), (5, 0)] [((ν1 0), .cells [pt b 0, vi o_, vi z] 112), ((ν1 1), .cells [vu id, v8 kd, v8 lv, vu ar] 117)] [0, 1] hS fun wd hS => ?_
    have hap := hS.mem.pairs (Hf := [((ν1 0), .cells [pt b 0, vi o_, vi z] 112), ((ν1 1), .cells [vu id, v8 kd, v8 lv, vu ar] 117)]) (l := [0, 1])
    refine St.ordF [0, 0, 100] [0, 1, 4] [] (rest := [(2, 0), (3, 1), (5, 0)]) hS hap <| segF [(29, .agg #[pt b 0, vi o_, vi z]), (30, .agg #[pt b 0, vi o_, vi z]), (33, .agg #[vu id, v8 kd, v8 lv, vu ar])] [.e (ν1 1), .e (ν1 1), .e (ν1 1), .e (ν1 1), .e (ν1 0), .e (ν1 0), .e (ν1 0), .e (ν1 0), .e (ν1 0), .e (ν1 0)] trivial fun ac hS => ?_
    refine hS.ordC 2 67 #[.agg #[pt b 0, vi o_, vi z]] (cl_All_some b F m o_ z _ (hS.mem.res 0) (by first | assumption | omega | (simp_all; done) | (simp_all; omega)) (by first | assumption | omega | (simp_all; done) | (simp_all; omega)) (by first | assumption | omega | (simp_all; done) | (simp_all; omega))) ?_
    rintro _ wd ⟨g24, c25, rfl, hog0, hoh0, hF⟩
    have ho6 : w.heap.size ≤ g24 := Nat.le_trans hS.mem.fr.size hog0
    refine ⟨sc g24 0 (cCnt m o_ z) c25, rfl, ?_⟩
    replace hS := (hS.to (hS.mem.outs hF [(g24, .fn 0 (0 + (cCnt m o_ z) * 4) (entV (cEnt m o_) 0))] ⟨⟨rfl, hoh0, .inr hog0⟩, trivial⟩)).put (d := 31) (v := sc g24 0 (cCnt m o_ z) c25) (by decide)
    clear hF
    refine hS.ordV (l := [0, 1]) ?_
    refine St.ordF [0] [3] [29, 33] (rest := [(5, 0)]) hS hap <| segF [(32, vi (((cCnt m o_ z) : Nat) : Int))] [] trivial fun ac hS => ?_
    refine hS.ordC 5 146 #[.agg #[pt b 0, vi o_, vi z], vi (((cCnt m o_ z) : Nat) : Int), .agg #[vu id, v8 kd, v8 lv, vu ar]] (cl_put b F m o_ z (((cCnt m o_ z) : Nat) : Int) id kd lv ar _ (hS.mem.res 0) (by first | assumption | omega | (simp_all; done) | (simp_all; omega)) (by first | assumption | omega | (simp_all; done) | (simp_all; omega)) (by first | assumption | omega | (simp_all; done) | (simp_all; omega)) (by first | assumption | omega | (simp_all; done) | (simp_all; omega))) ?_
    rintro _ wd ⟨F7, rfl, hA, hF⟩
    refine ⟨.tuple #[], rfl, ?_⟩
    replace hS := (hS.to (hS.mem.stepA 0 rfl hA hF)).put (d := 34) (v := .tuple #[]) (by decide)
    clear hF
    refine hS.ordV (l := [0, 1]) ?_
    refine ord_nil ?_
    refine hS.regS [0] [] fun _ => seg [(4, vi 0)] [] [] trivial fun ac wd hS => ?_
    refine wp_ret ?_
    refine St.retC 0 hS (vi 0) [] trivial fun hw => ?_
    refine ⟨F7, retd (vint ?_), (res_eq (r := arR b F7 (cPutM m o_ (((cCnt m o_ z) : Nat) : Int) id kd lv ar)) (by first | exact congrArg _ hAD.2 | (rw [hp] at hAD; exact congrArg _ hAD.2)) (hw.res 0)), hw.frA⟩
    all_goals (exact hAD.1)

theorem cl_Add (b : Nat) (F : Nat → Prop) (m : AM) (o_ : Int) (z : Int) (id : Int) (kd : Int) (lv : Int) (ar : Int) (w : World) (hr : (arR b F m).R w) (ho : 0 ≤ o_ ∧ 0 ≤ z ∧ o_ + z ≤ 4294967296) (hthr : thr m o_ z = true) (hen : (0 ≤ id ∧ id ≤ 18446744073709551615) ∧ (0 ≤ kd ∧ kd ≤ 255) ∧ (0 ≤ lv ∧ lv ≤ 255) ∧ 0 ≤ ar ∧ ar ≤ 18446744073709551615) :
    Calls Tryd.prog 63 #[.agg #[pt b 0, vi o_, vi z], .agg #[vu id, v8 kd, v8 lv, vu ar]] w fun e w' => ∃ (F' : Nat → Prop), e = .returned (vi (addE m o_ z id)) ∧ (arR b F' (addM m o_ z id kd lv ar)).R w' ∧ Fr w w' F F' := by
 by_cases hp : cCnt m o_ z = 0
 · exact cl_Add_none b F m o_ z id kd lv ar w hr ho hthr hen hp
 · exact cl_Add_some b F m o_ z id kd lv ar w hr ho hthr hen (by omega)

set_option maxRecDepth 100000 in
set_option maxHeartbeats 1000000 in
theorem cl_Kill_none (b : Nat) (F : Nat → Prop) (m : AM) (o_ : Int) (z : Int) (id : Int) (w : World) (hr : (arR b F m).R w) (ho : 0 ≤ o_ ∧ 0 ≤ z ∧ o_ + z ≤ 4294967296) (hthr : thr m o_ z = true) (hp : cCnt m o_ z = 0) :
    Calls Tryd.prog 59 #[.agg #[pt b 0, vi o_, vi z], vu id] w fun e w' => ∃ (F' : Nat → Prop), e = .returned (.tuple #[.agg #[vu (kIf m o_ z id (cId m o_ (cFind m o_ z id))), v8 (kIf m o_ z id (cKd m o_ (cFind m o_ z id))), v8 (kIf m o_ z id (cLv m o_ (cFind m o_ z id))), vu (kIf m o_ z id (cN1 m o_ (cFind m o_ z id)))], vi (killE m o_ z id)]) ∧ (arR b F' (killM m o_ z id)).R w' ∧ Fr w w' F F' := by
 have hsl : cSl z * 24 ≤ z ∧ 0 ≤ cSl z := by unfold cSl; omega
 have hle := cCnt_le m o_ z
 have hfb := cFind_bd m o_ z id
 refine enter (args := [.agg #[pt b 0, vi o_, vi z], vu id]) (D := F) (A := [arR b F m]) Tryd.func59 rfl 48 rfl [] (WS.startA (r := arR b F m) hr trivial trivial) fun ac hS => ?_
 refine hS.regS [0, 0, 0] [1] fun ν1 => seg [(2, pt (ν1 0) 0), (4, pt (ν1 1) 0)] [(0, some ((ν1 0), .cells [pt b 0, vi o_, vi z] 112)), (1, some ((ν1 1), .cells [vu 0, v8 0, v8 0, vu 0] 117))] [] trivial fun ac wd hS => ?_
 refine wp_seq ?_
 refine hS.regS [0, 0, 0, 0] [1, 2, 4] fun _ => seg [(13, vb false)] [(0, none), (1, none)] [.e (ν1 0)] trivial fun ac wd hS => ?_
 refine hS.condF ?_
 refine wp_skip ?_
 refine pop_then ?_
 refine wp_region_seq ?_
 refine hS.opsC 2 [0, 0] [2, 4] fun _ => seg [(15, .agg #[pt b 0, vi o_, vi z]), (16, vu id)] [(0, none), (1, none)] [.e (ν1 0), .e (ν1 0), .e (ν1 0)] trivial fun ac wd hS => ?_
 refine hS.call0 145 #[.agg #[pt b 0, vi o_, vi z], vu id] 17 (cl_find b F m o_ z id _ (hS.mem.res 0) (by first | assumption | omega | (simp_all; done) | (simp_all; omega)) (by first | assumption | omega | (simp_all; done) | (simp_all; omega))) fun ac wd hS => ?_
 refine hS.opsC 1 [0] [2, 4] fun _ => seg [(6, vi (cFind m o_ z id))] [(0, none), (1, none)] [] trivial fun ac wd hS => ?_
 refine list_nil_seq ?_
 refine wp_seq ?_
 refine hS.regS [0, 0] [2, 4, 6] fun _ => seg [(19, vb (decide (((cFind m o_ z id) : Int) < 0)))] [(0, none), (1, none)] [] trivial fun ac wd hS => ?_
 refine hS.condK (decide (((cFind m o_ z id) : Int) < 0)) true (by exact decide_eq_true (by omega)) ?_
 show Code.wp _ _ _ _ _
 refine hS.regS [0, 100, 0] [4] fun _ => seg [(5, vi 8)] [(1, none)] [.e (ν1 1), .e (ν1 1), .e (ν1 1), .e (ν1 1)] trivial fun ac wd hS => ?_
 refine wp_ret ?_
 refine pop_then_ret ?_
 refine St.retC 0 hS (.tuple #[.agg #[vu 0, v8 0, v8 0, vu 0], vi 8]) [.e (ν1 1), .e (ν1 1), .e (ν1 1), .e (ν1 1)] trivial fun hw => ?_
 refine ⟨F, retd (tuple2 (agg4 (vint ?_) (vint ?_) (vint ?_) (vint ?_)) (vint ?_)), (res_eq (r := arR b F m) (by exact congrArg _ (kl_no (by omega)).1) (hw.res 0)), hw.frA⟩
 all_goals (first | exact (kl_no (by omega)).2.1 _ | exact (kl_no (by omega)).2.2)

set_option maxRecDepth 100000 in
set_option maxHeartbeats 1000000 in
theorem cl_Kill_some (b : Nat) (F : Nat → Prop) (m : AM) (o_ : Int) (z : Int) (id : Int) (w : World) (hr : (arR b F m).R w) (ho : 0 ≤ o_ ∧ 0 ≤ z ∧ o_ + z ≤ 4294967296) (hthr : thr m o_ z = true) (hp : 0 < cCnt m o_ z) :
    Calls Tryd.prog 59 #[.agg #[pt b 0, vi o_, vi z], vu id] w fun e w' => ∃ (F' : Nat → Prop), e = .returned (.tuple #[.agg #[vu (kIf m o_ z id (cId m o_ (cFind m o_ z id))), v8 (kIf m o_ z id (cKd m o_ (cFind m o_ z id))), v8 (kIf m o_ z id (cLv m o_ (cFind m o_ z id))), vu (kIf m o_ z id (cN1 m o_ (cFind m o_ z id)))], vi (killE m o_ z id)]) ∧ (arR b F' (killM m o_ z id)).R w' ∧ Fr w w' F F' := by
 have hsl : cSl z * 24 ≤ z ∧ 0 ≤ cSl z := by unfold cSl; omega
 have hle := cCnt_le m o_ z
 have hfb := cFind_bd m o_ z id
 refine enter (args := [.agg #[pt b 0, vi o_, vi z], vu id]) (D := F) (A := [arR b F m]) Tryd.func59 rfl 48 rfl [] (WS.startA (r := arR b F m) hr trivial trivial) fun ac hS => ?_
 refine hS.regS [0, 0, 0] [1] fun ν1 => seg [(2, pt (ν1 0) 0), (4, pt (ν1 1) 0)] [(0, some ((ν1 0), .cells [pt b 0, vi o_, vi z] 112)), (1, some ((ν1 1), .cells [vu 0, v8 0, v8 0, vu 0] 117))] [] trivial fun ac wd hS => ?_
 refine wp_seq ?_
 refine hS.regS [0, 0, 0, 0] [1, 2, 4] fun _ => seg [(13, vb false)] [(0, none), (1, none)] [.e (ν1 0)] trivial fun ac wd hS => ?_
 refine hS.condF ?_
 refine wp_skip ?_
 refine pop_then ?_
 refine wp_region_seq ?_
 refine hS.opsC 2 [0, 0] [2, 4] fun _ => seg [(15, .agg #[pt b 0, vi o_, vi z]), (16, vu id)] [(0, none), (1, none)] [.e (ν1 0), .e (ν1 0), .e (ν1 0)] trivial fun ac wd hS => ?_
 refine hS.call0 145 #[.agg #[pt b 0, vi o_, vi z], vu id] 17 (cl_find b F m o_ z id _ (hS.mem.res 0) (by first | assumption | omega | (simp_all; done) | (simp_all; omega)) (by first | assumption | omega | (simp_all; done) | (simp_all; omega))) fun ac wd hS => ?_
 refine hS.opsC 1 [0] [2, 4] fun _ => seg [(6, vi (cFind m o_ z id))] [(0, none), (1, none)] [] trivial fun ac wd hS => ?_
 refine list_nil_seq ?_
 refine wp_seq ?_
 refine hS.regS [0, 0] [2, 4, 6] fun _ => seg [(19, vb (decide (((cFind m o_ z id) : Int) < 0)))] [(0, none), (1, none)] [] trivial fun ac wd hS => ?_
 refine hS.condC (decide (((cFind m o_ z id) : Int) < 0)) (fun hb1o hb1 => ?_) (fun hb1o hb1 => ?_)
 ·
  have hk0 : cFind m o_ z id < 0 := hb1
  refine hS.regS [0, 100, 0] [4] fun _ => seg [(5, vi 8)] [(1, none)] [.e (ν1 1), .e (ν1 1), .e (ν1 1), .e (ν1 1)] trivial fun ac wd hS => ?_
  refine wp_ret ?_
  refine pop_then_ret ?_
  refine St.retC 0 hS (.tuple #[.agg #[vu 0, v8 0, v8 0, vu 0], vi 8]) [.e (ν1 1), .e (ν1 1), .e (ν1 1), .e (ν1 1)] trivial fun hw => ?_
  refine ⟨F, retd (tuple2 (agg4 (vint ?_) (vint ?_) (vint ?_) (vint ?_)) (vint ?_)), (res_eq (r := arR b F m) (by first | exact congrArg _ (kl_no hk0).1 | (rw [i1, show x8 = ((cCnt m o_ z : Nat) : Int) by omega]; exact congrArg _ (kl_yes hk0).1)) (hw.res 0)), hw.frA⟩
  all_goals (first | exact (kl_no hk0).2.1 _ | exact (kl_no hk0).2.2 | exact (kl_yes hk0).2.2 | (rw [Int.toNat_of_nonneg (by omega)]; exact (kl_yes hk0).2.1 _))
 ·
  have hk0 : ¬ cFind m o_ z id < 0 := by omega
  refine wp_skip ?_
  refine pop_then ?_
  refine wp_region_seq ?_
  refine hS.opsC 1 [0] [2, 4, 6] fun _ => seg [(21, .agg #[pt b 0, vi o_, vi z])] [(0, none), (1, none)] [.e (ν1 0), .e (ν1 0), .e (ν1 0)] trivial fun ac wd hS => ?_
  refine hS.callC 67 #[.agg #[pt b 0, vi o_, vi z]] (cl_All_some b F m o_ z _ (hS.mem.res 0) (by first | assumption | omega | (simp_all; done) | (simp_all; omega)) (by first | assumption | omega | (simp_all; done) | (simp_all; omega)) (by first | assumption | omega | (simp_all; done) | (simp_all; omega))) ?_
  rintro _ wd ⟨g22, c23, rfl, hog0, hoh0, hF⟩
  have ho4 : w.heap.size ≤ g22 := Nat.le_trans hS.mem.fr.size hog0
  refine ⟨sc g22 0 (cCnt m o_ z) c23, rfl, ?_⟩
  replace hS := (hS.to (hS.mem.outs hF [(g22, .fn 0 (0 + (cCnt m o_ z) * 4) (entV (cEnt m o_) 0))] ⟨⟨rfl, hoh0, .inr hog0⟩, trivial⟩)).put (d := 22) (v := sc g22 0 (cCnt m o_ z) c23) (by decide)
  clear hF
  refine hS.opsC 1 [0] [2, 4, 6] fun _ => seg [(7, sc g22 0 (cCnt m o_ z) c23)] [(0, none), (1, none), (2, none)] [] trivial fun ac wd hS => ?_
  refine list_nil_seq ?_
  refine wp_seq ?_
  refine hS.regS [0, 0] [2, 4, 6, 7] fun _ => seg [(8, vi (cFind m o_ z id))] [(0, none), (1, none), (2, none)] [] trivial fun ac wd hS => ?_
  refine wp_block ?_
  refine St.loopC (σ := Int × (Nat → Prop) × AM) (fun (x : Int × (Nat → Prop) × AM) => match x with | (x8, Fx, mx) => ⟨[(2, [], pt (ν1 0) 0), (4, [], pt (ν1 1) 0), (6, [], vi (cFind m o_ z id)), (7, [], sc g22 0 (cCnt m o_ z) c23), (8, [], vi x8)], [((ν1 0), .cells [pt b 0, vi o_, vi z] 112), ((ν1 1), .cells [vu 0, v8 0, v8 0, vu 0] 117), (g22, .fn 0 (0 + (cCnt m o_ z) * 4) (entV (cEnt m o_) 0))], [arR b Fx mx], ((cFind m o_ z id) ≤ x8 ∧ x8 ≤ ((cCnt m o_ z : Nat) : Int)) ∧ (mx = killGo m o_ z (cFind m o_ z id) (Int.toNat (x8 - (cFind m o_ z id)))) ∧ True, Int.toNat (((cCnt m o_ z : Nat) : Int) - x8)⟩) ((cFind m o_ z id), F, m) ⟨(by first | omega | (rw [show Int.toNat ((cFind m o_ z id) - (cFind m o_ z id)) = 0 by omega]; rfl)), (by first | omega | (rw [show Int.toNat ((cFind m o_ z id) - (cFind m o_ z id)) = 0 by omega]; rfl)), trivial⟩ hS ?_
  clear hS
  rintro ⟨x8, Fx, mx⟩ ⟨i0, i1, -⟩ ac wd hS
  replace i0 : (cFind m o_ z id) ≤ x8 ∧ x8 ≤ ((cCnt m o_ z : Nat) : Int) := i0
  replace i1 : mx = killGo m o_ z (cFind m o_ z id) (Int.toNat (x8 - (cFind m o_ z id))) := i1
  have hen1 := cEnt_rng m o_ ((Int.toNat (x8 + 1) : Nat) : Int)
  refine wp_seq ?_
  refine hS.regS [0, 0, 0, 0] [2, 4, 6, 7, 8] fun _ => seg [(27, vb (decide ((x8 : Int) < (((cCnt m o_ z) : Nat) : Int))))] [(0, none), (1, none), (2, none)] [] trivial fun ac wd hS => ?_
  refine hS.condC (decide ((x8 : Int) < (((cCnt m o_ z) : Nat) : Int))) (fun hb5o hb5 => ?_) (fun hb5o hb5 => ?_)
  ·
   refine wp_skip ?_
   refine pop_then ?_
   refine wp_seq ?_
   refine wp_block ?_
   refine hS.regS [0] [2, 4, 6, 7, 8] fun ν11 => seg [(9, pt (ν11 0) 0)] [(0, none), (1, none), (2, none), (3, some ((ν11 0), .cells [vu 0, v8 0, v8 0, vu 0] 117))] [] trivial fun ac wd hS => ?_
   refine wp_seq ?_
   refine hS.regS [0, 20, 0, 0, 0] [2, 4, 6, 7, 8, 9] fun _ => seg [(34, vb (decide (((x8 + 1) : Int) < (((cCnt m o_ z) : Nat) : Int))))] [(0, none), (1, none), (2, none), (3, none)] [.p (fit .i64 (x8 + 1))] ⟨fit_i64 (by omega), trivial⟩ fun ac wd hS => ?_
   refine hS.condC (decide (((x8 + 1) : Int) < (((cCnt m o_ z) : Nat) : Int))) (fun hb6o hb6 => ?_) (fun hb6o hb6 => ?_)
   ·
    refine hS.regC [0, 0, 20, 20, fx 200 (.agg #[vu (cId m o_ ((Int.toNat (x8 + 1) : Nat) : Int)), v8 (cKd m o_ ((Int.toNat (x8 + 1) : Nat) : Int)), v8 (cLv m o_ ((Int.toNat (x8 + 1) : Nat) : Int)), vu (cN1 m o_ ((Int.toNat (x8 + 1) : Nat) : Int))]), 300] [2, 4, 6, 7, 8, 9] fun _ => seg [] [(0, none), (1, none), (2, none), (3, some ((ν11 0), .cells [vu (cId m o_ ((Int.toNat (x8 + 1) : Nat) : Int)), v8 (cKd m o_ ((Int.toNat (x8 + 1) : Nat) : Int)), v8 (cLv m o_ ((Int.toNat (x8 + 1) : Nat) : Int)), vu (cN1 m o_ ((Int.toNat (x8 + 1) : Nat) : Int))] 117))] [.e (ν11 0), .e (ν11 0), .e (ν11 0), .e (ν11 0), .p ((.agg #[((entV (cEnt m o_) 0) (0 + Int.toNat (x8 + 1) * 4)), ((entV (cEnt m o_) 0) (0 + Int.toNat (x8 + 1) * 4 + 1)), ((entV (cEnt m o_) 0) (0 + Int.toNat (x8 + 1) * 4 + 2)), ((entV (cEnt m o_) 0) (0 + Int.toNat (x8 + 1) * 4 + 3))] : Value) = .agg #[vu (cId m o_ ((Int.toNat (x8 + 1) : Nat) : Int)), v8 (cKd m o_ ((Int.toNat (x8 + 1) : Nat) : Int)), v8 (cLv m o_ ((Int.toNat (x8 + 1) : Nat) : Int)), vu (cN1 m o_ ((Int.toNat (x8 + 1) : Nat) : Int))]), .e g22, .p (0 ≤ 0 + Int.toNat (x8 + 1) * 4 + 3 ∧ 0 + Int.toNat (x8 + 1) * 4 + 3 < (0 + (cCnt m o_ z) * 4)), .e g22, .p (0 ≤ 0 + Int.toNat (x8 + 1) * 4 + 2 ∧ 0 + Int.toNat (x8 + 1) * 4 + 2 < (0 + (cCnt m o_ z) * 4)), .e g22, .p (0 ≤ 0 + Int.toNat (x8 + 1) * 4 + 1 ∧ 0 + Int.toNat (x8 + 1) * 4 + 1 < (0 + (cCnt m o_ z) * 4)), .e g22, .p (0 ≤ 0 + Int.toNat (x8 + 1) * 4 ∧ 0 + Int.toNat (x8 + 1) * 4 < (0 + (cCnt m o_ z) * 4)), .p ((0 : Int) ≤ (x8 + 1) ∧ ((x8 + 1) : Int) < (((cCnt m o_ z) : Nat) : Int)), .p (fit .i64 (x8 + 1))] ⟨((agg4 (entV_0 (cEnt m o_) 0 (Int.toNat (x8 + 1))) (entV_1 (cEnt m o_) 0 (Int.toNat (x8 + 1))) (entV_2 (cEnt m o_) 0 (Int.toNat (x8 + 1))) (entV_3 (cEnt m o_) 0 (Int.toNat (x8 + 1)))).trans (rfl)), (by omega), (by omega), (by omega), (by omega), (by omega), fit_i64 (by omega), trivial⟩ fun ac wd hS => ?_
    refine pop_then ?_
    refine wp_region_lit ?_
    refine hS.opsC 3 [0, 0, 300] [2, 4, 6, 7, 8] fun _ => seg [(40, .agg #[pt b 0, vi o_, vi z]), (41, vi x8), (42, .agg #[vu (cId m o_ ((Int.toNat (x8 + 1) : Nat) : Int)), v8 (cKd m o_ ((Int.toNat (x8 + 1) : Nat) : Int)), v8 (cLv m o_ ((Int.toNat (x8 + 1) : Nat) : Int)), vu (cN1 m o_ ((Int.toNat (x8 + 1) : Nat) : Int))])] [(0, none), (1, none), (2, none)] [.e (ν11 0), .e (ν11 0), .e (ν11 0), .e (ν11 0), .e (ν1 0), .e (ν1 0), .e (ν1 0)] trivial fun ac wd hS => ?_
    refine hS.callC 146 #[.agg #[pt b 0, vi o_, vi z], vi x8, .agg #[vu (cId m o_ ((Int.toNat (x8 + 1) : Nat) : Int)), v8 (cKd m o_ ((Int.toNat (x8 + 1) : Nat) : Int)), v8 (cLv m o_ ((Int.toNat (x8 + 1) : Nat) : Int)), vu (cN1 m o_ ((Int.toNat (x8 + 1) : Nat) : Int))]] (cl_put b Fx mx o_ z x8 (cId m o_ ((Int.toNat (x8 + 1) : Nat) : Int)) (cKd m o_ ((Int.toNat (x8 + 1) : Nat) : Int)) (cLv m o_ ((Int.toNat (x8 + 1) : Nat) : Int)) (cN1 m o_ ((Int.toNat (x8 + 1) : Nat) : Int)) _ (hS.mem.res 0) (by first | assumption | omega | (simp_all; done) | (simp_all; omega)) (by first | assumption | omega | (simp_all; done) | (simp_all; omega)) (by rw [i1, killGo_thr]; exact hthr) (by first | (exact ⟨⟨hen1.1.1, by omega⟩, hen1.2.1, hen1.2.2.1, hen1.2.2.2⟩) | omega)) ?_
    rintro _ wd ⟨F7, rfl, hA, hF⟩
    refine ⟨.tuple #[], rfl, ?_⟩
    replace hS := (hS.to (hS.mem.stepA 0 rfl hA hF)).put (d := 43) (v := .tuple #[]) (by decide)
    clear hF
    refine list_nil ?_
    refine pop_block ?_
    refine pop_then ?_
    refine hS.regC [0, 20, 0] [2, 4, 6, 7] fun _ => seg [(8, vi (x8 + 1))] [(0, none), (1, none), (2, none)] [.p (fit .i64 (x8 + 1))] ⟨fit_i64 (by omega), trivial⟩ fun ac wd hS => ?_
    exact pop_then (hS.next ((x8 + 1), F7, (cPutM mx o_ x8 (cId m o_ ((Int.toNat (x8 + 1) : Nat) : Int)) (cKd m o_ ((Int.toNat (x8 + 1) : Nat) : Int)) (cLv m o_ ((Int.toNat (x8 + 1) : Nat) : Int)) (cN1 m o_ ((Int.toNat (x8 + 1) : Nat) : Int)))) ⟨(by first | omega | assumption | (simp; done) | (simp; omega)), (by first | (rw [show ((Int.toNat (x8 + 1) : Nat) : Int) = x8 + 1 by omega]; exact kill_1 i1 i0.1 (by omega)) | exact kill_2 i1 i0.1 (by omega)), trivial⟩ (by dsimp only; omega))
   ·
    refine wp_skip ?_
    refine pop_then ?_
    refine wp_region_lit ?_
    refine hS.opsC 3 [0, 0, 300] [2, 4, 6, 7, 8] fun _ => seg [(40, .agg #[pt b 0, vi o_, vi z]), (41, vi x8), (42, .agg #[vu 0, v8 0, v8 0, vu 0])] [(0, none), (1, none), (2, none)] [.e (ν11 0), .e (ν11 0), .e (ν11 0), .e (ν11 0), .e (ν1 0), .e (ν1 0), .e (ν1 0)] trivial fun ac wd hS => ?_
    refine hS.callC 146 #[.agg #[pt b 0, vi o_, vi z], vi x8, .agg #[vu 0, v8 0, v8 0, vu 0]] (cl_put b Fx mx o_ z x8 0 0 0 0 _ (hS.mem.res 0) (by first | assumption | omega | (simp_all; done) | (simp_all; omega)) (by first | assumption | omega | (simp_all; done) | (simp_all; omega)) (by rw [i1, killGo_thr]; exact hthr) (by first | (exact ⟨⟨hen1.1.1, by omega⟩, hen1.2.1, hen1.2.2.1, hen1.2.2.2⟩) | omega)) ?_
    rintro _ wd ⟨F8, rfl, hA, hF⟩
    refine ⟨.tuple #[], rfl, ?_⟩
    replace hS := (hS.to (hS.mem.stepA 0 rfl hA hF)).put (d := 43) (v := .tuple #[]) (by decide)
    clear hF
    refine list_nil ?_
    refine pop_block ?_
    refine pop_then ?_
    refine hS.regC [0, 20, 0] [2, 4, 6, 7] fun _ => seg [(8, vi (x8 + 1))] [(0, none), (1, none), (2, none)] [.p (fit .i64 (x8 + 1))] ⟨fit_i64 (by omega), trivial⟩ fun ac wd hS => ?_
    exact pop_then (hS.next ((x8 + 1), F8, (cPutM mx o_ x8 0 0 0 0)) ⟨(by first | omega | assumption | (simp; done) | (simp; omega)), (by first | (rw [show ((Int.toNat (x8 + 1) : Nat) : Int) = x8 + 1 by omega]; exact kill_1 i1 i0.1 (by omega)) | exact kill_2 i1 i0.1 (by omega)), trivial⟩ (by dsimp only; omega))
  ·
   refine wp_exit ?_
   refine pop_then_exit ?_
   refine pop_then_exit ?_
   refine pop_block_hit ?_
   refine pop_then ?_
   refine hS.regS [0, 0, 20, fx 200 (.agg #[vu (cId m o_ ((Int.toNat (cFind m o_ z id) : Nat) : Int)), v8 (cKd m o_ ((Int.toNat (cFind m o_ z id) : Nat) : Int)), v8 (cLv m o_ ((Int.toNat (cFind m o_ z id) : Nat) : Int)), vu (cN1 m o_ ((Int.toNat (cFind m o_ z id) : Nat) : Int))]), 100, 0] [4] fun _ => seg [(5, vi 0)] [(1, some ((ν1 1), .cells [vu (cId m o_ ((Int.toNat (cFind m o_ z id) : Nat) : Int)), v8 (cKd m o_ ((Int.toNat (cFind m o_ z id) : Nat) : Int)), v8 (cLv m o_ ((Int.toNat (cFind m o_ z id) : Nat) : Int)), vu (cN1 m o_ ((Int.toNat (cFind m o_ z id) : Nat) : Int))] 117))] [.e (ν1 1), .e (ν1 1), .e (ν1 1), .e (ν1 1), .p ((.agg #[((entV (cEnt m o_) 0) (0 + Int.toNat (cFind m o_ z id) * 4)), ((entV (cEnt m o_) 0) (0 + Int.toNat (cFind m o_ z id) * 4 + 1)), ((entV (cEnt m o_) 0) (0 + Int.toNat (cFind m o_ z id) * 4 + 2)), ((entV (cEnt m o_) 0) (0 + Int.toNat (cFind m o_ z id) * 4 + 3))] : Value) = .agg #[vu (cId m o_ ((Int.toNat (cFind m o_ z id) : Nat) : Int)), v8 (cKd m o_ ((Int.toNat (cFind m o_ z id) : Nat) : Int)), v8 (cLv m o_ ((Int.toNat (cFind m o_ z id) : Nat) : Int)), vu (cN1 m o_ ((Int.toNat (cFind m o_ z id) : Nat) : Int))]), .e g22, .p (0 ≤ 0 + Int.toNat (cFind m o_ z id) * 4 + 3 ∧ 0 + Int.toNat (cFind m o_ z id) * 4 + 3 < (0 + (cCnt m o_ z) * 4)), .e g22, .p (0 ≤ 0 + Int.toNat (cFind m o_ z id) * 4 + 2 ∧ 0 + Int.toNat (cFind m o_ z id) * 4 + 2 < (0 + (cCnt m o_ z) * 4)), .e g22, .p (0 ≤ 0 + Int.toNat (cFind m o_ z id) * 4 + 1 ∧ 0 + Int.toNat (cFind m o_ z id) * 4 + 1 < (0 + (cCnt m o_ z) * 4)), .e g22, .p (0 ≤ 0 + Int.toNat (cFind m o_ z id) * 4 ∧ 0 + Int.toNat (cFind m o_ z id) * 4 < (0 + (cCnt m o_ z) * 4)), .p ((0 : Int) ≤ (cFind m o_ z id) ∧ ((cFind m o_ z id) : Int) < (((cCnt m o_ z) : Nat) : Int))] ⟨((agg4 (entV_0 (cEnt m o_) 0 (Int.toNat (cFind m o_ z id))) (entV_1 (cEnt m o_) 0 (Int.toNat (cFind m o_ z id))) (entV_2 (cEnt m o_) 0 (Int.toNat (cFind m o_ z id))) (entV_3 (cEnt m o_) 0 (Int.toNat (cFind m o_ z id)))).trans (rfl)), (by omega), (by omega), (by omega), (by omega), (by omega), trivial⟩ fun ac wd hS => ?_
   refine wp_ret ?_
   refine St.retC 0 hS (.tuple #[.agg #[vu (cId m o_ ((Int.toNat (cFind m o_ z id) : Nat) : Int)), v8 (cKd m o_ ((Int.toNat (cFind m o_ z id) : Nat) : Int)), v8 (cLv m o_ ((Int.toNat (cFind m o_ z id) : Nat) : Int)), vu (cN1 m o_ ((Int.toNat (cFind m o_ z id) : Nat) : Int))], vi 0]) [.e (ν1 1), .e (ν1 1), .e (ν1 1), .e (ν1 1)] trivial fun hw => ?_
   refine ⟨Fx, retd (tuple2 (agg4 (vint ?_) (vint ?_) (vint ?_) (vint ?_)) (vint ?_)), (res_eq (r := arR b Fx mx) (by first | exact congrArg _ (kl_no hk0).1 | (rw [i1, show x8 = ((cCnt m o_ z : Nat) : Int) by omega]; exact congrArg _ (kl_yes hk0).1)) (hw.res 0)), hw.frA⟩
   all_goals (first | exact (kl_no hk0).2.1 _ | exact (kl_no hk0).2.2 | exact (kl_yes hk0).2.2 | (rw [Int.toNat_of_nonneg (by omega)]; exact (kl_yes hk0).2.1 _))

theorem cl_Kill (b : Nat) (F : Nat → Prop) (m : AM) (o_ : Int) (z : Int) (id : Int) (w : World) (hr : (arR b F m).R w) (ho : 0 ≤ o_ ∧ 0 ≤ z ∧ o_ + z ≤ 4294967296) (hthr : thr m o_ z = true) :
    Calls Tryd.prog 59 #[.agg #[pt b 0, vi o_, vi z], vu id] w fun e w' => ∃ (F' : Nat → Prop), e = .returned (.tuple #[.agg #[vu (kIf m o_ z id (cId m o_ (cFind m o_ z id))), v8 (kIf m o_ z id (cKd m o_ (cFind m o_ z id))), v8 (kIf m o_ z id (cLv m o_ (cFind m o_ z id))), vu (kIf m o_ z id (cN1 m o_ (cFind m o_ z id)))], vi (killE m o_ z id)]) ∧ (arR b F' (killM m o_ z id)).R w' ∧ Fr w w' F F' := by
 by_cases hp : cCnt m o_ z = 0
 · exact cl_Kill_none b F m o_ z id w hr ho hthr hp
 · exact cl_Kill_some b F m o_ z id w hr ho hthr (by omega)

set_option maxRecDepth 100000 in
set_option maxHeartbeats 1000000 in
theorem cl_Pop_none (b : Nat) (F : Nat → Prop) (m : AM) (o_ : Int) (z : Int) (w : World) (hr : (arR b F m).R w) (ho : 0 ≤ o_ ∧ 0 ≤ z ∧ o_ + z ≤ 4294967296) (hthr : thr m o_ z = true) (hp : cCnt m o_ z = 0) :
    Calls Tryd.prog 61 #[.agg #[pt b 0, vi o_, vi z]] w fun e w' => ∃ (F' : Nat → Prop), e = .returned (.tuple #[.agg #[vu (pIf m o_ z (cId m o_ (((cCnt m o_ z : Nat) : Int) - 1))), v8 (pIf m o_ z (cKd m o_ (((cCnt m o_ z : Nat) : Int) - 1))), v8 (pIf m o_ z (cLv m o_ (((cCnt m o_ z : Nat) : Int) - 1))), vu (pIf m o_ z (cN1 m o_ (((cCnt m o_ z : Nat) : Int) - 1)))], vb (popB m o_ z)]) ∧ (arR b F' (popM m o_ z)).R w' ∧ Fr w w' F F' := by
 have hsl : cSl z * 24 ≤ z ∧ 0 ≤ cSl z := by unfold cSl; omega
 have hle := cCnt_le m o_ z
 refine enter (args := [.agg #[pt b 0, vi o_, vi z]]) (D := F) (A := [arR b F m]) Tryd.func61 rfl 23 rfl [] (WS.startA (r := arR b F m) hr trivial trivial) fun ac hS => ?_
 refine hS.regS [0, 0, 0] [] fun ν1 => seg [(1, pt (ν1 0) 0), (2, pt (ν1 1) 0)] [(0, some ((ν1 0), .cells [pt b 0, vi o_, vi z] 112)), (1, some ((ν1 1), .cells [vu 0, v8 0, v8 0, vu 0] 117))] [] trivial fun ac wd hS => ?_
 refine wp_region_seq ?_
 refine hS.opsC 1 [0] [1, 2] fun _ => seg [(5, .agg #[pt b 0, vi o_, vi z])] [(0, none), (1, none)] [.e (ν1 0), .e (ν1 0), .e (ν1 0)] trivial fun ac wd hS => ?_
 refine hS.call0 67 #[.agg #[pt b 0, vi o_, vi z]] 6 (cl_All_none b F m o_ z _ (hS.mem.res 0) (by first | assumption | omega | (simp_all; done) | (simp_all; omega)) (by first | assumption | omega | (simp_all; done) | (simp_all; omega)) (by first | assumption | omega | (simp_all; done) | (simp_all; omega))) fun ac wd hS => ?_
 refine hS.opsC 1 [0] [1, 2] fun _ => seg [(4, vnil)] [(0, none), (1, none)] [] trivial fun ac wd hS => ?_
 refine list_nil_seq ?_
 refine wp_seq ?_
 refine hS.regS [0, 0, 0] [1, 2, 4] fun _ => seg [(9, vb true)] [(0, none), (1, none)] [] trivial fun ac wd hS => ?_
 refine hS.condT ?_
 refine hS.regS [0, 100, 0] [2] fun _ => seg [(3, vb false)] [(1, none)] [.e (ν1 1), .e (ν1 1), .e (ν1 1), .e (ν1 1)] trivial fun ac wd hS => ?_
 refine wp_ret ?_
 refine pop_then_ret ?_
 refine St.retC 0 hS (.tuple #[.agg #[vu 0, v8 0, v8 0, vu 0], vb false]) [.e (ν1 1), .e (ν1 1), .e (ν1 1), .e (ν1 1)] trivial fun hw => ?_
 refine ⟨F, retd (tuple2 (agg4 (vint ?_) (vint ?_) (vint ?_) (vint ?_)) (vbool ?_)), (res_eq (r := arR b F m) (by exact congrArg _ (pp_no hp).1) (hw.res 0)), hw.frA⟩
 all_goals (first | exact (pp_no hp).2.1 _ | exact (pp_no hp).2.2)

set_option maxRecDepth 100000 in
set_option maxHeartbeats 1000000 in
theorem cl_Pop_some (b : Nat) (F : Nat → Prop) (m : AM) (o_ : Int) (z : Int) (w : World) (hr : (arR b F m).R w) (ho : 0 ≤ o_ ∧ 0 ≤ z ∧ o_ + z ≤ 4294967296) (hthr : thr m o_ z = true) (hp : 0 < cCnt m o_ z) :
    Calls Tryd.prog 61 #[.agg #[pt b 0, vi o_, vi z]] w fun e w' => ∃ (F' : Nat → Prop), e = .returned (.tuple #[.agg #[vu (pIf m o_ z (cId m o_ (((cCnt m o_ z : Nat) : Int) - 1))), v8 (pIf m o_ z (cKd m o_ (((cCnt m o_ z : Nat) : Int) - 1))), v8 (pIf m o_ z (cLv m o_ (((cCnt m o_ z : Nat) : Int) - 1))), vu (pIf m o_ z (cN1 m o_ (((cCnt m o_ z : Nat) : Int) - 1)))], vb (popB m o_ z)]) ∧ (arR b F' (popM m o_ z)).R w' ∧ Fr w w' F F' := by
 have hsl : cSl z * 24 ≤ z ∧ 0 ≤ cSl z := by unfold cSl; omega
 have hle := cCnt_le m o_ z
 refine enter (args := [.agg #[pt b 0, vi o_, vi z]]) (D := F) (A := [arR b F m]) Tryd.func61 rfl 23 rfl [] (WS.startA (r := arR b F m) hr trivial trivial) fun ac hS => ?_
 refine hS.regS [0, 0, 0] [] fun ν1 => seg [(1, pt (ν1 0) 0), (2, pt (ν1 1) 0)] [(0, some ((ν1 0), .cells [pt b 0, vi o_, vi z] 112)), (1, some ((ν1 1), .cells [vu 0, v8 0, v8 0, vu 0] 117))] [] trivial fun ac wd hS => ?_
 refine wp_region_seq ?_
 refine hS.opsC 1 [0] [1, 2] fun _ => seg [(5, .agg #[pt b 0, vi o_, vi z])] [(0, none), (1, none)] [.e (ν1 0), .e (ν1 0), .e (ν1 0)] trivial fun ac wd hS => ?_
 refine hS.callC 67 #[.agg #[pt b 0, vi o_, vi z]] (cl_All_some b F m o_ z _ (hS.mem.res 0) (by first | assumption | omega | (simp_all; done) | (simp_all; omega)) (by first | assumption | omega | (simp_all; done) | (simp_all; omega)) (by first | assumption | omega | (simp_all; done) | (simp_all; omega))) ?_
 rintro _ wd ⟨g21, c22, rfl, hog0, hoh0, hF⟩
 have ho3 : w.heap.size ≤ g21 := Nat.le_trans hS.mem.fr.size hog0
 refine ⟨sc g21 0 (cCnt m o_ z) c22, rfl, ?_⟩
 replace hS := (hS.to (hS.mem.outs hF [(g21, .fn 0 (0 + (cCnt m o_ z) * 4) (entV (cEnt m o_) 0))] ⟨⟨rfl, hoh0, .inr hog0⟩, trivial⟩)).put (d := 6) (v := sc g21 0 (cCnt m o_ z) c22) (by decide)
 clear hF
 refine hS.opsC 1 [0] [1, 2] fun _ => seg [(4, sc g21 0 (cCnt m o_ z) c22)] [(0, none), (1, none), (2, none)] [] trivial fun ac wd hS => ?_
 refine list_nil_seq ?_
 refine wp_seq ?_
 refine hS.regS [0, 0, 0] [1, 2, 4] fun _ => seg [(9, vb (((((cCnt m o_ z) : Nat) : Int) : Int) == 0))] [(0, none), (1, none), (2, none)] [] trivial fun ac wd hS => ?_
 refine hS.condK (((((cCnt m o_ z) : Nat) : Int) : Int) == 0) false (by exact beq_false_of_ne (by omega)) ?_
 show Code.wp _ _ _ _ _
 refine wp_skip ?_
 refine pop_then ?_
 refine wp_region_seq ?_
 refine hS.opsC 5 [0, 0, 0, 20, 0] [2, 4] fun _ => seg [(11, .agg #[pt b 0, vi o_, vi z]), (14, vi ((((cCnt m o_ z) : Nat) : Int) - 1)), (15, .agg #[vu 0, v8 0, v8 0, vu 0])] [(1, none), (2, none)] [.p (fit .i64 ((((cCnt m o_ z) : Nat) : Int) - 1)), .e (ν1 0), .e (ν1 0), .e (ν1 0)] ⟨fit_i64 (by omega), trivial⟩ fun ac wd hS => ?_
 refine hS.callC 146 #[.agg #[pt b 0, vi o_, vi z], vi ((((cCnt m o_ z) : Nat) : Int) - 1), .agg #[vu 0, v8 0, v8 0, vu 0]] (cl_put b F m o_ z ((((cCnt m o_ z) : Nat) : Int) - 1) 0 0 0 0 _ (hS.mem.res 0) (by first | assumption | omega | (simp_all; done) | (simp_all; omega)) (by first | assumption | omega | (simp_all; done) | (simp_all; omega)) (by first | assumption | omega | (simp_all; done) | (simp_all; omega)) (by first | assumption | omega | (simp_all; done) | (simp_all; omega))) ?_
 rintro _ wd ⟨F4, rfl, hA, hF⟩
 refine ⟨.tuple #[], rfl, ?_⟩
 replace hS := (hS.to (hS.mem.stepA 0 rfl hA hF)).put (d := 16) (v := .tuple #[]) (by decide)
 clear hF
 refine list_nil_seq ?_
 refine hS.regS [0, 0, 0, 20, 20, fx 100 (.agg #[vu (cId m o_ ((Int.toNat (((cCnt m o_ z : Nat) : Int) - 1) : Nat) : Int)), v8 (cKd m o_ ((Int.toNat (((cCnt m o_ z : Nat) : Int) - 1) : Nat) : Int)), v8 (cLv m o_ ((Int.toNat (((cCnt m o_ z : Nat) : Int) - 1) : Nat) : Int)), vu (cN1 m o_ ((Int.toNat (((cCnt m o_ z : Nat) : Int) - 1) : Nat) : Int))]), 0, 0] [2] fun _ => seg [(3, vb true)] [(0, some ((ν1 1), .cells [vu (cId m o_ ((Int.toNat (((cCnt m o_ z : Nat) : Int) - 1) : Nat) : Int)), v8 (cKd m o_ ((Int.toNat (((cCnt m o_ z : Nat) : Int) - 1) : Nat) : Int)), v8 (cLv m o_ ((Int.toNat (((cCnt m o_ z : Nat) : Int) - 1) : Nat) : Int)), vu (cN1 m o_ ((Int.toNat (((cCnt m o_ z : Nat) : Int) - 1) : Nat) : Int))] 117))] [.e (ν1 1), .e (ν1 1), .e (ν1 1), .e (ν1 1), .p ((.agg #[((entV (cEnt m o_) 0) (0 + Int.toNat ((((cCnt m o_ z) : Nat) : Int) - 1) * 4)), ((entV (cEnt m o_) 0) (0 + Int.toNat ((((cCnt m o_ z) : Nat) : Int) - 1) * 4 + 1)), ((entV (cEnt m o_) 0) (0 + Int.toNat ((((cCnt m o_ z) : Nat) : Int) - 1) * 4 + 2)), ((entV (cEnt m o_) 0) (0 + Int.toNat ((((cCnt m o_ z) : Nat) : Int) - 1) * 4 + 3))] : Value) = .agg #[vu (cId m o_ ((Int.toNat (((cCnt m o_ z : Nat) : Int) - 1) : Nat) : Int)), v8 (cKd m o_ ((Int.toNat (((cCnt m o_ z : Nat) : Int) - 1) : Nat) : Int)), v8 (cLv m o_ ((Int.toNat (((cCnt m o_ z : Nat) : Int) - 1) : Nat) : Int)), vu (cN1 m o_ ((Int.toNat (((cCnt m o_ z : Nat) : Int) - 1) : Nat) : Int))]), .e g21, .p (0 ≤ 0 + Int.toNat ((((cCnt m o_ z) : Nat) : Int) - 1) * 4 + 3 ∧ 0 + Int.toNat ((((cCnt m o_ z) : Nat) : Int) - 1) * 4 + 3 < (0 + (cCnt m o_ z) * 4)), .e g21, .p (0 ≤ 0 + Int.toNat ((((cCnt m o_ z) : Nat) : Int) - 1) * 4 + 2 ∧ 0 + Int.toNat ((((cCnt m o_ z) : Nat) : Int) - 1) * 4 + 2 < (0 + (cCnt m o_ z) * 4)), .e g21, .p (0 ≤ 0 + Int.toNat ((((cCnt m o_ z) : Nat) : Int) - 1) * 4 + 1 ∧ 0 + Int.toNat ((((cCnt m o_ z) : Nat) : Int) - 1) * 4 + 1 < (0 + (cCnt m o_ z) * 4)), .e g21, .p (0 ≤ 0 + Int.toNat ((((cCnt m o_ z) : Nat) : Int) - 1) * 4 ∧ 0 + Int.toNat ((((cCnt m o_ z) : Nat) : Int) - 1) * 4 < (0 + (cCnt m o_ z) * 4)), .p ((0 : Int) ≤ ((((cCnt m o_ z) : Nat) : Int) - 1) ∧ (((((cCnt m o_ z) : Nat) : Int) - 1) : Int) < (((cCnt m o_ z) : Nat) : Int)), .p (fit .i64 ((((cCnt m o_ z) : Nat) : Int) - 1))] ⟨((agg4 (entV_0 (cEnt m o_) 0 (Int.toNat ((((cCnt m o_ z) : Nat) : Int) - 1))) (entV_1 (cEnt m o_) 0 (Int.toNat ((((cCnt m o_ z) : Nat) : Int) - 1))) (entV_2 (cEnt m o_) 0 (Int.toNat ((((cCnt m o_ z) : Nat) : Int) - 1))) (entV_3 (cEnt m o_) 0 (Int.toNat ((((cCnt m o_ z) : Nat) : Int) - 1)))).trans (rfl)), (by omega), (by omega), (by omega), (by omega), (by omega), fit_i64 (by omega), trivial⟩ fun ac wd hS => ?_
 refine wp_ret ?_
 refine St.retC 0 hS (.tuple #[.agg #[vu (cId m o_ ((Int.toNat (((cCnt m o_ z : Nat) : Int) - 1) : Nat) : Int)), v8 (cKd m o_ ((Int.toNat (((cCnt m o_ z : Nat) : Int) - 1) : Nat) : Int)), v8 (cLv m o_ ((Int.toNat (((cCnt m o_ z : Nat) : Int) - 1) : Nat) : Int)), vu (cN1 m o_ ((Int.toNat (((cCnt m o_ z : Nat) : Int) - 1) : Nat) : Int))], vb true]) [.e (ν1 1), .e (ν1 1), .e (ν1 1), .e (ν1 1)] trivial fun hw => ?_
 refine ⟨F4, retd (tuple2 (agg4 (vint ?_) (vint ?_) (vint ?_) (vint ?_)) (vbool ?_)), (res_eq (r := arR b F4 (cPutM m o_ ((((cCnt m o_ z) : Nat) : Int) - 1) 0 0 0 0)) (by exact congrArg _ (pp_yes hp).1) (hw.res 0)), hw.frA⟩
 all_goals (first | exact (pp_yes hp).2.2 | (rw [Int.toNat_of_nonneg (by omega)]; exact (pp_yes hp).2.1 _))

theorem cl_Pop (b : Nat) (F : Nat → Prop) (m : AM) (o_ : Int) (z : Int) (w : World) (hr : (arR b F m).R w) (ho : 0 ≤ o_ ∧ 0 ≤ z ∧ o_ + z ≤ 4294967296) (hthr : thr m o_ z = true) :
    Calls Tryd.prog 61 #[.agg #[pt b 0, vi o_, vi z]] w fun e w' => ∃ (F' : Nat → Prop), e = .returned (.tuple #[.agg #[vu (pIf m o_ z (cId m o_ (((cCnt m o_ z : Nat) : Int) - 1))), v8 (pIf m o_ z (cKd m o_ (((cCnt m o_ z : Nat) : Int) - 1))), v8 (pIf m o_ z (cLv m o_ (((cCnt m o_ z : Nat) : Int) - 1))), vu (pIf m o_ z (cN1 m o_ (((cCnt m o_ z : Nat) : Int) - 1)))], vb (popB m o_ z)]) ∧ (arR b F' (popM m o_ z)).R w' ∧ Fr w w' F F' := by
 by_cases hp : cCnt m o_ z = 0
 · exact cl_Pop_none b F m o_ z w hr ho hthr hp
 · exact cl_Pop_some b F m o_ z w hr ho hthr (by omega)

set_option maxRecDepth 100000 in
set_option maxHeartbeats 1000000 in
theorem law21_open (n : Int) (w : World) (hn : 0 ≤ n ∧ n ≤ 4000) :
    Calls Tryd.prog 58 #[vi n] w fun e w' => ∃ (b' : Nat) (F' : Nat → Prop), e = .returned (.tuple #[pt b' 0, .agg #[pt b' 0, vi 40, vi n], vb true]) ∧ (arR b' F' (comM (AM.new 1) 0 1)).R w' ∧ Fr w w' no F' := by
 refine enter (args := [vi n]) (D := no) (A := []) Tryd.func58 rfl 27 rfl [] (WS.startL trivial) fun ac hS => ?_
 refine hS.regS [0, 0, 0] [0] fun ν1 => seg [(3, pt (ν1 0) 0)] [(0, some ((ν1 0), .cells [pnil, vi 0, vi 0] 112))] [] trivial fun ac wd hS => ?_
 refine wp_region_seq ?_
 refine hS.callC 32 #[vi 1] (ar_New 1 _  ) ?_
 rintro _ wd ⟨b'1, F2, rfl, hN, hF⟩
 refine ⟨pt b'1 0, rfl, ?_⟩
 replace hS := (hS.to (hS.mem.newA hN hF)).put (d := 9) (v := pt b'1 0) (by decide)
 clear hF
 refine hS.opsC 1 [0] [0, 3] fun _ => seg [(5, pt b'1 0)] [(0, none)] [] trivial fun ac wd hS => ?_
 refine list_nil_seq ?_
 refine wp_region_seq ?_
 refine hS.opsC 1 [0] [0, 3, 5] fun _ => seg [(10, pt b'1 0)] [(0, none)] [] trivial fun ac wd hS => ?_
 refine hS.callC 33 #[pt b'1 0, vi 0, vi 1] (ar_Commit b'1 F2 (AM.new 1) 0 1 _ (hS.mem.res 0) ) ?_
 rintro _ wd ⟨F3, rfl, hA, hF⟩
 refine ⟨vi (comE (AM.new 1) 0 1), rfl, ?_⟩
 replace hS := (hS.to (hS.mem.stepA 0 rfl hA hF)).put (d := 11) (v := vi (comE (AM.new 1) 0 1)) (by decide)
 clear hF
 refine hS.opsC 1 [0] [0, 3, 5] fun _ => seg [(6, vi (comE (AM.new 1) 0 1))] [(0, none)] [] trivial fun ac wd hS => ?_
 refine list_nil_seq ?_
 refine wp_region_seq ?_
 refine hS.opsC 2 [0, 0] [3, 5, 6] fun _ => seg [(13, pt b'1 0), (14, vi n)] [(0, none)] [] trivial fun ac wd hS => ?_
 refine hS.call0 28 #[pt b'1 0, vi 40, vi n] 15 (vw_Of b'1 F3 (comM (AM.new 1) 0 1) 40 n _ (hS.mem.res 0) (by exact page_thr1 (by omega))) fun ac wd hS => ?_
 refine hS.opsC 6 [0, 0, 0, 0, 100, 0] [3, 5, 6] fun ν6 => seg [(7, pt (ν6 0) 0), (8, vi 0)] [(0, none), (1, some ((ν6 0), .cells [pt b'1 0, vi 40, vi n] 25))] [.e (ν6 0), .e (ν6 0), .e (ν6 0)] trivial fun ac wd hS => ?_
 refine list_nil_seq ?_
 refine wp_region_seq ?_
 refine hS.opsC 2 [0, 100] [3, 6, 8] fun _ => seg [(18, pt b'1 0), (19, .agg #[pt b'1 0, vi 40, vi n])] [(0, none)] [.e (ν6 0), .e (ν6 0), .e (ν6 0)] trivial fun ac wd hS => ?_
 refine hS.call0 69 #[.agg #[pt b'1 0, vi 40, vi n]] 20 (cl_Open b'1 40 n _  ) fun ac wd hS => ?_
 refine hS.opsC 9 [0, 0, 0, 3, 3, 80, 0, 0, 0] [3] fun _ => seg [(2, pt b'1 0), (4, vb ((((comE (AM.new 1) 0 1) : Int) == 0) && true))] [(0, some ((ν1 0), .cells [pt b'1 0, vi 40, vi n] 112))] [.e (ν1 0), .e (ν1 0), .e (ν1 0)] trivial fun ac wd hS => ?_
 refine list_nil_seq ?_
 refine wp_ret ?_
 refine St.retC 0 hS (.tuple #[pt b'1 0, .agg #[pt b'1 0, vi 40, vi n], vb ((((comE (AM.new 1) 0 1) : Int) == 0) && true)]) [.e (ν1 0), .e (ν1 0), .e (ν1 0)] trivial fun hw => ?_
 refine ⟨b'1, F3, retd (tuple3 rfl rfl (vbool ?_)), (hw.res 0), hw.frA⟩
 all_goals (first | rfl | decide +kernel)

end Go.Proofs.YtindbpffbjhfaaaDoor.K
