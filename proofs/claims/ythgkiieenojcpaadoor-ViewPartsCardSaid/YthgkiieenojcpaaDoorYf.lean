/-
  Walks, printed by w2.py.
-/
import Derived.Test.YthgkiieenojcpaaDoorYd
import Derived.Test.YthgkiieenojcpaaDoorYe
import Derived.Test.YthgkiieenojcpaaDoorProg
namespace Go.Proofs.YthgkiieenojcpaaDoor.K
set_option linter.unusedVariables false
set_option linter.unusedSimpArgs false

set_option maxRecDepth 100000 in
set_option maxHeartbeats 1000000 in
theorem vw_Of_x (b : Nat) (F : Nat → Prop) (m : AM) (a : Int) (n : Int) (w : World) (hr : (arR b F m).R w) (ht : thr m a n = false) :
    Calls Tryd.prog 39 #[pt b 0, vi a, vi n] w fun e w' => e = .returned (.tuple #[.agg #[pnil, vi 0, vi 0], vi 3]) ∧ Fr w w' no no := by
 refine enter (args := [pt b 0, vi a, vi n]) (D := no) (A := []) Tryd.func39 rfl 25 rfl [] (WS.startL trivial) fun ac hS => ?_
 refine hS.regS [0, 0] [0, 1, 2] fun ν1 => seg [(6, pt (ν1 0) 0)] [(0, some ((ν1 0), .cells [pnil, vi 0, vi 0] 72))] [] trivial fun ac wd hS => ?_
 refine wp_seq ?_
 refine wp_region_seq ?_
 refine hS.opsC 3 [0, 0, 0] [0, 1, 2, 6] fun _ => seg [(11, pt b 0), (12, vi a), (13, vi n)] [(0, none)] [] trivial fun ac wd hS => ?_
 refine hS.call0 42 #[pt b 0, vi a, vi n] 14 (ar_Bytes b F m a n _ (Res.keep hr hS.mem.fr) ) fun ac wd hS => ?_
 refine hS.opsC 5 [0, 0, 0, 0, 0] [0, 1, 2, 6] fun _ => seg [(9, vi (chkE m a n))] [(0, none)] [] trivial fun ac wd hS => ?_
 refine list_nil_seq ?_
 refine hS.regS [0, 0] [0, 1, 2, 6, 9] fun _ => seg [(18, vb (((chkE m a n) : Int) != 0))] [(0, none)] [] trivial fun ac wd hS => ?_
 refine hS.condK (((chkE m a n) : Int) != 0) true (by rw [chk_three ht]; rfl) ?_
 show Code.wp _ _ _ _ _
 refine hS.regS [0, 0, 0, 0] [6] fun _ => seg [(7, vi (chkE m a n))] [(0, none)] [.e (ν1 0), .e (ν1 0), .e (ν1 0)] trivial fun ac wd hS => ?_
 refine wp_ret ?_
 refine pop_then_ret ?_
 refine St.retC 0 hS (.tuple #[.agg #[pnil, vi 0, vi 0], vi (chkE m a n)]) [.e (ν1 0), .e (ν1 0), .e (ν1 0)] trivial fun hw => ?_
 refine ⟨retd (tuple2 rfl (vint ?_)), hw.fr0⟩
 all_goals (exact chk_three ht)

set_option maxRecDepth 100000 in
set_option maxHeartbeats 1000000 in
theorem vw_Part (b : Nat) (F : Nat → Prop) (m : AM) (o_ : Int) (z : Int) (a : Int) (n : Int) (w : World) (hr : (arR b F m).R w) (ho : 0 ≤ o_ ∧ 0 ≤ z ∧ o_ + z ≤ 4294967296) (hc : vchE z a n = 0) (ht : thr m (o_ + a) n = true) :
    Calls Tryd.prog 50 #[.agg #[pt b 0, vi o_, vi z], vi a, vi n] w fun e w' => e = .returned (.tuple #[.agg #[pt b 0, vi (o_ + a), vi n], vi 0]) ∧ Fr w w' no no := by
 have hci := vch_in hc
 refine enter (args := [.agg #[pt b 0, vi o_, vi z], vi a, vi n]) (D := no) (A := []) Tryd.func50 rfl 27 rfl [] (WS.startL trivial) fun ac hS => ?_
 refine hS.regS [0, 0, 0] [1, 2] fun ν1 => seg [(3, pt (ν1 0) 0), (6, pt (ν1 1) 0)] [(0, some ((ν1 0), .cells [pt b 0, vi o_, vi z] 72)), (1, some ((ν1 1), .cells [pnil, vi 0, vi 0] 72))] [] trivial fun ac wd hS => ?_
 refine wp_seq ?_
 refine wp_region_seq ?_
 refine hS.opsC 3 [0, 0, 0] [1, 2, 3, 6] fun _ => seg [(9, .agg #[pt b 0, vi o_, vi z]), (10, vi a), (11, vi n)] [(0, none), (1, none)] [.e (ν1 0), .e (ν1 0), .e (ν1 0)] trivial fun ac wd hS => ?_
 refine hS.call0 123 #[.agg #[pt b 0, vi o_, vi z], vi a, vi n] 12 (vw_check b a n o_ z _  (by first | assumption | omega | (simp_all; done) | (simp_all; omega))) fun ac wd hS => ?_
 refine hS.opsC 1 [0] [1, 2, 3, 6] fun _ => seg [(8, vi (vchE z a n))] [(0, none), (1, none)] [] trivial fun ac wd hS => ?_
 refine list_nil_seq ?_
 refine hS.regS [0, 0] [1, 2, 3, 6, 8] fun _ => seg [(14, vb (((vchE z a n) : Int) != 0))] [(0, none), (1, none)] [] trivial fun ac wd hS => ?_
 refine hS.condK (((vchE z a n) : Int) != 0) false (by rw [hc]; rfl) ?_
 show Code.wp _ _ _ _ _
 refine wp_skip ?_
 refine pop_then ?_
 refine wp_region_seq ?_
 refine hS.opsC 7 [0, 0, 0, 0, 0, 20, 0] [6] fun _ => seg [(18, pt b 0), (22, vi (o_ + a)), (23, vi n)] [(1, none)] [.p (fit .i64 (o_ + a)), .e (ν1 0), .e (ν1 0)] ⟨fit_i64 (by omega), trivial⟩ fun ac wd hS => ?_
 refine hS.call0 39 #[pt b 0, vi (o_ + a), vi n] 24 (vw_Of b F m (o_ + a) n _ (Res.keep hr hS.mem.fr) (by exact ht)) fun ac wd hS => ?_
 refine hS.opsC 4 [0, 0, 0, 0] [6] fun _ => seg [(7, vi 0)] [(0, some ((ν1 1), .cells [pt b 0, vi (o_ + a), vi n] 72))] [.e (ν1 1), .e (ν1 1), .e (ν1 1)] trivial fun ac wd hS => ?_
 refine list_nil_seq ?_
 refine wp_ret ?_
 refine St.retC 0 hS (.tuple #[.agg #[pt b 0, vi (o_ + a), vi n], vi 0]) [.e (ν1 1), .e (ν1 1), .e (ν1 1)] trivial fun hw => ?_
 refine ⟨retd rfl, hw.fr0⟩

set_option maxRecDepth 100000 in
set_option maxHeartbeats 1000000 in
theorem vw_Part_x (b : Nat) (F : Nat → Prop) (m : AM) (o_ : Int) (z : Int) (a : Int) (n : Int) (w : World) (hr : (arR b F m).R w) (ho : 0 ≤ o_ ∧ 0 ≤ z ∧ o_ + z ≤ 4294967296) (hc : vchE z a n ≠ 0) :
    Calls Tryd.prog 50 #[.agg #[pt b 0, vi o_, vi z], vi a, vi n] w fun e w' => e = .returned (.tuple #[.agg #[pnil, vi 0, vi 0], vi 3]) ∧ Fr w w' no no := by
 refine enter (args := [.agg #[pt b 0, vi o_, vi z], vi a, vi n]) (D := no) (A := []) Tryd.func50 rfl 27 rfl [] (WS.startL trivial) fun ac hS => ?_
 refine hS.regS [0, 0, 0] [1, 2] fun ν1 => seg [(3, pt (ν1 0) 0), (6, pt (ν1 1) 0)] [(0, some ((ν1 0), .cells [pt b 0, vi o_, vi z] 72)), (1, some ((ν1 1), .cells [pnil, vi 0, vi 0] 72))] [] trivial fun ac wd hS => ?_
 refine wp_seq ?_
 refine wp_region_seq ?_
 refine hS.opsC 3 [0, 0, 0] [1, 2, 3, 6] fun _ => seg [(9, .agg #[pt b 0, vi o_, vi z]), (10, vi a), (11, vi n)] [(0, none), (1, none)] [.e (ν1 0), .e (ν1 0), .e (ν1 0)] trivial fun ac wd hS => ?_
 refine hS.call0 123 #[.agg #[pt b 0, vi o_, vi z], vi a, vi n] 12 (vw_check b a n o_ z _  (by first | assumption | omega | (simp_all; done) | (simp_all; omega))) fun ac wd hS => ?_
 refine hS.opsC 1 [0] [1, 2, 3, 6] fun _ => seg [(8, vi (vchE z a n))] [(0, none), (1, none)] [] trivial fun ac wd hS => ?_
 refine list_nil_seq ?_
 refine hS.regS [0, 0] [1, 2, 3, 6, 8] fun _ => seg [(14, vb (((vchE z a n) : Int) != 0))] [(0, none), (1, none)] [] trivial fun ac wd hS => ?_
 refine hS.condK (((vchE z a n) : Int) != 0) true (by rw [vch_3 hc]; rfl) ?_
 show Code.wp _ _ _ _ _
 refine hS.regS [0, 0, 100, 0] [6] fun _ => seg [(7, vi (vchE z a n))] [(1, none)] [.e (ν1 1), .e (ν1 1), .e (ν1 1)] trivial fun ac wd hS => ?_
 refine wp_ret ?_
 refine pop_then_ret ?_
 refine St.retC 0 hS (.tuple #[.agg #[pnil, vi 0, vi 0], vi (vchE z a n)]) [.e (ν1 1), .e (ν1 1), .e (ν1 1)] trivial fun hw => ?_
 refine ⟨retd (tuple2 rfl (vint ?_)), hw.fr0⟩
 all_goals (exact vch_3 hc)

set_option maxRecDepth 100000 in
set_option maxHeartbeats 1000000 in
theorem vw_Part_nil (a : Int) (n : Int) (w : World) :
    Calls Tryd.prog 50 #[.agg #[pnil, vi 0, vi 0], vi a, vi n] w fun e w' => e = .returned (.tuple #[.agg #[pnil, vi 0, vi 0], vi 1]) ∧ Fr w w' no no := by
 refine enter (args := [.agg #[pnil, vi 0, vi 0], vi a, vi n]) (D := no) (A := []) Tryd.func50 rfl 27 rfl [] (WS.startL trivial) fun ac hS => ?_
 refine hS.regS [0, 0, 0] [1, 2] fun ν1 => seg [(3, pt (ν1 0) 0), (6, pt (ν1 1) 0)] [(0, some ((ν1 0), .cells [pnil, vi 0, vi 0] 72)), (1, some ((ν1 1), .cells [pnil, vi 0, vi 0] 72))] [] trivial fun ac wd hS => ?_
 refine wp_seq ?_
 refine wp_region_seq ?_
 refine hS.opsC 3 [0, 0, 0] [1, 2, 3, 6] fun _ => seg [(9, .agg #[pnil, vi 0, vi 0]), (10, vi a), (11, vi n)] [(0, none), (1, none)] [.e (ν1 0), .e (ν1 0), .e (ν1 0)] trivial fun ac wd hS => ?_
 refine hS.call0 123 #[.agg #[pnil, vi 0, vi 0], vi a, vi n] 12 (vnil_check a n _  ) fun ac wd hS => ?_
 refine hS.opsC 1 [0] [1, 2, 3, 6] fun _ => seg [(8, vi 1)] [(0, none), (1, none)] [] trivial fun ac wd hS => ?_
 refine list_nil_seq ?_
 refine hS.regS [0, 0] [1, 2, 3, 6, 8] fun _ => seg [(14, vb true)] [(0, none), (1, none)] [] trivial fun ac wd hS => ?_
 refine hS.condT ?_
 refine hS.regS [0, 0, 100, 0] [6] fun _ => seg [(7, vi 1)] [(1, none)] [.e (ν1 1), .e (ν1 1), .e (ν1 1)] trivial fun ac wd hS => ?_
 refine wp_ret ?_
 refine pop_then_ret ?_
 refine St.retC 0 hS (.tuple #[.agg #[pnil, vi 0, vi 0], vi 1]) [.e (ν1 1), .e (ν1 1), .e (ν1 1)] trivial fun hw => ?_
 refine ⟨retd rfl, hw.fr0⟩

set_option maxRecDepth 100000 in
set_option maxHeartbeats 1000000 in
theorem vw_Fill (b : Nat) (F : Nat → Prop) (m : AM) (o_ : Int) (z : Int) (a : Int) (n : Int) (c : Int) (w : World) (hr : (arR b F m).R w) (ho : 0 ≤ o_ ∧ 0 ≤ z ∧ o_ + z ≤ 4294967296) (hc : 0 ≤ c ∧ c ≤ 255) :
    Calls Tryd.prog 52 #[.agg #[pt b 0, vi o_, vi z], vi a, vi n, v8 c] w fun e w' => ∃ (F' : Nat → Prop), e = .returned (vi (vbyE m o_ z a n)) ∧ (arR b F' (vfiM m o_ z a n (u8 c))).R w' ∧ Fr w w' F F' := by
 refine enter (args := [.agg #[pt b 0, vi o_, vi z], vi a, vi n, v8 c]) (D := F) (A := [arR b F m]) Tryd.func52 rfl 26 rfl [] (WS.startA (r := arR b F m) hr trivial trivial) fun ac hS => ?_
 refine hS.regS [0, 0] [1, 2, 3] fun ν1 => seg [(4, pt (ν1 0) 0)] [(0, some ((ν1 0), .cells [pt b 0, vi o_, vi z] 72))] [] trivial fun ac wd hS => ?_
 refine wp_seq ?_
 refine wp_region_seq ?_
 refine hS.opsC 3 [0, 0, 0] [1, 2, 3, 4] fun _ => seg [(10, .agg #[pt b 0, vi o_, vi z]), (11, vi a), (12, vi n)] [(0, none)] [.e (ν1 0), .e (ν1 0), .e (ν1 0)] trivial fun ac wd hS => ?_
 refine hS.call0 123 #[.agg #[pt b 0, vi o_, vi z], vi a, vi n] 13 (vw_check b a n o_ z _  (by first | assumption | omega | (simp_all; done) | (simp_all; omega))) fun ac wd hS => ?_
 refine hS.opsC 1 [0] [1, 2, 3, 4] fun _ => seg [(9, vi (vchE z a n))] [(0, none)] [] trivial fun ac wd hS => ?_
 refine list_nil_seq ?_
 refine hS.regS [0, 0] [1, 2, 3, 4, 9] fun _ => seg [(15, vb (((vchE z a n) : Int) != 0))] [(0, none)] [] trivial fun ac wd hS => ?_
 refine hS.condC (((vchE z a n) : Int) != 0) (fun hb1o hb1 => ?_) (fun hb1o hb1 => ?_)
 ·
  have hD := vfi_1 (m := m) (o := o_) (c := u8 c) hb1
  refine hS.regS [0, 0] [] fun _ => seg [(8, vi (vchE z a n))] [] [] trivial fun ac wd hS => ?_
  refine wp_ret ?_
  refine pop_then_ret ?_
  refine St.retC 0 hS (vi (vchE z a n)) [] trivial fun hw => ?_
  refine ⟨F, retd (vint ?_), (res_eq (r := arR b F m) (by exact congrArg _ hD.2) (hw.res 0)), hw.frA⟩
  all_goals (exact hD.1)
 ·
  have hcv := hb1
  have hci := vch_in hcv
  have hD := vfi_2 (m := m) (o := o_) (c := u8 c) hcv
  refine wp_skip ?_
  refine pop_then ?_
  refine wp_region_seq ?_
  refine hS.opsC 8 [0, 0, 0, 0, 0, 20, 0, 0] [] fun _ => seg [(18, pt b 0), (22, vi (o_ + a)), (23, vi n), (24, v8 c)] [] [.p (fit .i64 (o_ + a)), .e (ν1 0), .e (ν1 0)] ⟨fit_i64 (by omega), trivial⟩ fun ac wd hS => ?_
  refine hS.callC 56 #[pt b 0, vi (o_ + a), vi n, v8 c] (ar_Fill_k b F m (o_ + a) n c _ (hS.mem.res 0) (by exact hc)) ?_
  rintro _ wd ⟨F2, rfl, hA, hF⟩
  refine ⟨vi (chkE m (o_ + a) n), rfl, ?_⟩
  replace hS := (hS.to (hS.mem.stepA 0 rfl hA hF)).put (d := 25) (v := vi (chkE m (o_ + a) n)) (by decide)
  clear hF
  refine hS.opsC 1 [0] [] fun _ => seg [(8, vi (chkE m (o_ + a) n))] [] [] trivial fun ac wd hS => ?_
  refine list_nil_seq ?_
  refine wp_ret ?_
  refine St.retC 0 hS (vi (chkE m (o_ + a) n)) [] trivial fun hw => ?_
  refine ⟨F2, retd (vint ?_), (res_eq (r := arR b F2 (filM m (o_ + a) n (u8 c))) (by exact congrArg _ hD.2) (hw.res 0)), hw.frA⟩
  all_goals (exact hD.1)

set_option maxRecDepth 100000 in
set_option maxHeartbeats 1000000 in
theorem law04_ViewParts_a (pa : Int) (pz : Int) (pa1 : Int) (pz1 : Int) (pa2 : Int) (pz2 : Int) (s : ByteArray) (w : World) (hh0 : HE.holds w 0 (.fn 0 64 dbT)) (hv : thr (putM (comM (AM.new 4) 0 4) 0 s) pa pz = false) :
    Calls Tryd.prog 9 #[vi pa, vi pz, vi pa1, vi pz1, vi pa2, vi pz2, .string s] w fun e w' => e = .returned (vb true) ∧ Fr w w' no no := by
 refine enter (args := [vi pa, vi pz, vi pa1, vi pz1, vi pa2, vi pz2, .string s]) (D := no) (A := []) Tryd.func9 rfl 147 rfl [(0, .fn 0 64 dbT)] (WS.startL ⟨⟨rfl, hh0⟩, trivial⟩) fun ac hS => ?_
 refine hS.regS [0] [0, 1, 2, 3, 4, 5, 6] fun _ => seg [] [(0, none)] [] trivial fun ac wd hS => ?_
 refine wp_seq ?_
 refine wp_region_seq ?_
 refine hS.call0 37 #[] 30 (law04_awake  _ (hS.mem.get 0 0 (.fn 0 64 dbT)) ) fun ac wd hS => ?_
 refine hS.opsC 1 [0] [0, 1, 2, 3, 4, 5, 6] fun _ => seg [(31, vb false)] [(0, none)] [] trivial fun ac wd hS => ?_
 refine list_nil_seq ?_
 refine hS.condF ?_
 refine wp_skip ?_
 refine pop_then ?_
 refine wp_seq ?_
 refine hS.regS [0, 0, 0] [0, 1, 2, 3, 4, 5, 6] fun _ => seg [(34, vb (decide ((16384 : Int) < ((ByteArray.size s : Nat) : Int))))] [(0, none)] [] trivial fun ac wd hS => ?_
 refine hS.condC (decide ((16384 : Int) < ((ByteArray.size s : Nat) : Int))) (fun hb1o hb1 => ?_) (fun hb1o hb1 => ?_)
 ·
  refine hS.regS [0] [] fun _ => seg [(14, vb true)] [(0, none)] [] trivial fun ac wd hS => ?_
  refine wp_ret ?_
  refine pop_then_ret ?_
  refine St.retC 0 hS (vb true) [] trivial fun hw => ?_
  refine ⟨retd rfl, hw.fr0⟩
 ·
  refine wp_skip ?_
  refine pop_then ?_
  refine wp_region_seq ?_
  refine hS.callC 27 #[vi 4] (ar_New 4 _  ) ?_
  rintro _ wd ⟨b'2, F3, rfl, hN, hF⟩
  refine ⟨pt b'2 0, rfl, ?_⟩
  replace hS := (hS.to (hS.mem.newA hN hF)).put (d := 35) (v := pt b'2 0) (by decide)
  clear hF
  refine hS.opsC 1 [0] [0, 1, 2, 3, 4, 5, 6] fun _ => seg [(15, pt b'2 0)] [(0, none)] [] trivial fun ac wd hS => ?_
  refine list_nil_seq ?_
  refine wp_seq ?_
  refine wp_region_seq ?_
  refine hS.opsC 1 [0] [0, 1, 2, 3, 4, 5, 6, 15] fun _ => seg [(36, pt b'2 0)] [(0, none)] [] trivial fun ac wd hS => ?_
  refine hS.callC 38 #[pt b'2 0, vi 0, vi 4] (ar_Commit b'2 F3 (AM.new 4) 0 4 _ (hS.mem.res 0) ) ?_
  rintro _ wd ⟨F4, rfl, hA, hF⟩
  refine ⟨vi (comE (AM.new 4) 0 4), rfl, ?_⟩
  replace hS := (hS.to (hS.mem.stepA 0 rfl hA hF)).put (d := 37) (v := vi (comE (AM.new 4) 0 4)) (by decide)
  clear hF
  refine hS.opsC 2 [0, 0] [0, 1, 2, 3, 4, 5, 6, 15] fun _ => seg [(39, vb (((comE (AM.new 4) 0 4) : Int) != 0))] [(0, none)] [] trivial fun ac wd hS => ?_
  have hg5o : (((comE (AM.new 4) 0 4) : Int) != 0) = false := by decide +kernel
  replace hS := hS.fix 39 (vb false) (congrArg Value.bool hg5o)
  refine hS.opsC 2 [1, 1] [0, 1, 2, 3, 4, 5, 15, 39] fun _ => seg [(40, pt b'2 0), (41, .string s)] [(0, none)] [.t false, .t false] trivial fun ac wd hS => ?_
  refine hS.callG false 44 #[pt b'2 0, vi 0, .string s] (ar_Put b'2 F4 (comM (AM.new 4) 0 4) 0 s _ (hS.mem.res 0) ) ?_
  rintro _ wd ⟨F6, rfl, hA, hF⟩
  refine ⟨vi (chkE (comM (AM.new 4) 0 4) 0 (((ByteArray.size s) : Nat) : Int)), rfl, ?_⟩
  replace hS := (hS.to (hS.mem.stepA 0 rfl hA hF)).put (d := 42) (v := vi (chkE (comM (AM.new 4) 0 4) 0 (((ByteArray.size s) : Nat) : Int))) (by decide)
  clear hF
  refine hS.opsC 2 [1, 60] [0, 1, 2, 3, 4, 5, 15] fun _ => seg [(44, vb (((chkE (comM (AM.new 4) 0 4) 0 (((ByteArray.size s) : Nat) : Int)) : Int) != 0))] [(0, none)] [.t false, .t false] trivial fun ac wd hS => ?_
  refine list_nil_seq ?_
  refine hS.condK (((chkE (comM (AM.new 4) 0 4) 0 (((ByteArray.size s) : Nat) : Int)) : Int) != 0) false (by (rw [chk_thr (p4_thr (by omega))]; rfl)) ?_
  show Code.wp _ _ _ _ _
  refine wp_skip ?_
  refine pop_then ?_
  obtain ⟨M, M_e⟩ : ∃ q_ : AM, q_ = (putM (comM (AM.new 4) 0 4) 0 s) := ⟨_, rfl⟩
  replace hS := hS.to (hS.mem.arTell (b := b'2) (F := F6) (m := (putM (comM (AM.new 4) 0 4) 0 s)) (m' := M) 0 M_e.symm)
  have hmc : M.cap = 4 := by rw [M_e]; exact (putM_com _ _ _).1.trans (by decide +kernel)
  rw [← M_e] at hv
  clear M_e
  refine wp_region_seq ?_
  refine hS.opsC 3 [0, 0, 0] [2, 3, 4, 5] fun _ => seg [(46, pt b'2 0), (47, vi pa), (48, vi pz)] [(0, none)] [] trivial fun ac wd hS => ?_
  refine hS.call0 39 #[pt b'2 0, vi pa, vi pz] 49 (vw_Of_x b'2 F6 M pa pz _ (hS.mem.res 0) (by exact hv)) fun ac wd hS => ?_
  refine hS.opsC 6 [0, 0, 0, 0, 100, 0] [2, 3, 4, 5] fun ν11 => seg [(16, pt (ν11 0) 0)] [(0, none), (1, some ((ν11 0), .cells [pnil, vi 0, vi 0] 72))] [.e (ν11 0), .e (ν11 0), .e (ν11 0)] trivial fun ac wd hS => ?_
  refine list_nil_seq ?_
  refine wp_region_seq ?_
  refine hS.opsC 3 [100, 0, 0] [2, 4, 5, 16] fun _ => seg [(53, .agg #[pnil, vi 0, vi 0]), (54, vi pa1), (55, vi pz1)] [(0, none), (1, none)] [.e (ν11 0), .e (ν11 0), .e (ν11 0)] trivial fun ac wd hS => ?_
  refine hS.call0 50 #[.agg #[pnil, vi 0, vi 0], vi pa1, vi pz1] 56 (vw_Part_nil pa1 pz1 _  ) fun ac wd hS => ?_
  refine hS.opsC 6 [0, 0, 0, 0, 200, 0] [2, 4, 5, 16] fun ν13 => seg [(18, pt (ν13 0) 0), (19, vi 1)] [(0, none), (1, none), (2, some ((ν13 0), .cells [pnil, vi 0, vi 0] 72))] [.e (ν13 0), .e (ν13 0), .e (ν13 0)] trivial fun ac wd hS => ?_
  refine list_nil_seq ?_
  refine wp_region_seq ?_
  refine hS.opsC 3 [200, 0, 0] [2, 4, 5, 16, 19] fun _ => seg [(60, .agg #[pnil, vi 0, vi 0]), (61, vi pa2), (62, vi pz2)] [(0, none), (1, none)] [.e (ν13 0), .e (ν13 0), .e (ν13 0)] trivial fun ac wd hS => ?_
  refine hS.call0 50 #[.agg #[pnil, vi 0, vi 0], vi pa2, vi pz2] 63 (vw_Part_nil pa2 pz2 _  ) fun ac wd hS => ?_
  refine hS.opsC 6 [0, 0, 0, 0, 200, 0] [2, 4, 5, 16, 19] fun ν15 => seg [(20, pt (ν15 0) 0), (21, vi 1)] [(0, none), (1, none), (2, some ((ν15 0), .cells [pnil, vi 0, vi 0] 72))] [.e (ν15 0), .e (ν15 0), .e (ν15 0)] trivial fun ac wd hS => ?_
  refine list_nil_seq ?_
  refine wp_seq ?_
  refine hS.regS [0, 0, 0, 2, 2, 70] [2, 4, 5, 16, 20, 21] fun _ => seg [(71, vb true)] [(0, none), (1, none), (2, none)] [.t true, .t true, .t true] trivial fun ac wd hS => ?_
  refine hS.condT ?_
  refine wp_region_seq ?_
  refine hS.opsC 1 [200] [21] fun _ => seg [(72, .agg #[pnil, vi 0, vi 0])] [(0, none)] [.e (ν15 0), .e (ν15 0), .e (ν15 0)] trivial fun ac wd hS => ?_
  refine hS.call0 48 #[.agg #[pnil, vi 0, vi 0]] 73 (vnil_Size  _  ) fun ac wd hS => ?_
  refine hS.opsC 6 [0, 0, 1, 1, 70, 0] [] fun _ => seg [(14, vb true)] [(0, none)] [.t true, .t true, .t true] trivial fun ac wd hS => ?_
  refine list_nil_seq ?_
  refine wp_ret ?_
  refine pop_then_ret ?_
  refine St.retC 0 hS (vb true) [] trivial fun hw => ?_
  refine ⟨retd rfl, hw.fr0⟩

set_option maxRecDepth 100000 in
set_option maxHeartbeats 1000000 in
theorem law04_ViewParts_b (pa : Int) (pz : Int) (pa1 : Int) (pz1 : Int) (pa2 : Int) (pz2 : Int) (s : ByteArray) (w : World) (hh0 : HE.holds w 0 (.fn 0 64 dbT)) (hv : thr (putM (comM (AM.new 4) 0 4) 0 s) pa pz = true) (h1 : vchE pz pa1 pz1 ≠ 0) :
    Calls Tryd.prog 9 #[vi pa, vi pz, vi pa1, vi pz1, vi pa2, vi pz2, .string s] w fun e w' => e = .returned (vb true) ∧ Fr w w' no no := by
 refine enter (args := [vi pa, vi pz, vi pa1, vi pz1, vi pa2, vi pz2, .string s]) (D := no) (A := []) Tryd.func9 rfl 147 rfl [(0, .fn 0 64 dbT)] (WS.startL ⟨⟨rfl, hh0⟩, trivial⟩) fun ac hS => ?_
 refine hS.regS [0] [0, 1, 2, 3, 4, 5, 6] fun _ => seg [] [(0, none)] [] trivial fun ac wd hS => ?_
 refine wp_seq ?_
 refine wp_region_seq ?_
 refine hS.call0 37 #[] 30 (law04_awake  _ (hS.mem.get 0 0 (.fn 0 64 dbT)) ) fun ac wd hS => ?_
 refine hS.opsC 1 [0] [0, 1, 2, 3, 4, 5, 6] fun _ => seg [(31, vb false)] [(0, none)] [] trivial fun ac wd hS => ?_
 refine list_nil_seq ?_
 refine hS.condF ?_
 refine wp_skip ?_
 refine pop_then ?_
 refine wp_seq ?_
 refine hS.regS [0, 0, 0] [0, 1, 2, 3, 4, 5, 6] fun _ => seg [(34, vb (decide ((16384 : Int) < ((ByteArray.size s : Nat) : Int))))] [(0, none)] [] trivial fun ac wd hS => ?_
 refine hS.condC (decide ((16384 : Int) < ((ByteArray.size s : Nat) : Int))) (fun hb1o hb1 => ?_) (fun hb1o hb1 => ?_)
 ·
  refine hS.regS [0] [] fun _ => seg [(14, vb true)] [(0, none)] [] trivial fun ac wd hS => ?_
  refine wp_ret ?_
  refine pop_then_ret ?_
  refine St.retC 0 hS (vb true) [] trivial fun hw => ?_
  refine ⟨retd rfl, hw.fr0⟩
 ·
  refine wp_skip ?_
  refine pop_then ?_
  refine wp_region_seq ?_
  refine hS.callC 27 #[vi 4] (ar_New 4 _  ) ?_
  rintro _ wd ⟨b'2, F3, rfl, hN, hF⟩
  refine ⟨pt b'2 0, rfl, ?_⟩
  replace hS := (hS.to (hS.mem.newA hN hF)).put (d := 35) (v := pt b'2 0) (by decide)
  clear hF
  refine hS.opsC 1 [0] [0, 1, 2, 3, 4, 5, 6] fun _ => seg [(15, pt b'2 0)] [(0, none)] [] trivial fun ac wd hS => ?_
  refine list_nil_seq ?_
  refine wp_seq ?_
  refine wp_region_seq ?_
  refine hS.opsC 1 [0] [0, 1, 2, 3, 4, 5, 6, 15] fun _ => seg [(36, pt b'2 0)] [(0, none)] [] trivial fun ac wd hS => ?_
  refine hS.callC 38 #[pt b'2 0, vi 0, vi 4] (ar_Commit b'2 F3 (AM.new 4) 0 4 _ (hS.mem.res 0) ) ?_
  rintro _ wd ⟨F4, rfl, hA, hF⟩
  refine ⟨vi (comE (AM.new 4) 0 4), rfl, ?_⟩
  replace hS := (hS.to (hS.mem.stepA 0 rfl hA hF)).put (d := 37) (v := vi (comE (AM.new 4) 0 4)) (by decide)
  clear hF
  refine hS.opsC 2 [0, 0] [0, 1, 2, 3, 4, 5, 6, 15] fun _ => seg [(39, vb (((comE (AM.new 4) 0 4) : Int) != 0))] [(0, none)] [] trivial fun ac wd hS => ?_
  have hg5o : (((comE (AM.new 4) 0 4) : Int) != 0) = false := by decide +kernel
  replace hS := hS.fix 39 (vb false) (congrArg Value.bool hg5o)
  refine hS.opsC 2 [1, 1] [0, 1, 2, 3, 4, 5, 15, 39] fun _ => seg [(40, pt b'2 0), (41, .string s)] [(0, none)] [.t false, .t false] trivial fun ac wd hS => ?_
  refine hS.callG false 44 #[pt b'2 0, vi 0, .string s] (ar_Put b'2 F4 (comM (AM.new 4) 0 4) 0 s _ (hS.mem.res 0) ) ?_
  rintro _ wd ⟨F6, rfl, hA, hF⟩
  refine ⟨vi (chkE (comM (AM.new 4) 0 4) 0 (((ByteArray.size s) : Nat) : Int)), rfl, ?_⟩
  replace hS := (hS.to (hS.mem.stepA 0 rfl hA hF)).put (d := 42) (v := vi (chkE (comM (AM.new 4) 0 4) 0 (((ByteArray.size s) : Nat) : Int))) (by decide)
  clear hF
  refine hS.opsC 2 [1, 60] [0, 1, 2, 3, 4, 5, 15] fun _ => seg [(44, vb (((chkE (comM (AM.new 4) 0 4) 0 (((ByteArray.size s) : Nat) : Int)) : Int) != 0))] [(0, none)] [.t false, .t false] trivial fun ac wd hS => ?_
  refine list_nil_seq ?_
  refine hS.condK (((chkE (comM (AM.new 4) 0 4) 0 (((ByteArray.size s) : Nat) : Int)) : Int) != 0) false (by (rw [chk_thr (p4_thr (by omega))]; rfl)) ?_
  show Code.wp _ _ _ _ _
  refine wp_skip ?_
  refine pop_then ?_
  obtain ⟨M, M_e⟩ : ∃ q_ : AM, q_ = (putM (comM (AM.new 4) 0 4) 0 s) := ⟨_, rfl⟩
  replace hS := hS.to (hS.mem.arTell (b := b'2) (F := F6) (m := (putM (comM (AM.new 4) 0 4) 0 s)) (m' := M) 0 M_e.symm)
  have hmc : M.cap = 4 := by rw [M_e]; exact (putM_com _ _ _).1.trans (by decide +kernel)
  rw [← M_e] at hv
  clear M_e
  obtain ⟨hi1, hi2, hi3, hi4⟩ := inB_facts (thr_in hv)
  refine wp_region_seq ?_
  refine hS.opsC 3 [0, 0, 0] [2, 3, 4, 5] fun _ => seg [(46, pt b'2 0), (47, vi pa), (48, vi pz)] [(0, none)] [] trivial fun ac wd hS => ?_
  refine hS.call0 39 #[pt b'2 0, vi pa, vi pz] 49 (vw_Of b'2 F6 M pa pz _ (hS.mem.res 0) (by exact hv)) fun ac wd hS => ?_
  refine hS.opsC 6 [0, 0, 0, 0, 100, 0] [2, 3, 4, 5] fun ν11 => seg [(16, pt (ν11 0) 0)] [(0, none), (1, some ((ν11 0), .cells [pt b'2 0, vi pa, vi pz] 72))] [.e (ν11 0), .e (ν11 0), .e (ν11 0)] trivial fun ac wd hS => ?_
  refine list_nil_seq ?_
  refine wp_region_seq ?_
  refine hS.opsC 3 [100, 0, 0] [2, 4, 5, 16] fun _ => seg [(53, .agg #[pt b'2 0, vi pa, vi pz]), (54, vi pa1), (55, vi pz1)] [(0, none), (1, none)] [.e (ν11 0), .e (ν11 0), .e (ν11 0)] trivial fun ac wd hS => ?_
  refine hS.call0 50 #[.agg #[pt b'2 0, vi pa, vi pz], vi pa1, vi pz1] 56 (vw_Part_x b'2 F6 M pa pz pa1 pz1 _ (hS.mem.res 0) (by first | assumption | omega | (simp_all; done) | (simp_all; omega)) (by exact h1)) fun ac wd hS => ?_
  refine hS.opsC 6 [0, 0, 0, 0, 200, 0] [2, 4, 5, 16] fun ν13 => seg [(18, pt (ν13 0) 0), (19, vi 3)] [(0, none), (1, none), (2, some ((ν13 0), .cells [pnil, vi 0, vi 0] 72))] [.e (ν13 0), .e (ν13 0), .e (ν13 0)] trivial fun ac wd hS => ?_
  refine list_nil_seq ?_
  refine wp_region_seq ?_
  refine hS.opsC 3 [200, 0, 0] [2, 4, 5, 16, 19] fun _ => seg [(60, .agg #[pnil, vi 0, vi 0]), (61, vi pa2), (62, vi pz2)] [(0, none), (1, none)] [.e (ν13 0), .e (ν13 0), .e (ν13 0)] trivial fun ac wd hS => ?_
  refine hS.call0 50 #[.agg #[pnil, vi 0, vi 0], vi pa2, vi pz2] 63 (vw_Part_nil pa2 pz2 _  ) fun ac wd hS => ?_
  refine hS.opsC 6 [0, 0, 0, 0, 200, 0] [2, 4, 5, 16, 19] fun ν15 => seg [(20, pt (ν15 0) 0), (21, vi 1)] [(0, none), (1, none), (2, some ((ν15 0), .cells [pnil, vi 0, vi 0] 72))] [.e (ν15 0), .e (ν15 0), .e (ν15 0)] trivial fun ac wd hS => ?_
  refine list_nil_seq ?_
  refine wp_seq ?_
  refine hS.regS [0, 0, 0, 2, 2, 70] [2, 4, 5, 16, 20, 21] fun _ => seg [(71, vb true)] [(0, none), (1, none), (2, none)] [.t true, .t true, .t true] trivial fun ac wd hS => ?_
  refine hS.condT ?_
  refine wp_region_seq ?_
  refine hS.opsC 1 [200] [21] fun _ => seg [(72, .agg #[pnil, vi 0, vi 0])] [(0, none)] [.e (ν15 0), .e (ν15 0), .e (ν15 0)] trivial fun ac wd hS => ?_
  refine hS.call0 48 #[.agg #[pnil, vi 0, vi 0]] 73 (vnil_Size  _  ) fun ac wd hS => ?_
  refine hS.opsC 6 [0, 0, 1, 1, 70, 0] [] fun _ => seg [(14, vb true)] [(0, none)] [.t true, .t true, .t true] trivial fun ac wd hS => ?_
  refine list_nil_seq ?_
  refine wp_ret ?_
  refine pop_then_ret ?_
  refine St.retC 0 hS (vb true) [] trivial fun hw => ?_
  refine ⟨retd rfl, hw.fr0⟩

set_option maxRecDepth 100000 in
set_option maxHeartbeats 1000000 in
theorem law04_ViewParts_c (pa : Int) (pz : Int) (pa1 : Int) (pz1 : Int) (pa2 : Int) (pz2 : Int) (s : ByteArray) (w : World) (hh0 : HE.holds w 0 (.fn 0 64 dbT)) (hv : thr (putM (comM (AM.new 4) 0 4) 0 s) pa pz = true) (h1 : vchE pz pa1 pz1 = 0) (h2 : vchE pz1 pa2 pz2 ≠ 0) :
    Calls Tryd.prog 9 #[vi pa, vi pz, vi pa1, vi pz1, vi pa2, vi pz2, .string s] w fun e w' => e = .returned (vb true) ∧ Fr w w' no no := by
 refine enter (args := [vi pa, vi pz, vi pa1, vi pz1, vi pa2, vi pz2, .string s]) (D := no) (A := []) Tryd.func9 rfl 147 rfl [(0, .fn 0 64 dbT)] (WS.startL ⟨⟨rfl, hh0⟩, trivial⟩) fun ac hS => ?_
 refine hS.regS [0] [0, 1, 2, 3, 4, 5, 6] fun _ => seg [] [(0, none)] [] trivial fun ac wd hS => ?_
 refine wp_seq ?_
 refine wp_region_seq ?_
 refine hS.call0 37 #[] 30 (law04_awake  _ (hS.mem.get 0 0 (.fn 0 64 dbT)) ) fun ac wd hS => ?_
 refine hS.opsC 1 [0] [0, 1, 2, 3, 4, 5, 6] fun _ => seg [(31, vb false)] [(0, none)] [] trivial fun ac wd hS => ?_
 refine list_nil_seq ?_
 refine hS.condF ?_
 refine wp_skip ?_
 refine pop_then ?_
 refine wp_seq ?_
 refine hS.regS [0, 0, 0] [0, 1, 2, 3, 4, 5, 6] fun _ => seg [(34, vb (decide ((16384 : Int) < ((ByteArray.size s : Nat) : Int))))] [(0, none)] [] trivial fun ac wd hS => ?_
 refine hS.condC (decide ((16384 : Int) < ((ByteArray.size s : Nat) : Int))) (fun hb1o hb1 => ?_) (fun hb1o hb1 => ?_)
 ·
  refine hS.regS [0] [] fun _ => seg [(14, vb true)] [(0, none)] [] trivial fun ac wd hS => ?_
  refine wp_ret ?_
  refine pop_then_ret ?_
  refine St.retC 0 hS (vb true) [] trivial fun hw => ?_
  refine ⟨retd rfl, hw.fr0⟩
 ·
  refine wp_skip ?_
  refine pop_then ?_
  refine wp_region_seq ?_
  refine hS.callC 27 #[vi 4] (ar_New 4 _  ) ?_
  rintro _ wd ⟨b'2, F3, rfl, hN, hF⟩
  refine ⟨pt b'2 0, rfl, ?_⟩
  replace hS := (hS.to (hS.mem.newA hN hF)).put (d := 35) (v := pt b'2 0) (by decide)
  clear hF
  refine hS.opsC 1 [0] [0, 1, 2, 3, 4, 5, 6] fun _ => seg [(15, pt b'2 0)] [(0, none)] [] trivial fun ac wd hS => ?_
  refine list_nil_seq ?_
  refine wp_seq ?_
  refine wp_region_seq ?_
  refine hS.opsC 1 [0] [0, 1, 2, 3, 4, 5, 6, 15] fun _ => seg [(36, pt b'2 0)] [(0, none)] [] trivial fun ac wd hS => ?_
  refine hS.callC 38 #[pt b'2 0, vi 0, vi 4] (ar_Commit b'2 F3 (AM.new 4) 0 4 _ (hS.mem.res 0) ) ?_
  rintro _ wd ⟨F4, rfl, hA, hF⟩
  refine ⟨vi (comE (AM.new 4) 0 4), rfl, ?_⟩
  replace hS := (hS.to (hS.mem.stepA 0 rfl hA hF)).put (d := 37) (v := vi (comE (AM.new 4) 0 4)) (by decide)
  clear hF
  refine hS.opsC 2 [0, 0] [0, 1, 2, 3, 4, 5, 6, 15] fun _ => seg [(39, vb (((comE (AM.new 4) 0 4) : Int) != 0))] [(0, none)] [] trivial fun ac wd hS => ?_
  have hg5o : (((comE (AM.new 4) 0 4) : Int) != 0) = false := by decide +kernel
  replace hS := hS.fix 39 (vb false) (congrArg Value.bool hg5o)
  refine hS.opsC 2 [1, 1] [0, 1, 2, 3, 4, 5, 15, 39] fun _ => seg [(40, pt b'2 0), (41, .string s)] [(0, none)] [.t false, .t false] trivial fun ac wd hS => ?_
  refine hS.callG false 44 #[pt b'2 0, vi 0, .string s] (ar_Put b'2 F4 (comM (AM.new 4) 0 4) 0 s _ (hS.mem.res 0) ) ?_
  rintro _ wd ⟨F6, rfl, hA, hF⟩
  refine ⟨vi (chkE (comM (AM.new 4) 0 4) 0 (((ByteArray.size s) : Nat) : Int)), rfl, ?_⟩
  replace hS := (hS.to (hS.mem.stepA 0 rfl hA hF)).put (d := 42) (v := vi (chkE (comM (AM.new 4) 0 4) 0 (((ByteArray.size s) : Nat) : Int))) (by decide)
  clear hF
  refine hS.opsC 2 [1, 60] [0, 1, 2, 3, 4, 5, 15] fun _ => seg [(44, vb (((chkE (comM (AM.new 4) 0 4) 0 (((ByteArray.size s) : Nat) : Int)) : Int) != 0))] [(0, none)] [.t false, .t false] trivial fun ac wd hS => ?_
  refine list_nil_seq ?_
  refine hS.condK (((chkE (comM (AM.new 4) 0 4) 0 (((ByteArray.size s) : Nat) : Int)) : Int) != 0) false (by (rw [chk_thr (p4_thr (by omega))]; rfl)) ?_
  show Code.wp _ _ _ _ _
  refine wp_skip ?_
  refine pop_then ?_
  obtain ⟨M, M_e⟩ : ∃ q_ : AM, q_ = (putM (comM (AM.new 4) 0 4) 0 s) := ⟨_, rfl⟩
  replace hS := hS.to (hS.mem.arTell (b := b'2) (F := F6) (m := (putM (comM (AM.new 4) 0 4) 0 s)) (m' := M) 0 M_e.symm)
  have hmc : M.cap = 4 := by rw [M_e]; exact (putM_com _ _ _).1.trans (by decide +kernel)
  rw [← M_e] at hv
  clear M_e
  obtain ⟨hi1, hi2, hi3, hi4⟩ := inB_facts (thr_in hv)
  have hc1 := vch_in h1
  refine wp_region_seq ?_
  refine hS.opsC 3 [0, 0, 0] [2, 3, 4, 5] fun _ => seg [(46, pt b'2 0), (47, vi pa), (48, vi pz)] [(0, none)] [] trivial fun ac wd hS => ?_
  refine hS.call0 39 #[pt b'2 0, vi pa, vi pz] 49 (vw_Of b'2 F6 M pa pz _ (hS.mem.res 0) (by exact hv)) fun ac wd hS => ?_
  refine hS.opsC 6 [0, 0, 0, 0, 100, 0] [2, 3, 4, 5] fun ν11 => seg [(16, pt (ν11 0) 0)] [(0, none), (1, some ((ν11 0), .cells [pt b'2 0, vi pa, vi pz] 72))] [.e (ν11 0), .e (ν11 0), .e (ν11 0)] trivial fun ac wd hS => ?_
  refine list_nil_seq ?_
  refine wp_region_seq ?_
  refine hS.opsC 3 [100, 0, 0] [2, 4, 5, 16] fun _ => seg [(53, .agg #[pt b'2 0, vi pa, vi pz]), (54, vi pa1), (55, vi pz1)] [(0, none), (1, none)] [.e (ν11 0), .e (ν11 0), .e (ν11 0)] trivial fun ac wd hS => ?_
  refine hS.call0 50 #[.agg #[pt b'2 0, vi pa, vi pz], vi pa1, vi pz1] 56 (vw_Part b'2 F6 M pa pz pa1 pz1 _ (hS.mem.res 0) (by first | assumption | omega | (simp_all; done) | (simp_all; omega)) (by exact h1) (by exact part_in hv h1)) fun ac wd hS => ?_
  refine hS.opsC 6 [0, 0, 0, 0, 200, 0] [2, 4, 5, 16] fun ν13 => seg [(18, pt (ν13 0) 0), (19, vi 0)] [(0, none), (1, none), (2, some ((ν13 0), .cells [pt b'2 0, vi (pa + pa1), vi pz1] 72))] [.e (ν13 0), .e (ν13 0), .e (ν13 0)] trivial fun ac wd hS => ?_
  refine list_nil_seq ?_
  refine wp_region_seq ?_
  refine hS.opsC 3 [200, 0, 0] [2, 4, 5, 16, 19] fun _ => seg [(60, .agg #[pt b'2 0, vi (pa + pa1), vi pz1]), (61, vi pa2), (62, vi pz2)] [(0, none), (1, none)] [.e (ν13 0), .e (ν13 0), .e (ν13 0)] trivial fun ac wd hS => ?_
  refine hS.call0 50 #[.agg #[pt b'2 0, vi (pa + pa1), vi pz1], vi pa2, vi pz2] 63 (vw_Part_x b'2 F6 M (pa + pa1) pz1 pa2 pz2 _ (hS.mem.res 0) (by first | assumption | omega | (simp_all; done) | (simp_all; omega)) (by exact h2)) fun ac wd hS => ?_
  refine hS.opsC 6 [0, 0, 0, 0, 200, 0] [2, 4, 5, 16, 19] fun ν15 => seg [(20, pt (ν15 0) 0), (21, vi 3)] [(0, none), (1, none), (2, some ((ν15 0), .cells [pnil, vi 0, vi 0] 72))] [.e (ν15 0), .e (ν15 0), .e (ν15 0)] trivial fun ac wd hS => ?_
  refine list_nil_seq ?_
  refine wp_seq ?_
  refine hS.regS [0, 0, 0, 1, 1, 60] [2, 4, 5, 16, 20, 21] fun _ => seg [(71, vb true)] [(0, none), (1, none), (2, none)] [.t false, .t false, .t false] trivial fun ac wd hS => ?_
  refine hS.condT ?_
  refine wp_region_seq ?_
  refine hS.opsC 1 [200] [21] fun _ => seg [(72, .agg #[pnil, vi 0, vi 0])] [(0, none)] [.e (ν15 0), .e (ν15 0), .e (ν15 0)] trivial fun ac wd hS => ?_
  refine hS.call0 48 #[.agg #[pnil, vi 0, vi 0]] 73 (vnil_Size  _  ) fun ac wd hS => ?_
  refine hS.opsC 6 [0, 0, 1, 1, 70, 0] [] fun _ => seg [(14, vb true)] [(0, none)] [.t true, .t true, .t true] trivial fun ac wd hS => ?_
  refine list_nil_seq ?_
  refine wp_ret ?_
  refine pop_then_ret ?_
  refine St.retC 0 hS (vb true) [] trivial fun hw => ?_
  refine ⟨retd rfl, hw.fr0⟩

set_option maxRecDepth 100000 in
set_option maxHeartbeats 1000000 in
theorem law04_ViewParts_d (pa : Int) (pz : Int) (pa1 : Int) (pz1 : Int) (pa2 : Int) (pz2 : Int) (s : ByteArray) (w : World) (hh0 : HE.holds w 0 (.fn 0 64 dbT)) (hv : thr (putM (comM (AM.new 4) 0 4) 0 s) pa pz = true) (h1 : vchE pz pa1 pz1 = 0) (h2 : vchE pz1 pa2 pz2 = 0) :
    Calls Tryd.prog 9 #[vi pa, vi pz, vi pa1, vi pz1, vi pa2, vi pz2, .string s] w fun e w' => e = .returned (vb true) ∧ Fr w w' no no := by
 refine enter (args := [vi pa, vi pz, vi pa1, vi pz1, vi pa2, vi pz2, .string s]) (D := no) (A := []) Tryd.func9 rfl 147 rfl [(0, .fn 0 64 dbT)] (WS.startL ⟨⟨rfl, hh0⟩, trivial⟩) fun ac hS => ?_
 refine hS.regS [0] [0, 1, 2, 3, 4, 5, 6] fun _ => seg [] [(0, none)] [] trivial fun ac wd hS => ?_
 refine wp_seq ?_
 refine wp_region_seq ?_
 refine hS.call0 37 #[] 30 (law04_awake  _ (hS.mem.get 0 0 (.fn 0 64 dbT)) ) fun ac wd hS => ?_
 refine hS.opsC 1 [0] [0, 1, 2, 3, 4, 5, 6] fun _ => seg [(31, vb false)] [(0, none)] [] trivial fun ac wd hS => ?_
 refine list_nil_seq ?_
 refine hS.condF ?_
 refine wp_skip ?_
 refine pop_then ?_
 refine wp_seq ?_
 refine hS.regS [0, 0, 0] [0, 1, 2, 3, 4, 5, 6] fun _ => seg [(34, vb (decide ((16384 : Int) < ((ByteArray.size s : Nat) : Int))))] [(0, none)] [] trivial fun ac wd hS => ?_
 refine hS.condC (decide ((16384 : Int) < ((ByteArray.size s : Nat) : Int))) (fun hb1o hb1 => ?_) (fun hb1o hb1 => ?_)
 ·
  refine hS.regS [0] [] fun _ => seg [(14, vb true)] [(0, none)] [] trivial fun ac wd hS => ?_
  refine wp_ret ?_
  refine pop_then_ret ?_
  refine St.retC 0 hS (vb true) [] trivial fun hw => ?_
  refine ⟨retd rfl, hw.fr0⟩
 ·
  refine wp_skip ?_
  refine pop_then ?_
  refine wp_region_seq ?_
  refine hS.callC 27 #[vi 4] (ar_New 4 _  ) ?_
  rintro _ wd ⟨b'2, F3, rfl, hN, hF⟩
  refine ⟨pt b'2 0, rfl, ?_⟩
  replace hS := (hS.to (hS.mem.newA hN hF)).put (d := 35) (v := pt b'2 0) (by decide)
  clear hF
  refine hS.opsC 1 [0] [0, 1, 2, 3, 4, 5, 6] fun _ => seg [(15, pt b'2 0)] [(0, none)] [] trivial fun ac wd hS => ?_
  refine list_nil_seq ?_
  refine wp_seq ?_
  refine wp_region_seq ?_
  refine hS.opsC 1 [0] [0, 1, 2, 3, 4, 5, 6, 15] fun _ => seg [(36, pt b'2 0)] [(0, none)] [] trivial fun ac wd hS => ?_
  refine hS.callC 38 #[pt b'2 0, vi 0, vi 4] (ar_Commit b'2 F3 (AM.new 4) 0 4 _ (hS.mem.res 0) ) ?_
  rintro _ wd ⟨F4, rfl, hA, hF⟩
  refine ⟨vi (comE (AM.new 4) 0 4), rfl, ?_⟩
  replace hS := (hS.to (hS.mem.stepA 0 rfl hA hF)).put (d := 37) (v := vi (comE (AM.new 4) 0 4)) (by decide)
  clear hF
  refine hS.opsC 2 [0, 0] [0, 1, 2, 3, 4, 5, 6, 15] fun _ => seg [(39, vb (((comE (AM.new 4) 0 4) : Int) != 0))] [(0, none)] [] trivial fun ac wd hS => ?_
  have hg5o : (((comE (AM.new 4) 0 4) : Int) != 0) = false := by decide +kernel
  replace hS := hS.fix 39 (vb false) (congrArg Value.bool hg5o)
  refine hS.opsC 2 [1, 1] [0, 1, 2, 3, 4, 5, 15, 39] fun _ => seg [(40, pt b'2 0), (41, .string s)] [(0, none)] [.t false, .t false] trivial fun ac wd hS => ?_
  refine hS.callG false 44 #[pt b'2 0, vi 0, .string s] (ar_Put b'2 F4 (comM (AM.new 4) 0 4) 0 s _ (hS.mem.res 0) ) ?_
  rintro _ wd ⟨F6, rfl, hA, hF⟩
  refine ⟨vi (chkE (comM (AM.new 4) 0 4) 0 (((ByteArray.size s) : Nat) : Int)), rfl, ?_⟩
  replace hS := (hS.to (hS.mem.stepA 0 rfl hA hF)).put (d := 42) (v := vi (chkE (comM (AM.new 4) 0 4) 0 (((ByteArray.size s) : Nat) : Int))) (by decide)
  clear hF
  refine hS.opsC 2 [1, 60] [0, 1, 2, 3, 4, 5, 15] fun _ => seg [(44, vb (((chkE (comM (AM.new 4) 0 4) 0 (((ByteArray.size s) : Nat) : Int)) : Int) != 0))] [(0, none)] [.t false, .t false] trivial fun ac wd hS => ?_
  refine list_nil_seq ?_
  refine hS.condK (((chkE (comM (AM.new 4) 0 4) 0 (((ByteArray.size s) : Nat) : Int)) : Int) != 0) false (by (rw [chk_thr (p4_thr (by omega))]; rfl)) ?_
  show Code.wp _ _ _ _ _
  refine wp_skip ?_
  refine pop_then ?_
  obtain ⟨M, M_e⟩ : ∃ q_ : AM, q_ = (putM (comM (AM.new 4) 0 4) 0 s) := ⟨_, rfl⟩
  replace hS := hS.to (hS.mem.arTell (b := b'2) (F := F6) (m := (putM (comM (AM.new 4) 0 4) 0 s)) (m' := M) 0 M_e.symm)
  have hmc : M.cap = 4 := by rw [M_e]; exact (putM_com _ _ _).1.trans (by decide +kernel)
  rw [← M_e] at hv
  clear M_e
  obtain ⟨hi1, hi2, hi3, hi4⟩ := inB_facts (thr_in hv)
  have hc1 := vch_in h1
  have hc2 := vch_in h2
  have ht1 := part_in hv h1
  have ht2 := part_in ht1 h2
  have hX : pa + (pa1 + pa2) = pa + pa1 + pa2 := by omega
  obtain ⟨hb1, hb2⟩ := part_all ht2 (by omega)
  have hw := part_told ht2
  refine wp_region_seq ?_
  refine hS.opsC 3 [0, 0, 0] [2, 3, 4, 5] fun _ => seg [(46, pt b'2 0), (47, vi pa), (48, vi pz)] [(0, none)] [] trivial fun ac wd hS => ?_
  refine hS.call0 39 #[pt b'2 0, vi pa, vi pz] 49 (vw_Of b'2 F6 M pa pz _ (hS.mem.res 0) (by exact hv)) fun ac wd hS => ?_
  refine hS.opsC 6 [0, 0, 0, 0, 100, 0] [2, 3, 4, 5] fun ν11 => seg [(16, pt (ν11 0) 0)] [(0, none), (1, some ((ν11 0), .cells [pt b'2 0, vi pa, vi pz] 72))] [.e (ν11 0), .e (ν11 0), .e (ν11 0)] trivial fun ac wd hS => ?_
  refine list_nil_seq ?_
  refine wp_region_seq ?_
  refine hS.opsC 3 [100, 0, 0] [2, 4, 5, 16] fun _ => seg [(53, .agg #[pt b'2 0, vi pa, vi pz]), (54, vi pa1), (55, vi pz1)] [(0, none), (1, none)] [.e (ν11 0), .e (ν11 0), .e (ν11 0)] trivial fun ac wd hS => ?_
  refine hS.call0 50 #[.agg #[pt b'2 0, vi pa, vi pz], vi pa1, vi pz1] 56 (vw_Part b'2 F6 M pa pz pa1 pz1 _ (hS.mem.res 0) (by first | assumption | omega | (simp_all; done) | (simp_all; omega)) (by first | exact h1 | exact h2 | exact part_two h1 h2) (by first | exact part_in hv h1 | exact part_in (part_in hv h1) h2 | exact part_in hv (part_two h1 h2))) fun ac wd hS => ?_
  refine hS.opsC 6 [0, 0, 0, 0, 200, 0] [2, 4, 5, 16] fun ν13 => seg [(18, pt (ν13 0) 0), (19, vi 0)] [(0, none), (1, none), (2, some ((ν13 0), .cells [pt b'2 0, vi (pa + pa1), vi pz1] 72))] [.e (ν13 0), .e (ν13 0), .e (ν13 0)] trivial fun ac wd hS => ?_
  refine list_nil_seq ?_
  refine wp_region_seq ?_
  refine hS.opsC 3 [200, 0, 0] [2, 4, 5, 16, 19] fun _ => seg [(60, .agg #[pt b'2 0, vi (pa + pa1), vi pz1]), (61, vi pa2), (62, vi pz2)] [(0, none), (1, none)] [.e (ν13 0), .e (ν13 0), .e (ν13 0)] trivial fun ac wd hS => ?_
  refine hS.call0 50 #[.agg #[pt b'2 0, vi (pa + pa1), vi pz1], vi pa2, vi pz2] 63 (vw_Part b'2 F6 M (pa + pa1) pz1 pa2 pz2 _ (hS.mem.res 0) (by first | assumption | omega | (simp_all; done) | (simp_all; omega)) (by first | exact h1 | exact h2 | exact part_two h1 h2) (by first | exact part_in hv h1 | exact part_in (part_in hv h1) h2 | exact part_in hv (part_two h1 h2))) fun ac wd hS => ?_
  refine hS.opsC 6 [0, 0, 0, 0, 200, 0] [2, 4, 5, 16, 19] fun ν15 => seg [(20, pt (ν15 0) 0), (21, vi 0)] [(0, none), (1, none), (2, some ((ν15 0), .cells [pt b'2 0, vi ((pa + pa1) + pa2), vi pz2] 72))] [.e (ν15 0), .e (ν15 0), .e (ν15 0)] trivial fun ac wd hS => ?_
  refine list_nil_seq ?_
  refine wp_seq ?_
  refine hS.regS [0, 0, 0, 1, 1, 60] [2, 4, 5, 16, 20, 21] fun _ => seg [(71, vb false)] [(0, none), (1, none), (2, none)] [.t false, .t false, .t false] trivial fun ac wd hS => ?_
  refine hS.condF ?_
  refine wp_skip ?_
  refine pop_then ?_
  refine wp_region_seq ?_
  refine hS.opsC 5 [100, 0, 0, 20, 0] [5, 20] fun _ => seg [(80, .agg #[pt b'2 0, vi pa, vi pz]), (83, vi (pa1 + pa2)), (84, vi pz2)] [(0, none), (2, none)] [.p (fit .i64 (pa1 + pa2)), .e (ν11 0), .e (ν11 0), .e (ν11 0)] ⟨fit_i64 (by omega), trivial⟩ fun ac wd hS => ?_
  refine hS.call0 50 #[.agg #[pt b'2 0, vi pa, vi pz], vi (pa1 + pa2), vi pz2] 85 (vw_Part b'2 F6 M pa pz (pa1 + pa2) pz2 _ (hS.mem.res 0) (by first | assumption | omega | (simp_all; done) | (simp_all; omega)) (by first | exact h1 | exact h2 | exact part_two h1 h2) (by first | exact part_in hv h1 | exact part_in (part_in hv h1) h2 | exact part_in hv (part_two h1 h2))) fun ac wd hS => ?_
  refine hS.opsC 6 [0, 0, 0, 0, 200, 0] [5, 20] fun ν18 => seg [(22, pt (ν18 0) 0), (23, vi 0)] [(0, none), (1, none), (2, some ((ν18 0), .cells [pt b'2 0, vi (pa + (pa1 + pa2)), vi pz2] 72))] [.e (ν18 0), .e (ν18 0), .e (ν18 0)] trivial fun ac wd hS => ?_
  refine list_nil_seq ?_
  refine wp_region_seq ?_
  refine hS.opsC 2 [100, 0] [5, 20, 22, 23] fun _ => seg [(89, .agg #[pt b'2 0, vi ((pa + pa1) + pa2), vi pz2]), (90, vi pz2)] [(0, none), (1, none), (2, none)] [.e (ν15 0), .e (ν15 0), .e (ν15 0)] trivial fun ac wd hS => ?_
  refine hS.call0 51 #[.agg #[pt b'2 0, vi ((pa + pa1) + pa2), vi pz2], vi 0, vi pz2] 91 (vw_Bytes b'2 F6 M ((pa + pa1) + pa2) pz2 0 pz2 _ (hS.mem.res 0) (by first | assumption | omega | (simp_all; done) | (simp_all; omega))) fun ac wd hS => ?_
  refine hS.opsC 5 [0, 0, 0, 0, 0] [5, 20, 22, 23] fun _ => seg [(24, .string (vbyS M ((pa + pa1) + pa2) pz2 0 pz2)), (25, vi (vbyE M ((pa + pa1) + pa2) pz2 0 pz2))] [(0, none), (1, none), (2, none)] [] trivial fun ac wd hS => ?_
  refine list_nil_seq ?_
  refine wp_region_seq ?_
  refine hS.opsC 2 [200, 0] [5, 20, 22, 23, 24, 25] fun _ => seg [(95, .agg #[pt b'2 0, vi (pa + (pa1 + pa2)), vi pz2]), (96, vi pz2)] [(0, none), (1, none), (2, none)] [.e (ν18 0), .e (ν18 0), .e (ν18 0)] trivial fun ac wd hS => ?_
  refine hS.call0 51 #[.agg #[pt b'2 0, vi (pa + (pa1 + pa2)), vi pz2], vi 0, vi pz2] 97 (vw_Bytes b'2 F6 M (pa + (pa1 + pa2)) pz2 0 pz2 _ (hS.mem.res 0) (by first | assumption | omega | (simp_all; done) | (simp_all; omega))) fun ac wd hS => ?_
  refine hS.opsC 5 [0, 0, 0, 0, 0] [5, 20, 22, 23, 24, 25] fun _ => seg [(26, .string (vbyS M (pa + (pa1 + pa2)) pz2 0 pz2)), (27, vi (vbyE M (pa + (pa1 + pa2)) pz2 0 pz2))] [(0, none), (1, none), (2, none)] [] trivial fun ac wd hS => ?_
  refine list_nil_seq ?_
  refine wp_region_seq ?_
  refine hS.opsC 2 [100, 0] [5, 20, 22, 23, 24, 25, 26, 27] fun _ => seg [(100, .agg #[pt b'2 0, vi ((pa + pa1) + pa2), vi pz2]), (101, vi pz2)] [(0, none), (1, none), (2, none)] [.e (ν15 0), .e (ν15 0), .e (ν15 0)] trivial fun ac wd hS => ?_
  refine hS.callC 52 #[.agg #[pt b'2 0, vi ((pa + pa1) + pa2), vi pz2], vi 0, vi pz2, v8 7] (vw_Fill b'2 F6 M ((pa + pa1) + pa2) pz2 0 pz2 7 _ (hS.mem.res 0) (by first | assumption | omega | (simp_all; done) | (simp_all; omega)) (by decide)) ?_
  rintro _ wd ⟨F7, rfl, hA, hF⟩
  refine ⟨vi (vbyE M ((pa + pa1) + pa2) pz2 0 pz2), rfl, ?_⟩
  replace hS := (hS.to (hS.mem.stepA 0 rfl hA hF)).put (d := 102) (v := vi (vbyE M ((pa + pa1) + pa2) pz2 0 pz2)) (by decide)
  clear hF
  refine list_nil_seq ?_
  refine wp_region_seq ?_
  refine hS.opsC 2 [200, 0] [5, 20, 22, 23, 24, 25, 26, 27] fun _ => seg [(104, .agg #[pt b'2 0, vi (pa + (pa1 + pa2)), vi pz2]), (105, vi pz2)] [(0, none), (1, none), (2, none)] [.e (ν18 0), .e (ν18 0), .e (ν18 0)] trivial fun ac wd hS => ?_
  refine hS.call0 51 #[.agg #[pt b'2 0, vi (pa + (pa1 + pa2)), vi pz2], vi 0, vi pz2] 106 (vw_Bytes b'2 F7 (vfiM M ((pa + pa1) + pa2) pz2 0 pz2 (u8 7)) (pa + (pa1 + pa2)) pz2 0 pz2 _ (hS.mem.res 0) (by first | assumption | omega | (simp_all; done) | (simp_all; omega))) fun ac wd hS => ?_
  refine hS.opsC 5 [0, 0, 0, 0, 0] [5, 20, 22, 23, 24, 25, 26, 27] fun _ => seg [(28, .string (vbyS (vfiM M ((pa + pa1) + pa2) pz2 0 pz2 (u8 7)) (pa + (pa1 + pa2)) pz2 0 pz2)), (29, vi (vbyE (vfiM M ((pa + pa1) + pa2) pz2 0 pz2 (u8 7)) (pa + (pa1 + pa2)) pz2 0 pz2))] [(0, none), (1, none), (2, none)] [] trivial fun ac wd hS => ?_
  refine list_nil_seq ?_
  refine St.ordBeginS [(0, 1), (1, 1), (2, 1), (3, 1), (4, 1), (5, 1), (6, 1), (7, 1), (8, 1), (9, 1), (10, 1), (11, 1), (12, 1), (13, 1), (14, 1), (15, 1), (16, 1), (17, 1), (18, 1), (19, 1), (20, 1), (21, 1), (22, 0), (23, 1), (24, 1), (25, 1), (26, 1), (28, 1), (27, 0), (29, 0), (30, 1), (31, 1), (32, 1), (33, 1), (35, 1), (34, 0), (36, 1), (37, 1), (38, 1)] [(0, .fn 0 64 dbT), ((ν15 0), .cells [pt b'2 0, vi ((pa + pa1) + pa2), vi pz2] 72), ((ν18 0), .cells [pt b'2 0, vi (pa + (pa1 + pa2)), vi pz2] 72)] [0, 1, 2] hS fun wd hS => ?_
  have hap := hS.mem.pairs (Hf := [(0, .fn 0 64 dbT), ((ν15 0), .cells [pt b'2 0, vi ((pa + pa1) + pa2), vi pz2] 72), ((ν18 0), .cells [pt b'2 0, vi (pa + (pa1 + pa2)), vi pz2] 72)]) (l := [0, 1, 2])
  refine St.ordF [0, 0, 0] [0, 1, 2] [5, 20, 22, 24, 25, 26, 27, 28, 29] (rest := [(3, 1), (4, 1), (5, 1), (6, 1), (7, 1), (8, 1), (9, 1), (10, 1), (11, 1), (12, 1), (13, 1), (14, 1), (15, 1), (16, 1), (17, 1), (18, 1), (19, 1), (20, 1), (21, 1), (22, 0), (23, 1), (24, 1), (25, 1), (26, 1), (28, 1), (27, 0), (29, 0), (30, 1), (31, 1), (32, 1), (33, 1), (35, 1), (34, 0), (36, 1), (37, 1), (38, 1)]) hS hap <| segF [(111, vb true)] [] trivial fun ac hS => ?_
  refine St.ordF [1, 1, 70, 0] [3, 4, 5, 6] [5, 20, 22, 24, 26, 27, 28, 29] (rest := [(7, 1), (8, 1), (9, 1), (10, 1), (11, 1), (12, 1), (13, 1), (14, 1), (15, 1), (16, 1), (17, 1), (18, 1), (19, 1), (20, 1), (21, 1), (22, 0), (23, 1), (24, 1), (25, 1), (26, 1), (28, 1), (27, 0), (29, 0), (30, 1), (31, 1), (32, 1), (33, 1), (35, 1), (34, 0), (36, 1), (37, 1), (38, 1)]) hS hap <| segF [(115, vb (((vbyE M ((pa + pa1) + pa2) pz2 0 pz2) : Int) == 0))] [.t true, .t true, .t true] trivial fun ac hS => ?_
  have hk8 : (((vbyE M ((pa + pa1) + pa2) pz2 0 pz2) : Int) == 0) = true := by (rw [hb1]; rfl)
  replace hS := hS.fix 115 (vb true) (congrArg Value.bool hk8)
  refine St.ordF [1, 1, 70, 0] [7, 8, 9, 10] [5, 20, 22, 24, 26, 28, 29] (rest := [(11, 1), (12, 1), (13, 1), (14, 1), (15, 1), (16, 1), (17, 1), (18, 1), (19, 1), (20, 1), (21, 1), (22, 0), (23, 1), (24, 1), (25, 1), (26, 1), (28, 1), (27, 0), (29, 0), (30, 1), (31, 1), (32, 1), (33, 1), (35, 1), (34, 0), (36, 1), (37, 1), (38, 1)]) hS hap <| segF [(119, vb (((vbyE M (pa + (pa1 + pa2)) pz2 0 pz2) : Int) == 0))] [.t true, .t true, .t true] trivial fun ac hS => ?_
  have hk9 : (((vbyE M (pa + (pa1 + pa2)) pz2 0 pz2) : Int) == 0) = true := by (rw [hX, hb1]; rfl)
  replace hS := hS.fix 119 (vb true) (congrArg Value.bool hk9)
  refine St.ordF [1, 1, 70, 0] [11, 12, 13, 14] [5, 20, 22, 24, 26, 28] (rest := [(15, 1), (16, 1), (17, 1), (18, 1), (19, 1), (20, 1), (21, 1), (22, 0), (23, 1), (24, 1), (25, 1), (26, 1), (28, 1), (27, 0), (29, 0), (30, 1), (31, 1), (32, 1), (33, 1), (35, 1), (34, 0), (36, 1), (37, 1), (38, 1)]) hS hap <| segF [(123, vb (((vbyE (vfiM M ((pa + pa1) + pa2) pz2 0 pz2 (u8 7)) (pa + (pa1 + pa2)) pz2 0 pz2) : Int) == 0))] [.t true, .t true, .t true] trivial fun ac hS => ?_
  have hk10 : (((vbyE (vfiM M ((pa + pa1) + pa2) pz2 0 pz2 (u8 7)) (pa + (pa1 + pa2)) pz2 0 pz2) : Int) == 0) = true := by (rw [hX, hw.1]; rfl)
  replace hS := hS.fix 123 (vb true) (congrArg Value.bool hk10)
  refine St.ordF [1, 1, 1, 70, 0] [15, 16, 17, 18, 19] [5, 20, 22, 28] (rest := [(20, 1), (21, 1), (22, 0), (23, 1), (24, 1), (25, 1), (26, 1), (28, 1), (27, 0), (29, 0), (30, 1), (31, 1), (32, 1), (33, 1), (35, 1), (34, 0), (36, 1), (37, 1), (38, 1)]) hS hap <| segF [(128, vb (ByteArray.toList (vbyS M ((pa + pa1) + pa2) pz2 0 pz2) == ByteArray.toList (vbyS M (pa + (pa1 + pa2)) pz2 0 pz2)))] [.t true, .t true, .t true, .t true] trivial fun ac hS => ?_
  have hk11 : (ByteArray.toList (vbyS M ((pa + pa1) + pa2) pz2 0 pz2) == ByteArray.toList (vbyS M (pa + (pa1 + pa2)) pz2 0 pz2)) = true := by (rw [hX]; exact beq_self_eq_true _)
  replace hS := hS.fix 128 (vb true) (congrArg Value.bool hk11)
  refine St.ordF [1, 1] [20, 21] [5, 20, 22, 128] (rest := [(22, 0), (23, 1), (24, 1), (25, 1), (26, 1), (28, 1), (27, 0), (29, 0), (30, 1), (31, 1), (32, 1), (33, 1), (35, 1), (34, 0), (36, 1), (37, 1), (38, 1)]) hS hap <| segF [(129, .string (vbyS (vfiM M ((pa + pa1) + pa2) pz2 0 pz2 (u8 7)) (pa + (pa1 + pa2)) pz2 0 pz2)), (130, vi pz2)] [.t true, .t true] trivial fun ac hS => ?_
  refine hS.ordCG 22 true 53 #[.string (⟨#[7]⟩ : ByteArray), vi pz2] (str_Repeat (⟨#[7]⟩ : ByteArray) pz2 _  (by (have h9 : (⟨#[7]⟩ : ByteArray).size = 1 := rfl; rw [h9]; omega))) ?_
  rintro _ wd ⟨rfl, hF⟩
  refine ⟨.string (repS (⟨#[7]⟩ : ByteArray) (Int.toNat pz2)), rfl, ?_⟩
  replace hS := (hS.to (hS.mem.keep0 hF)).put (d := 131) (v := .string (repS (⟨#[7]⟩ : ByteArray) (Int.toNat pz2))) (by decide)
  clear hF
  refine hS.ordV (l := [0, 1, 2]) ?_
  refine St.ordF [1, 70, 0] [23, 24, 25] [5, 20, 22] (rest := [(26, 1), (28, 1), (27, 0), (29, 0), (30, 1), (31, 1), (32, 1), (33, 1), (35, 1), (34, 0), (36, 1), (37, 1), (38, 1)]) hS hap <| segF [(134, vb (ByteArray.toList (vbyS (vfiM M ((pa + pa1) + pa2) pz2 0 pz2 (u8 7)) (pa + (pa1 + pa2)) pz2 0 pz2) == ByteArray.toList (repS (⟨#[7]⟩ : ByteArray) (Int.toNat pz2))))] [.t true, .t true] trivial fun ac hS => ?_
  have hk12 : (ByteArray.toList (vbyS (vfiM M ((pa + pa1) + pa2) pz2 0 pz2 (u8 7)) (pa + (pa1 + pa2)) pz2 0 pz2) == ByteArray.toList (repS (⟨#[7]⟩ : ByteArray) (Int.toNat pz2))) = true := by (rw [hX, hw.2]; exact beq_self_eq_true _)
  replace hS := hS.fix 134 (vb true) (congrArg Value.bool hk12)
  refine St.ordF [101, 201] [26, 28] [5, 20, 134] (rest := [(27, 0), (29, 0), (30, 1), (31, 1), (32, 1), (33, 1), (35, 1), (34, 0), (36, 1), (37, 1), (38, 1)]) hS hap <| segF [(135, .agg #[pt b'2 0, vi ((pa + pa1) + pa2), vi pz2]), (137, .agg #[pt b'2 0, vi (pa + (pa1 + pa2)), vi pz2])] [.t true, .e (ν18 0), .e (ν18 0), .e (ν18 0), .t true, .e (ν15 0), .e (ν15 0), .e (ν15 0)] trivial fun ac hS => ?_
  refine hS.ordCG 27 true 49 #[.agg #[pt b'2 0, vi ((pa + pa1) + pa2), vi pz2]] (vw_At b'2 ((pa + pa1) + pa2) pz2 _  ) ?_
  rintro _ wd ⟨rfl, hF⟩
  refine ⟨vi ((pa + pa1) + pa2), rfl, ?_⟩
  replace hS := (hS.to (hS.mem.keep0 hF)).put (d := 136) (v := vi ((pa + pa1) + pa2)) (by decide)
  clear hF
  refine hS.ordV (l := [0, 1, 2]) ?_
  refine hS.ordCG 29 true 49 #[.agg #[pt b'2 0, vi (pa + (pa1 + pa2)), vi pz2]] (vw_At b'2 (pa + (pa1 + pa2)) pz2 _  ) ?_
  rintro _ wd ⟨rfl, hF⟩
  refine ⟨vi (pa + (pa1 + pa2)), rfl, ?_⟩
  replace hS := (hS.to (hS.mem.keep0 hF)).put (d := 138) (v := vi (pa + (pa1 + pa2))) (by decide)
  clear hF
  refine hS.ordV (l := [0, 1, 2]) ?_
  refine St.ordF [1, 70, 0] [30, 31, 32] [5, 20] (rest := [(33, 1), (35, 1), (34, 0), (36, 1), (37, 1), (38, 1)]) hS hap <| segF [(141, vb ((((pa + pa1) + pa2) : Int) == (pa + (pa1 + pa2))))] [.t true, .t true] trivial fun ac hS => ?_
  have hk13 : ((((pa + pa1) + pa2) : Int) == (pa + (pa1 + pa2))) = true := by (rw [hX]; exact beq_self_eq_true _)
  replace hS := hS.fix 141 (vb true) (congrArg Value.bool hk13)
  refine St.ordF [101, 1] [33, 35] [141] (rest := [(34, 0), (36, 1), (37, 1), (38, 1)]) hS hap <| segF [(142, .agg #[pt b'2 0, vi ((pa + pa1) + pa2), vi pz2]), (144, vi pz2)] [.t true, .t true, .e (ν15 0), .e (ν15 0), .e (ν15 0)] trivial fun ac hS => ?_
  refine hS.ordCG 34 true 48 #[.agg #[pt b'2 0, vi ((pa + pa1) + pa2), vi pz2]] (vw_Size b'2 ((pa + pa1) + pa2) pz2 _  ) ?_
  rintro _ wd ⟨rfl, hF⟩
  refine ⟨vi pz2, rfl, ?_⟩
  replace hS := (hS.to (hS.mem.keep0 hF)).put (d := 143) (v := vi pz2) (by decide)
  clear hF
  refine hS.ordV (l := [0, 1, 2]) ?_
  refine St.ordF [fx 1 (vb true), 70, 0] [36, 37, 38] [] (rest := []) hS hap <| segF [(14, vb true)] [.t true, .t true, .p ((vb ((pz2 : Int) == pz2) : Value) = vb true)] ⟨(congrArg Value.bool (beq_self_eq_true _)), trivial⟩ fun ac hS => ?_
  refine ord_nil ?_
  refine wp_ret ?_
  refine St.retC 0 hS (vb true) [] trivial fun hw => ?_
  refine ⟨retd rfl, hw.fr0⟩

theorem law04_ViewParts (pa : Int) (pz : Int) (pa1 : Int) (pz1 : Int) (pa2 : Int) (pz2 : Int) (s : ByteArray) (w : World) (hh0 : HE.holds w 0 (.fn 0 64 dbT)) :
    Calls Tryd.prog 9 #[vi pa, vi pz, vi pa1, vi pz1, vi pa2, vi pz2, .string s] w fun e w' => e = .returned (vb true) ∧ Fr w w' no no := by
 cases hv : thr (putM (comM (AM.new 4) 0 4) 0 s) pa pz with
 | false => exact law04_ViewParts_a pa pz pa1 pz1 pa2 pz2 s w hh0 hv
 | true =>
  by_cases h1 : vchE pz pa1 pz1 = 0
  · by_cases h2 : vchE pz1 pa2 pz2 = 0
    · exact law04_ViewParts_d pa pz pa1 pz1 pa2 pz2 s w hh0 hv h1 h2
    · exact law04_ViewParts_c pa pz pa1 pz1 pa2 pz2 s w hh0 hv h1 h2
  · exact law04_ViewParts_b pa pz pa1 pz1 pa2 pz2 s w hh0 hv h1

end Go.Proofs.YthgkiieenojcpaaDoor.K
