/-
  Walks, printed by w2.py.
-/
import Derived.Test.YtlnecfdbmoilbaaDoorAm
import Derived.Test.YtlnecfdbmoilbaaDoorBb
import Derived.Test.YtlnecfdbmoilbaaDoorProg
namespace Go.Proofs.YtlnecfdbmoilbaaDoor.K
set_option linter.unusedVariables false
set_option linter.unusedSimpArgs false

set_option maxRecDepth 100000 in
set_option maxHeartbeats 1000000 in
theorem ar_Cap (b : Nat) (F : Nat → Prop) (m : AM) (w : World) (hr : (arR b F m).R w) :
    Calls Tryd.prog 19 #[pt b 0] w fun e w' => e = .returned (vi ((m.cap : Nat) : Int)) ∧ Fr w w' no no := by
 obtain ⟨d, hd⟩ := hr
 have hW : Words d.ws d.nw m.cap m.com := hd.set
 have hcl : m.cap ≤ 1048576 := hd.capLe
 refine enter (args := [pt b 0]) (D := no) (A := []) Tryd.func19 rfl 10 rfl [(b, .fn 0 6 (roF [sc d.bp 0 m.cap m.cap, vi ((m.cap : Nat) : Int), sc d.bw d.ow d.nw d.cw, vi ((countTo m.com m.cap : Nat) : Int), vb m.armed, vi ((m.refuse : Nat) : Int)])), (d.bw, .fn d.ow (d.ow + d.nw) (u64s d.ws d.ow))] (WS.startL ⟨⟨rfl, hd.ro⟩, ⟨rfl, hd.wo⟩, trivial⟩) fun ac hS => ?_
 refine hS.regS [0] [0] fun _ => seg [] [(0, none), (1, none)] [] trivial fun ac wd hS => ?_
 refine wp_seq ?_
 refine hS.regS [0, 0] [0] fun _ => seg [(4, vb false)] [(0, none), (1, none)] [] trivial fun ac wd hS => ?_
 refine hS.condF ?_
 refine wp_skip ?_
 refine pop_then ?_
 refine hS.regS [0, 0, 0, 0, 0, 0] [] fun _ => seg [(2, vi ((m.cap : Nat) : Int))] [] [.e b, .p (0 ≤ 0 ∧ 0 < 6)] ⟨(by decide), trivial⟩ fun ac wd hS => ?_
 refine wp_ret ?_
 refine St.retC 0 hS (vi ((m.cap : Nat) : Int)) [] trivial fun hw => ?_
 refine ⟨retd rfl, hw.fr0⟩

set_option maxRecDepth 100000 in
set_option maxHeartbeats 1000000 in
theorem ar_Committed (b : Nat) (F : Nat → Prop) (m : AM) (w : World) (hr : (arR b F m).R w) :
    Calls Tryd.prog 20 #[pt b 0] w fun e w' => e = .returned (vi ((countTo m.com m.cap : Nat) : Int)) ∧ Fr w w' no no := by
 obtain ⟨d, hd⟩ := hr
 have hW : Words d.ws d.nw m.cap m.com := hd.set
 have hcl : m.cap ≤ 1048576 := hd.capLe
 refine enter (args := [pt b 0]) (D := no) (A := []) Tryd.func20 rfl 9 rfl [(b, .fn 0 6 (roF [sc d.bp 0 m.cap m.cap, vi ((m.cap : Nat) : Int), sc d.bw d.ow d.nw d.cw, vi ((countTo m.com m.cap : Nat) : Int), vb m.armed, vi ((m.refuse : Nat) : Int)])), (d.bw, .fn d.ow (d.ow + d.nw) (u64s d.ws d.ow))] (WS.startL ⟨⟨rfl, hd.ro⟩, ⟨rfl, hd.wo⟩, trivial⟩) fun ac hS => ?_
 refine hS.regS [0] [0] fun _ => seg [] [(0, none), (1, none)] [] trivial fun ac wd hS => ?_
 refine wp_seq ?_
 refine hS.regS [0, 0] [0] fun _ => seg [(4, vb false)] [(0, none), (1, none)] [] trivial fun ac wd hS => ?_
 refine hS.condF ?_
 refine wp_skip ?_
 refine pop_then ?_
 refine hS.regS [0, 0, 0, 0, 0] [] fun _ => seg [(2, vi ((countTo m.com m.cap : Nat) : Int))] [] [.e b, .p (0 ≤ 3 ∧ 3 < 6)] ⟨(by decide), trivial⟩ fun ac wd hS => ?_
 refine wp_ret ?_
 refine St.retC 0 hS (vi ((countTo m.com m.cap : Nat) : Int)) [] trivial fun hw => ?_
 refine ⟨retd rfl, hw.fr0⟩

set_option maxRecDepth 100000 in
set_option maxHeartbeats 1000000 in
theorem ar_Has (b : Nat) (F : Nat → Prop) (m : AM) (i : Int) (w : World) (hr : (arR b F m).R w) :
    Calls Tryd.prog 33 #[pt b 0, vi i] w fun e w' => e = .returned (vb (hasV m.com m.cap i)) ∧ Fr w w' no no := by
 obtain ⟨d, hd⟩ := hr
 have hW : Words d.ws d.nw m.cap m.com := hd.set
 have hcl : m.cap ≤ 1048576 := hd.capLe
 refine enter (args := [pt b 0, vi i]) (D := no) (A := []) Tryd.func33 rfl 15 rfl [(b, .fn 0 6 (roF [sc d.bp 0 m.cap m.cap, vi ((m.cap : Nat) : Int), sc d.bw d.ow d.nw d.cw, vi ((countTo m.com m.cap : Nat) : Int), vb m.armed, vi ((m.refuse : Nat) : Int)])), (d.bw, .fn d.ow (d.ow + d.nw) (u64s d.ws d.ow))] (WS.startL ⟨⟨rfl, hd.ro⟩, ⟨rfl, hd.wo⟩, trivial⟩) fun ac hS => ?_
 refine hS.regS [0] [0, 1] fun _ => seg [] [(0, none), (1, none)] [] trivial fun ac wd hS => ?_
 refine wp_region_seq ?_
 refine hS.opsC 3 [0, 0, 0] [0, 1] fun _ => seg [(7, vb true)] [(0, none), (1, none)] [] trivial fun ac wd hS => ?_
 refine hS.opsC 5 [1, 1, 1, 1, 1] [7] fun _ => seg [(11, .agg #[vi ((m.cap : Nat) : Int), sc d.bw d.ow d.nw d.cw]), (12, vi i)] [(1, none)] [.t true, .t true, .e b, .p (0 ≤ 2 ∧ 2 < 6), .e b, .p (0 ≤ 1 ∧ 1 < 6), .t true, .t true, .t true] ⟨(by decide), (by decide), trivial⟩ fun ac wd hS => ?_
 refine hS.callG true 77 #[.agg #[vi ((m.cap : Nat) : Int), sc d.bw d.ow d.nw d.cw], vi i] (bits_Has d.bw d.ow d.cw d.nw d.ws m.cap i m.com _ (hS.mem.get 0 d.bw (.fn d.ow (d.ow + d.nw) (u64s d.ws d.ow))) (by first | assumption | omega | (simp_all; done) | (simp_all; omega)) (by first | assumption | omega | (simp_all; done) | (simp_all; omega))) ?_
 rintro _ wd ⟨rfl, hF⟩
 refine ⟨vb (hasV m.com m.cap i), rfl, ?_⟩
 replace hS := (hS.to (hS.mem.keep0 hF)).put (d := 13) (v := vb (hasV m.com m.cap i)) (by decide)
 clear hF
 refine hS.opsC 2 [70, 0] [] fun _ => seg [(4, vb (hasV m.com m.cap i))] [] [.t true] trivial fun ac wd hS => ?_
 refine list_nil_seq ?_
 refine wp_ret ?_
 refine St.retC 0 hS (vb (hasV m.com m.cap i)) [] trivial fun hw => ?_
 refine ⟨retd rfl, hw.fr0⟩

set_option maxRecDepth 100000 in
set_option maxHeartbeats 1000000 in
theorem ar_row (b : Nat) (F : Nat → Prop) (m : AM) (f : Int) (n : Int) (w : World) (hr : (arR b F m).R w) :
    Calls Tryd.prog 57 #[pt b 0, vi f, vi n] w fun e w' => e = .returned (.tuple #[vi (rowC m f n), vi (rowE m f n)]) ∧ Fr w w' no no := by
 obtain ⟨d, hd⟩ := hr
 have hW : Words d.ws d.nw m.cap m.com := hd.set
 have hcl : m.cap ≤ 1048576 := hd.capLe
 refine enter (args := [pt b 0, vi f, vi n]) (D := no) (A := []) Tryd.func57 rfl 23 rfl [(b, .fn 0 6 (roF [sc d.bp 0 m.cap m.cap, vi ((m.cap : Nat) : Int), sc d.bw d.ow d.nw d.cw, vi ((countTo m.com m.cap : Nat) : Int), vb m.armed, vi ((m.refuse : Nat) : Int)])), (d.bw, .fn d.ow (d.ow + d.nw) (u64s d.ws d.ow))] (WS.startL ⟨⟨rfl, hd.ro⟩, ⟨rfl, hd.wo⟩, trivial⟩) fun ac hS => ?_
 refine hS.regS [0, 0] [0, 1, 2] fun _ => seg [] [(0, none), (1, none)] [] trivial fun ac wd hS => ?_
 refine wp_seq ?_
 refine wp_block ?_
 refine hS.regS [0, 0, 0] [0, 1, 2] fun _ => seg [(8, vb false)] [(0, none), (1, none)] [] trivial fun ac wd hS => ?_
 refine hS.condF ?_
 refine hS.regS [0, 0, 0] [0, 1, 2] fun _ => seg [(11, vb (decide ((n : Int) < 1)))] [(0, none), (1, none)] [] trivial fun ac wd hS => ?_
 refine hS.condC (decide ((n : Int) < 1)) (fun hb1o hb1 => ?_) (fun hb1o hb1 => ?_)
 ·
  refine hS.regS [0, 0] [] fun _ => seg [(6, vi 0), (7, vi 2)] [] [] trivial fun ac wd hS => ?_
  refine wp_ret ?_
  refine pop_block_ret ?_
  refine pop_then_ret ?_
  refine St.retC 0 hS (.tuple #[vi 0, vi 2]) [] trivial fun hw => ?_
  refine ⟨retd (tuple2 (vint ?_) (vint ?_)), hw.fr0⟩
  all_goals (first | exact (rowE_lt (by omega)).symm | exact (rowC_lt (by omega)).symm | exact (rowE_ge (by omega)).symm | exact (rowC_ge (by omega)).symm)
 ·
  refine wp_skip ?_
  refine pop_block ?_
  refine pop_then ?_
  refine wp_region_seq ?_
  refine hS.opsC 6 [0, 0, 0, 0, 0, 0] [] fun _ => seg [(17, .agg #[vi ((m.cap : Nat) : Int), sc d.bw d.ow d.nw d.cw]), (18, vi f), (19, vi n)] [(1, none)] [.e b, .p (0 ≤ 2 ∧ 2 < 6), .e b, .p (0 ≤ 1 ∧ 1 < 6)] ⟨(by decide), (by decide), trivial⟩ fun ac wd hS => ?_
  refine hS.call0 32 #[.agg #[vi ((m.cap : Nat) : Int), sc d.bw d.ow d.nw d.cw], vi f, vi n] 20 (bits_Count d.bw d.ow d.cw d.nw d.ws m.cap f n m.com _ (hS.mem.get 0 d.bw (.fn d.ow (d.ow + d.nw) (u64s d.ws d.ow))) (by first | assumption | omega | (simp_all; done) | (simp_all; omega)) (by first | assumption | omega | (simp_all; done) | (simp_all; omega))) fun ac wd hS => ?_
  refine hS.opsC 4 [0, 0, 0, 0] [] fun _ => seg [(6, vi (cntV m.com m.cap f n)), (7, vi (trnE m.cap f n))] [] [] trivial fun ac wd hS => ?_
  refine list_nil_seq ?_
  refine wp_ret ?_
  refine St.retC 0 hS (.tuple #[vi (cntV m.com m.cap f n), vi (trnE m.cap f n)]) [] trivial fun hw => ?_
  refine ⟨retd (tuple2 (vint ?_) (vint ?_)), hw.fr0⟩
  all_goals (first | exact (rowE_lt (by omega)).symm | exact (rowC_lt (by omega)).symm | exact (rowE_ge (by omega)).symm | exact (rowC_ge (by omega)).symm)

set_option maxRecDepth 100000 in
set_option maxHeartbeats 1000000 in
theorem ar_check (b : Nat) (F : Nat → Prop) (m : AM) (a : Int) (n : Int) (w : World) (hr : (arR b F m).R w) :
    Calls Tryd.prog 59 #[pt b 0, vi a, vi n] w fun e w' => e = .returned (vi (chkE m a n)) ∧ Fr w w' no no := by
 obtain ⟨d, hd⟩ := hr
 have hW : Words d.ws d.nw m.cap m.com := hd.set
 have hcl : m.cap ≤ 1048576 := hd.capLe
 refine enter (args := [pt b 0, vi a, vi n]) (D := no) (A := []) Tryd.func59 rfl 71 rfl [(b, .fn 0 6 (roF [sc d.bp 0 m.cap m.cap, vi ((m.cap : Nat) : Int), sc d.bw d.ow d.nw d.cw, vi ((countTo m.com m.cap : Nat) : Int), vb m.armed, vi ((m.refuse : Nat) : Int)])), (d.bw, .fn d.ow (d.ow + d.nw) (u64s d.ws d.ow))] (WS.startL ⟨⟨rfl, hd.ro⟩, ⟨rfl, hd.wo⟩, trivial⟩) fun ac hS => ?_
 refine hS.regS [0] [0, 1, 2] fun _ => seg [] [(0, none), (1, none)] [] trivial fun ac wd hS => ?_
 refine wp_seq ?_
 refine wp_block ?_
 refine hS.regS [0, 0, 0] [0, 1, 2] fun _ => seg [(11, vb false)] [(0, none), (1, none)] [] trivial fun ac wd hS => ?_
 refine hS.condF ?_
 refine hS.regS [0, 0, 0, 3, 3, 80, 0, 3, 3, 3, 3, 3, 3, 23, 3, 80, 0, 3, 3, 3, 3, 3, 3, 23, 3, 23, 3, 80, 0] [0, 1, 2] fun _ => seg [(14, vb ((((decide ((a : Int) < 0)) || (decide ((n : Int) < 0))) || (decide (((((m.cap : Nat) : Int) * 4096) : Int) < n))) || (decide ((((((m.cap : Nat) : Int) * 4096) - n) : Int) < a))))] [(0, none), (1, none)] [.p ((((((decide ((a : Int) < 0)) || (decide ((n : Int) < 0))) || (decide (((((m.cap : Nat) : Int) * 4096) : Int) < n))) = false) ∧ True) → AllP [fit .i64 ((((m.cap : Nat) : Int) * 4096) - n)]), .p ((((((decide ((a : Int) < 0)) || (decide ((n : Int) < 0))) || (decide (((((m.cap : Nat) : Int) * 4096) : Int) < n))) = false) ∧ True) → AllP [fit .i64 (((m.cap : Nat) : Int) * 4096)]), .p ((((((decide ((a : Int) < 0)) || (decide ((n : Int) < 0))) || (decide (((((m.cap : Nat) : Int) * 4096) : Int) < n))) = false) ∧ True) → AllP [(b : Nat) = b, 0 ≤ 0 ∧ 0 < 6]), .p (((((decide ((a : Int) < 0)) || (decide ((n : Int) < 0))) = false) ∧ True) → AllP [fit .i64 (((m.cap : Nat) : Int) * 4096)]), .p (((((decide ((a : Int) < 0)) || (decide ((n : Int) < 0))) = false) ∧ True) → AllP [(b : Nat) = b, 0 ≤ 0 ∧ 0 < 6])] ⟨(fun ⟨hc0, _⟩ => by replace hc0 := nrm hc0; exact ⟨fit_i64 (by omega), trivial⟩), (fun ⟨hc0, _⟩ => by replace hc0 := nrm hc0; exact ⟨fit_i64 (by omega), trivial⟩), (fun ⟨hc0, _⟩ => by replace hc0 := nrm hc0; exact ⟨rfl, (by decide), trivial⟩), (fun ⟨hc0, _⟩ => by replace hc0 := nrm hc0; exact ⟨fit_i64 (by omega), trivial⟩), (fun ⟨hc0, _⟩ => by replace hc0 := nrm hc0; exact ⟨rfl, (by decide), trivial⟩), trivial⟩ fun ac wd hS => ?_
 refine hS.condC ((((decide ((a : Int) < 0)) || (decide ((n : Int) < 0))) || (decide (((((m.cap : Nat) : Int) * 4096) : Int) < n))) || (decide ((((((m.cap : Nat) : Int) * 4096) - n) : Int) < a))) (fun hb1o hb1 => ?_) (fun hb1o hb1 => ?_)
 ·
  refine hS.regS [0] [] fun _ => seg [(6, vi 3)] [] [] trivial fun ac wd hS => ?_
  refine wp_ret ?_
  refine pop_block_ret ?_
  refine pop_then_ret ?_
  refine St.retC 0 hS (vi 3) [] trivial fun hw => ?_
  refine ⟨retd (vint ?_), hw.fr0⟩
  all_goals (first | exact chk_out (inB_no (by omega)) | exact chk_nil (inB_yes (by omega) (by omega) (by omega) (by omega)) (by omega) | exact chk_no (inB_yes (by omega) (by omega) (by omega) (by omega)) (by omega) (by omega) | exact chk_yes (inB_yes (by omega) (by omega) (by omega) (by omega)) (by omega) (by omega))
 ·
  refine hS.regS [0, 0, 0] [0, 1, 2] fun _ => seg [(43, vb ((n : Int) == 0))] [(0, none), (1, none)] [] trivial fun ac wd hS => ?_
  refine hS.condC ((n : Int) == 0) (fun hb2o hb2 => ?_) (fun hb2o hb2 => ?_)
  ·
   refine hS.regS [0] [] fun _ => seg [(6, vi 0)] [] [] trivial fun ac wd hS => ?_
   refine wp_ret ?_
   refine pop_block_ret ?_
   refine pop_then_ret ?_
   refine St.retC 0 hS (vi 0) [] trivial fun hw => ?_
   refine ⟨retd (vint ?_), hw.fr0⟩
   all_goals (first | exact chk_out (inB_no (by omega)) | exact chk_nil (inB_yes (by omega) (by omega) (by omega) (by omega)) (by omega) | exact chk_no (inB_yes (by omega) (by omega) (by omega) (by omega)) (by omega) (by omega) | exact chk_yes (inB_yes (by omega) (by omega) (by omega) (by omega)) (by omega) (by omega))
  ·
   refine wp_skip ?_
   refine pop_block ?_
   refine pop_then ?_
   refine hS.regS [0, 20, 0, 0, 20, 20, 20, 0, 0] [0] fun _ => seg [(7, vi (a / 4096)), (8, vi (((a + n) - 1) / 4096))] [(0, none), (1, none)] [.p (4096 ≠ 0 ∧ IntKind.i64.wrap (Int.tdiv ((a + n) - 1) 4096) = ((a + n) - 1) / 4096), .p (fit .i64 ((a + n) - 1)), .p (fit .i64 (a + n)), .p (4096 ≠ 0 ∧ IntKind.i64.wrap (Int.tdiv a 4096) = a / 4096)] ⟨quo2 (by omega) (by omega) (by omega), fit_i64 (by omega), fit_i64 (by omega), quo2 (by omega) (by omega) (by omega), trivial⟩ fun ac wd hS => ?_
   refine wp_seq ?_
   refine wp_region_seq ?_
   refine hS.opsC 9 [0, 0, 0, 0, 0, 0, 0, 20, 20] [7, 8] fun _ => seg [(57, .agg #[vi ((m.cap : Nat) : Int), sc d.bw d.ow d.nw d.cw]), (58, vi (a / 4096)), (62, vi (((((a + n) - 1) / 4096) - (a / 4096)) + 1))] [(1, none)] [.p (fit .i64 (((((a + n) - 1) / 4096) - (a / 4096)) + 1)), .p (fit .i64 ((((a + n) - 1) / 4096) - (a / 4096))), .e b, .p (0 ≤ 2 ∧ 2 < 6), .e b, .p (0 ≤ 1 ∧ 1 < 6)] ⟨fit_i64 (by omega), fit_i64 (by omega), (by decide), (by decide), trivial⟩ fun ac wd hS => ?_
   refine hS.call0 32 #[.agg #[vi ((m.cap : Nat) : Int), sc d.bw d.ow d.nw d.cw], vi (a / 4096), vi (((((a + n) - 1) / 4096) - (a / 4096)) + 1)] 63 (bits_Count d.bw d.ow d.cw d.nw d.ws m.cap (a / 4096) (((((a + n) - 1) / 4096) - (a / 4096)) + 1) m.com _ (hS.mem.get 0 d.bw (.fn d.ow (d.ow + d.nw) (u64s d.ws d.ow))) (by first | assumption | omega | (simp_all; done) | (simp_all; omega)) (by first | assumption | omega | (simp_all; done) | (simp_all; omega))) fun ac wd hS => ?_
   refine hS.opsC 5 [0, 0, 0, 0, 0] [7, 8] fun _ => seg [(9, vi (cntV m.com m.cap (a / 4096) (((((a + n) - 1) / 4096) - (a / 4096)) + 1)))] [] [] trivial fun ac wd hS => ?_
   refine list_nil_seq ?_
   refine hS.regS [0, 0, 0, 20, 0] [] fun _ => seg [(70, vb (decide (((cntV m.com m.cap (a / 4096) (((((a + n) - 1) / 4096) - (a / 4096)) + 1)) : Int) ≤ ((((a + n) - 1) / 4096) - (a / 4096)))))] [] [.p (fit .i64 ((((a + n) - 1) / 4096) - (a / 4096)))] ⟨fit_i64 (by omega), trivial⟩ fun ac wd hS => ?_
   refine hS.condC (decide (((cntV m.com m.cap (a / 4096) (((((a + n) - 1) / 4096) - (a / 4096)) + 1)) : Int) ≤ ((((a + n) - 1) / 4096) - (a / 4096)))) (fun hb3o hb3 => ?_) (fun hb3o hb3 => ?_)
   ·
    refine hS.regS [0] [] fun _ => seg [(6, vi 3)] [] [] trivial fun ac wd hS => ?_
    refine wp_ret ?_
    refine pop_then_ret ?_
    refine St.retC 0 hS (vi 3) [] trivial fun hw => ?_
    refine ⟨retd (vint ?_), hw.fr0⟩
    all_goals (first | exact chk_out (inB_no (by omega)) | exact chk_nil (inB_yes (by omega) (by omega) (by omega) (by omega)) (by omega) | exact chk_no (inB_yes (by omega) (by omega) (by omega) (by omega)) (by omega) (by omega) | exact chk_yes (inB_yes (by omega) (by omega) (by omega) (by omega)) (by omega) (by omega))
   ·
    refine wp_skip ?_
    refine pop_then ?_
    refine hS.regS [0] [] fun _ => seg [(6, vi 0)] [] [] trivial fun ac wd hS => ?_
    refine wp_ret ?_
    refine St.retC 0 hS (vi 0) [] trivial fun hw => ?_
    refine ⟨retd (vint ?_), hw.fr0⟩
    all_goals (first | exact chk_out (inB_no (by omega)) | exact chk_nil (inB_yes (by omega) (by omega) (by omega) (by omega)) (by omega) | exact chk_no (inB_yes (by omega) (by omega) (by omega) (by omega)) (by omega) (by omega) | exact chk_yes (inB_yes (by omega) (by omega) (by omega) (by omega)) (by omega) (by omega))

end Go.Proofs.YtlnecfdbmoilbaaDoor.K
