/-
  Walks, printed by w2.py.
-/
import Derived.Test.YtghohcgbmceiaaaDoorIb
import Derived.Test.YtghohcgbmceiaaaDoorJb
import Derived.Test.YtghohcgbmceiaaaDoorProg
namespace Go.Proofs.YtghohcgbmceiaaaDoor.K
set_option linter.unusedVariables false
set_option linter.unusedSimpArgs false

set_option maxRecDepth 100000 in
set_option maxHeartbeats 1000000 in
theorem chunk_Wipe (b : Nat) (F : Nat → Prop) (m : AM) (at_ : Int) (w : World) (hr : (arR b F m).R w) :
    Calls Tryd.prog 52 #[pt b 0, vi at_] w fun e w' => ∃ (F' : Nat → Prop), e = .returned (vi (chkE m at_ 32)) ∧ (arR b F' (filM m at_ 32 0)).R w' ∧ Fr w w' F F' := by
 refine enter (args := [pt b 0, vi at_]) (D := F) (A := [arR b F m]) Tryd.func52 rfl 8 rfl [] (WS.startA (r := arR b F m) hr trivial trivial) fun ac hS => ?_
 refine hS.regS [0] [0, 1] fun _ => seg [] [] [] trivial fun ac wd hS => ?_
 refine wp_region_seq ?_
 refine hS.opsC 2 [0, 0] [] fun _ => seg [(5, pt b 0), (6, vi at_)] [] [] trivial fun ac wd hS => ?_
 refine hS.callC 111 #[pt b 0, vi at_, vi 32, v8 0] (ar_Fill b F m at_ 32 (0 : UInt8) _ (hS.mem.res 0) ) ?_
 rintro _ wd ⟨F1, rfl, hA, hF⟩
 refine ⟨vi (chkE m at_ 32), rfl, ?_⟩
 replace hS := (hS.to (hS.mem.stepA 0 rfl hA hF)).put (d := 7) (v := vi (chkE m at_ 32)) (by decide)
 clear hF
 refine hS.opsC 1 [0] [] fun _ => seg [(4, vi (chkE m at_ 32))] [] [] trivial fun ac wd hS => ?_
 refine list_nil_seq ?_
 refine wp_ret ?_
 refine St.retC 0 hS (vi (chkE m at_ 32)) [] trivial fun hw => ?_
 refine ⟨F1, retd rfl, (res_eq (r := arR b F1 (filM m at_ 32 (0 : UInt8))) (by rfl) (hw.res 0)), hw.frA⟩

theorem ar_Bytes_v (b : Nat) (F : Nat → Prop) (m : AM) (a : Int) (n : Int) (sv : ByteArray) (ev : Int) (w : World) (hr : (arR b F m).R w) (hv : bytS m a n = sv ∧ chkE m a n = ev) :
    Calls Tryd.prog 21 #[pt b 0, vi a, vi n] w fun e w' => e = .returned (.tuple #[.string sv, vi ev]) ∧ Fr w w' no no := by
 obtain ⟨rfl, rfl⟩ := hv
 exact ar_Bytes b F m a n w hr

set_option maxRecDepth 100000 in
set_option maxHeartbeats 1000000 in
theorem law10_ChunkAlone (at_ : Int) (ord : Int) (own : Int) (nx : Int) (s : ByteArray) (w : World) (hh0 : HE.holds w 1 (.fn 0 64 dbT)) (hown : 0 ≤ own ∧ own ≤ 18446744073709551615 ∧ nx ≤ 9223372036854775807) :
    Calls Tryd.prog 8 #[.agg #[vi at_, vi ord, vu own, vi nx], .string s] w fun e w' => e = .returned (vb true) ∧ Fr w w' no no := by
 have hB1 : bytS (putM (comM (AM.new 2) 0 2) 0 s) 0 8192 = bytS (putM (comM (AM.new 2) 0 2) 0 s) 0 8192 ∧ chkE (putM (comM (AM.new 2) 0 2) 0 s) 0 8192 = 0 := ⟨rfl, chk_thr (pg2_thr s (by omega))⟩
 have hB2 : bytS (wrcM (putM (comM (AM.new 2) 0 2) 0 s) at_ ord own nx) 0 8192 = bytS (wrcM (putM (comM (AM.new 2) 0 2) 0 s) at_ ord own nx) 0 8192 ∧ chkE (wrcM (putM (comM (AM.new 2) 0 2) 0 s) at_ ord own nx) 0 8192 = 0 := ⟨rfl, chk_thr (alone_thr (s := s) ord own nx (by omega))⟩
 refine enter (args := [.agg #[vi at_, vi ord, vu own, vi nx], .string s]) (D := no) (A := []) Tryd.func8 rfl 134 rfl [(1, .fn 0 64 dbT)] (WS.startL ⟨⟨rfl, hh0⟩, trivial⟩) fun ac hS => ?_
 refine hS.regS [0, 0] [1] fun ν1 => seg [(2, pt (ν1 0) 0)] [(0, none), (1, some ((ν1 0), .cells [vi at_, vi ord, vu own, vi nx] 70))] [] trivial fun ac wd hS => ?_
 refine wp_seq ?_
 refine wp_region_seq ?_
 refine hS.call0 45 #[] 19 (law10_awake  _ (hS.mem.get 0 1 (.fn 0 64 dbT)) ) fun ac wd hS => ?_
 refine hS.opsC 1 [0] [1, 2] fun _ => seg [(20, vb false)] [(0, none), (1, none)] [] trivial fun ac wd hS => ?_
 refine list_nil_seq ?_
 refine hS.condF ?_
 refine wp_skip ?_
 refine pop_then ?_
 refine wp_seq ?_
 refine hS.regS [0, 0, 0] [1, 2] fun _ => seg [(23, vb (decide ((8192 : Int) < ((ByteArray.size s : Nat) : Int))))] [(0, none), (1, none)] [] trivial fun ac wd hS => ?_
 refine hS.condC (decide ((8192 : Int) < ((ByteArray.size s : Nat) : Int))) (fun hb1o hb1 => ?_) (fun hb1o hb1 => ?_)
 ·
  refine hS.regS [0] [] fun _ => seg [(4, vb true)] [(0, none)] [] trivial fun ac wd hS => ?_
  refine wp_ret ?_
  refine pop_then_ret ?_
  refine St.retC 0 hS (vb true) [] trivial fun hw => ?_
  refine ⟨retd rfl, hw.fr0⟩
 ·
  refine wp_skip ?_
  refine pop_then ?_
  refine wp_region_seq ?_
  refine hS.callC 16 #[vi 2] (ar_New 2 _  ) ?_
  rintro _ wd ⟨b'2, F3, rfl, hN, hF⟩
  refine ⟨pt b'2 0, rfl, ?_⟩
  replace hS := (hS.to (hS.mem.newA hN hF)).put (d := 24) (v := pt b'2 0) (by decide)
  clear hF
  refine hS.opsC 1 [0] [1, 2] fun _ => seg [(5, pt b'2 0)] [(0, none), (1, none)] [] trivial fun ac wd hS => ?_
  refine list_nil_seq ?_
  refine wp_seq ?_
  refine wp_region_seq ?_
  refine hS.opsC 1 [0] [1, 2, 5] fun _ => seg [(25, pt b'2 0)] [(0, none), (1, none)] [] trivial fun ac wd hS => ?_
  refine hS.callC 17 #[pt b'2 0, vi 0, vi 2] (ar_Commit b'2 F3 (AM.new 2) 0 2 _ (hS.mem.res 0) ) ?_
  rintro _ wd ⟨F4, rfl, hA, hF⟩
  refine ⟨vi (comE (AM.new 2) 0 2), rfl, ?_⟩
  replace hS := (hS.to (hS.mem.stepA 0 rfl hA hF)).put (d := 26) (v := vi (comE (AM.new 2) 0 2)) (by decide)
  clear hF
  refine hS.opsC 2 [0, 0] [1, 2, 5] fun _ => seg [(28, vb (((comE (AM.new 2) 0 2) : Int) != 0))] [(0, none), (1, none)] [] trivial fun ac wd hS => ?_
  have hg5o : (((comE (AM.new 2) 0 2) : Int) != 0) = false := by decide +kernel
  replace hS := hS.fix 28 (vb false) (congrArg Value.bool hg5o)
  refine hS.opsC 2 [1, 1] [2, 5, 28] fun _ => seg [(29, pt b'2 0), (30, .string s)] [(0, none), (1, none)] [.t false, .t false] trivial fun ac wd hS => ?_
  refine hS.callG false 23 #[pt b'2 0, vi 0, .string s] (ar_Put b'2 F4 (comM (AM.new 2) 0 2) 0 s _ (hS.mem.res 0) ) ?_
  rintro _ wd ⟨F6, rfl, hA, hF⟩
  refine ⟨vi (chkE (comM (AM.new 2) 0 2) 0 (((ByteArray.size s) : Nat) : Int)), rfl, ?_⟩
  replace hS := (hS.to (hS.mem.stepA 0 rfl hA hF)).put (d := 31) (v := vi (chkE (comM (AM.new 2) 0 2) 0 (((ByteArray.size s) : Nat) : Int))) (by decide)
  clear hF
  refine hS.opsC 2 [1, 60] [2, 5] fun _ => seg [(33, vb (((chkE (comM (AM.new 2) 0 2) 0 (((ByteArray.size s) : Nat) : Int)) : Int) != 0))] [(0, none), (1, none)] [.t false, .t false] trivial fun ac wd hS => ?_
  refine list_nil_seq ?_
  refine hS.condK (((chkE (comM (AM.new 2) 0 2) 0 (((ByteArray.size s) : Nat) : Int)) : Int) != 0) false (by rw [chk_thr (page_thr2 (by omega))]; rfl) ?_
  show Code.wp _ _ _ _ _
  refine wp_skip ?_
  refine pop_then ?_
  refine wp_region_seq ?_
  refine hS.opsC 1 [0] [2, 5] fun _ => seg [(35, pt b'2 0)] [(0, none), (1, none)] [] trivial fun ac wd hS => ?_
  refine hS.call0 21 #[pt b'2 0, vi 0, vi 8192] 36 (ar_Bytes_v b'2 F6 (putM (comM (AM.new 2) 0 2) 0 s) 0 8192 (bytS (putM (comM (AM.new 2) 0 2) 0 s) 0 8192) 0 _ (hS.mem.res 0) (by with_reducible assumption)) fun ac wd hS => ?_
  replace hS := hS.fix 36 (.tuple #[.string (bytS (putM (comM (AM.new 2) 0 2) 0 s) 0 8192), vi 0]) (show (.tuple #[.string (bytS (putM (comM (AM.new 2) 0 2) 0 s) 0 8192), vi 0] : Value) = .tuple #[.string (bytS (putM (comM (AM.new 2) 0 2) 0 s) 0 8192), vi 0] from (tuple2 rfl (vint (by first | exact chk_thr hth | rfl))))
  refine hS.opsC 5 [0, 0, 0, 0, 0] [2, 5] fun _ => seg [(6, .string (bytS (putM (comM (AM.new 2) 0 2) 0 s) 0 8192))] [(0, none), (1, none)] [] trivial fun ac wd hS => ?_
  refine list_nil_seq ?_
  refine wp_seq ?_
  refine wp_region_seq ?_
  refine hS.opsC 2 [0, 100] [2, 5, 6] fun _ => seg [(39, pt b'2 0), (40, .agg #[vi at_, vi ord, vu own, vi nx])] [(0, none), (1, none)] [.e (ν1 0), .e (ν1 0), .e (ν1 0), .e (ν1 0)] trivial fun ac wd hS => ?_
  refine hS.callC 50 #[pt b'2 0, .agg #[vi at_, vi ord, vu own, vi nx]] (chunk_Write b'2 F6 (putM (comM (AM.new 2) 0 2) 0 s) at_ ord own nx _ (hS.mem.res 0) (by first | assumption | omega | (simp_all; done) | (simp_all; omega))) ?_
  rintro _ wd ⟨F7, rfl, hA, hF⟩
  refine ⟨vi (wrcE (putM (comM (AM.new 2) 0 2) 0 s) at_ ord own nx), rfl, ?_⟩
  replace hS := (hS.to (hS.mem.stepA 0 rfl hA hF)).put (d := 41) (v := vi (wrcE (putM (comM (AM.new 2) 0 2) 0 s) at_ ord own nx)) (by decide)
  clear hF
  refine hS.opsC 1 [0] [2, 5, 6] fun _ => seg [(42, vb (((wrcE (putM (comM (AM.new 2) 0 2) 0 s) at_ ord own nx) : Int) != 0))] [(0, none), (1, none)] [] trivial fun ac wd hS => ?_
  refine list_nil_seq ?_
  refine hS.condC (((wrcE (putM (comM (AM.new 2) 0 2) 0 s) at_ ord own nx) : Int) != 0) (fun hb8o hb8 => ?_) (fun hb8o hb8 => ?_)
  ·
   have hq := wrc_bad hb8
   refine wp_region_seq ?_
   refine hS.opsC 1 [0] [6] fun _ => seg [(44, pt b'2 0)] [(0, none)] [] trivial fun ac wd hS => ?_
   refine hS.call0 21 #[pt b'2 0, vi 0, vi 8192] 45 (ar_Bytes_v b'2 F7 (wrcM (putM (comM (AM.new 2) 0 2) 0 s) at_ ord own nx) 0 8192 (bytS (wrcM (putM (comM (AM.new 2) 0 2) 0 s) at_ ord own nx) 0 8192) 0 _ (hS.mem.res 0) (by with_reducible assumption)) fun ac wd hS => ?_
   replace hS := hS.fix 45 (.tuple #[.string (bytS (wrcM (putM (comM (AM.new 2) 0 2) 0 s) at_ ord own nx) 0 8192), vi 0]) (show (.tuple #[.string (bytS (wrcM (putM (comM (AM.new 2) 0 2) 0 s) at_ ord own nx) 0 8192), vi 0] : Value) = .tuple #[.string (bytS (wrcM (putM (comM (AM.new 2) 0 2) 0 s) at_ ord own nx) 0 8192), vi 0] from (tuple2 rfl (vint (by first | exact chk_thr hth | rfl))))
   refine hS.opsC 5 [0, 0, 0, 0, 0] [6] fun _ => seg [(8, .string (bytS (wrcM (putM (comM (AM.new 2) 0 2) 0 s) at_ ord own nx) 0 8192))] [(0, none)] [] trivial fun ac wd hS => ?_
   refine list_nil_seq ?_
   refine hS.regS [0, 0, 0, 0] [] fun _ => seg [(4, vb (ByteArray.toList (bytS (wrcM (putM (comM (AM.new 2) 0 2) 0 s) at_ ord own nx) 0 8192) == ByteArray.toList (bytS (putM (comM (AM.new 2) 0 2) 0 s) 0 8192)))] [(0, none)] [] trivial fun ac wd hS => ?_
   refine wp_ret ?_
   refine pop_then_ret ?_
   refine St.retC 0 hS (vb (ByteArray.toList (bytS (wrcM (putM (comM (AM.new 2) 0 2) 0 s) at_ ord own nx) 0 8192) == ByteArray.toList (bytS (putM (comM (AM.new 2) 0 2) 0 s) 0 8192))) [] trivial fun hw => ?_
   refine ⟨retd (vbool ?_), hw.fr0⟩
   all_goals (first | rfl | (rw [hq]; simp; done))
  ·
   have hg := hb8
   have hin := alone_in (s := s) (at_ := at_) (ord := ord) (own := own) (nx := nx) hg
   have hrd := wrc_read hg hown
   have hth : thr (wrcM (putM (comM (AM.new 2) 0 2) 0 s) at_ ord own nx) at_ 32 = true := alone_thr (s := s) ord own nx (by omega)
   have hwp := wipe_read hth
   have hB3 : bytS (filM (wrcM (putM (comM (AM.new 2) 0 2) 0 s) at_ ord own nx) at_ 32 0) at_ 32 = (bs (fun j => (fun _ => 0) (0 + j)) 32) ∧ chkE (filM (wrcM (putM (comM (AM.new 2) 0 2) 0 s) at_ ord own nx) at_ 32 0) at_ 32 = 0 := hwp.2
   have hR2 : ((rdAt (filM (wrcM (putM (comM (AM.new 2) 0 2) 0 s) at_ ord own nx) at_ 32 0) at_ = rdAt (filM (wrcM (putM (comM (AM.new 2) 0 2) 0 s) at_ ord own nx) at_ 32 0) at_ ∧ rdOrd (filM (wrcM (putM (comM (AM.new 2) 0 2) 0 s) at_ ord own nx) at_ 32 0) at_ = rdOrd (filM (wrcM (putM (comM (AM.new 2) 0 2) 0 s) at_ ord own nx) at_ 32 0) at_) ∧ (rdOwn (filM (wrcM (putM (comM (AM.new 2) 0 2) 0 s) at_ ord own nx) at_ 32 0) at_ = rdOwn (filM (wrcM (putM (comM (AM.new 2) 0 2) 0 s) at_ ord own nx) at_ 32 0) at_ ∧ rdNx (filM (wrcM (putM (comM (AM.new 2) 0 2) 0 s) at_ ord own nx) at_ 32 0) at_ = rdNx (filM (wrcM (putM (comM (AM.new 2) 0 2) 0 s) at_ ord own nx) at_ 32 0) at_)) ∧ rdE (filM (wrcM (putM (comM (AM.new 2) 0 2) 0 s) at_ ord own nx) at_ 32 0) at_ = 7 := ⟨⟨⟨rfl, rfl⟩, rfl, rfl⟩, hwp.1⟩
   have hs1 : ByteArray.size (bytS (wrcM (putM (comM (AM.new 2) 0 2) 0 s) at_ ord own nx) 0 8192) = 8192 := alone_size _ (alone_thr (s := s) ord own nx (by omega))
   have hs2 : ByteArray.size (bytS (putM (comM (AM.new 2) 0 2) 0 s) 0 8192) = 8192 := alone_size _ (pg2_thr s (by omega))
   refine wp_skip ?_
   refine pop_then ?_
   refine wp_region_seq ?_
   refine hS.opsC 1 [0] [2, 5, 6] fun _ => seg [(52, pt b'2 0)] [(0, none), (1, none)] [] trivial fun ac wd hS => ?_
   refine hS.call0 21 #[pt b'2 0, vi 0, vi 8192] 53 (ar_Bytes_v b'2 F7 (wrcM (putM (comM (AM.new 2) 0 2) 0 s) at_ ord own nx) 0 8192 (bytS (wrcM (putM (comM (AM.new 2) 0 2) 0 s) at_ ord own nx) 0 8192) 0 _ (hS.mem.res 0) (by with_reducible assumption)) fun ac wd hS => ?_
   replace hS := hS.fix 53 (.tuple #[.string (bytS (wrcM (putM (comM (AM.new 2) 0 2) 0 s) at_ ord own nx) 0 8192), vi 0]) (show (.tuple #[.string (bytS (wrcM (putM (comM (AM.new 2) 0 2) 0 s) at_ ord own nx) 0 8192), vi 0] : Value) = .tuple #[.string (bytS (wrcM (putM (comM (AM.new 2) 0 2) 0 s) at_ ord own nx) 0 8192), vi 0] from (tuple2 rfl (vint (by first | exact chk_thr hth | rfl))))
   refine hS.opsC 5 [0, 0, 0, 0, 0] [2, 5, 6] fun _ => seg [(10, .string (bytS (wrcM (putM (comM (AM.new 2) 0 2) 0 s) at_ ord own nx) 0 8192)), (11, vi 0)] [(0, none), (1, none)] [] trivial fun ac wd hS => ?_
   refine list_nil_seq ?_
   refine wp_region_seq ?_
   refine hS.opsC 3 [0, 0, 100] [2, 5, 6, 10, 11] fun _ => seg [(57, pt b'2 0), (59, vi at_)] [(0, none), (1, none)] [.e (ν1 0)] trivial fun ac wd hS => ?_
   refine hS.call0 51 #[pt b'2 0, vi at_] 60 (chunk_Read_v b'2 F7 (wrcM (putM (comM (AM.new 2) 0 2) 0 s) at_ ord own nx) at_ at_ ord own nx 0 _ (hS.mem.res 0) (by with_reducible assumption)) fun ac wd hS => ?_
   replace hS := hS.fix 60 (.tuple #[.agg #[vi at_, vi ord, vu own, vi nx], vi 0]) (show (.tuple #[.agg #[vi at_, vi ord, vu own, vi nx], vi 0] : Value) = .tuple #[.agg #[vi at_, vi ord, vu own, vi nx], vi 0] from (tuple2 rfl (vint (by first | exact chk_thr hth | rfl))))
   refine hS.opsC 6 [0, 0, 0, 0, 200, 0] [2, 5, 6, 10, 11] fun ν20 => seg [(12, pt (ν20 0) 0), (13, vi 0)] [(0, none), (1, none), (2, some ((ν20 0), .cells [vi at_, vi ord, vu own, vi nx] 70))] [.e (ν20 0), .e (ν20 0), .e (ν20 0), .e (ν20 0)] trivial fun ac wd hS => ?_
   refine list_nil_seq ?_
   refine wp_region_seq ?_
   refine hS.opsC 3 [0, 0, 100] [2, 5, 6, 10, 11, 12, 13] fun _ => seg [(63, pt b'2 0), (65, vi at_)] [(0, none), (1, none), (2, none)] [.e (ν1 0)] trivial fun ac wd hS => ?_
   refine hS.callC 52 #[pt b'2 0, vi at_] (chunk_Wipe b'2 F7 (wrcM (putM (comM (AM.new 2) 0 2) 0 s) at_ ord own nx) at_ _ (hS.mem.res 0) ) ?_
   rintro _ wd ⟨F9, rfl, hA, hF⟩
   refine ⟨vi (chkE (wrcM (putM (comM (AM.new 2) 0 2) 0 s) at_ ord own nx) at_ 32), rfl, ?_⟩
   replace hS := (hS.to (hS.mem.stepA 0 rfl hA hF)).put (d := 66) (v := vi (chkE (wrcM (putM (comM (AM.new 2) 0 2) 0 s) at_ ord own nx) at_ 32)) (by decide)
   clear hF
   replace hS := hS.fix 66 (vi 0) (show (vi (chkE (wrcM (putM (comM (AM.new 2) 0 2) 0 s) at_ ord own nx) at_ 32) : Value) = vi 0 from (vint (by first | exact chk_thr hth | rfl)))
   refine hS.opsC 1 [0] [2, 5, 6, 10, 11, 12, 13] fun _ => seg [(14, vi 0)] [(0, none), (1, none), (2, none)] [] trivial fun ac wd hS => ?_
   refine list_nil_seq ?_
   refine wp_region_seq ?_
   refine hS.opsC 3 [0, 0, 100] [2, 5, 6, 10, 11, 12, 13, 14] fun _ => seg [(68, pt b'2 0), (70, vi at_)] [(0, none), (1, none), (2, none)] [.e (ν1 0)] trivial fun ac wd hS => ?_
   refine hS.call0 21 #[pt b'2 0, vi at_, vi 32] 71 (ar_Bytes_v b'2 F9 (filM (wrcM (putM (comM (AM.new 2) 0 2) 0 s) at_ ord own nx) at_ 32 0) at_ 32 (bs (fun j => (fun _ => 0) (0 + j)) 32) 0 _ (hS.mem.res 0) (by with_reducible assumption)) fun ac wd hS => ?_
   replace hS := hS.fix 71 (.tuple #[.string (bs (fun j => (fun _ => 0) (0 + j)) 32), vi 0]) (show (.tuple #[.string (bs (fun j => (fun _ => 0) (0 + j)) 32), vi 0] : Value) = .tuple #[.string (bs (fun j => (fun _ => 0) (0 + j)) 32), vi 0] from (tuple2 rfl (vint (by first | exact chk_thr hth | rfl))))
   refine hS.opsC 5 [0, 0, 0, 0, 0] [2, 5, 6, 10, 11, 12, 13, 14] fun _ => seg [(15, .string (bs (fun j => (fun _ => 0) (0 + j)) 32)), (16, vi 0)] [(0, none), (1, none), (2, none)] [] trivial fun ac wd hS => ?_
   refine list_nil_seq ?_
   refine wp_region_seq ?_
   refine hS.opsC 3 [0, 0, 100] [2, 6, 10, 11, 12, 13, 14, 15, 16] fun _ => seg [(75, pt b'2 0), (77, vi at_)] [(0, none), (1, none), (2, none)] [.e (ν1 0)] trivial fun ac wd hS => ?_
   refine hS.call0 51 #[pt b'2 0, vi at_] 78 (chunk_Read_v b'2 F9 (filM (wrcM (putM (comM (AM.new 2) 0 2) 0 s) at_ ord own nx) at_ 32 0) at_ (rdAt (filM (wrcM (putM (comM (AM.new 2) 0 2) 0 s) at_ ord own nx) at_ 32 0) at_) (rdOrd (filM (wrcM (putM (comM (AM.new 2) 0 2) 0 s) at_ ord own nx) at_ 32 0) at_) (rdOwn (filM (wrcM (putM (comM (AM.new 2) 0 2) 0 s) at_ ord own nx) at_ 32 0) at_) (rdNx (filM (wrcM (putM (comM (AM.new 2) 0 2) 0 s) at_ ord own nx) at_ 32 0) at_) 7 _ (hS.mem.res 0) (by with_reducible assumption)) fun ac wd hS => ?_
   replace hS := hS.fix 78 (.tuple #[.agg #[vi (rdAt (filM (wrcM (putM (comM (AM.new 2) 0 2) 0 s) at_ ord own nx) at_ 32 0) at_), vi (rdOrd (filM (wrcM (putM (comM (AM.new 2) 0 2) 0 s) at_ ord own nx) at_ 32 0) at_), vu (rdOwn (filM (wrcM (putM (comM (AM.new 2) 0 2) 0 s) at_ ord own nx) at_ 32 0) at_), vi (rdNx (filM (wrcM (putM (comM (AM.new 2) 0 2) 0 s) at_ ord own nx) at_ 32 0) at_)], vi 7]) (show (.tuple #[.agg #[vi (rdAt (filM (wrcM (putM (comM (AM.new 2) 0 2) 0 s) at_ ord own nx) at_ 32 0) at_), vi (rdOrd (filM (wrcM (putM (comM (AM.new 2) 0 2) 0 s) at_ ord own nx) at_ 32 0) at_), vu (rdOwn (filM (wrcM (putM (comM (AM.new 2) 0 2) 0 s) at_ ord own nx) at_ 32 0) at_), vi (rdNx (filM (wrcM (putM (comM (AM.new 2) 0 2) 0 s) at_ ord own nx) at_ 32 0) at_)], vi 7] : Value) = .tuple #[.agg #[vi (rdAt (filM (wrcM (putM (comM (AM.new 2) 0 2) 0 s) at_ ord own nx) at_ 32 0) at_), vi (rdOrd (filM (wrcM (putM (comM (AM.new 2) 0 2) 0 s) at_ ord own nx) at_ 32 0) at_), vu (rdOwn (filM (wrcM (putM (comM (AM.new 2) 0 2) 0 s) at_ ord own nx) at_ 32 0) at_), vi (rdNx (filM (wrcM (putM (comM (AM.new 2) 0 2) 0 s) at_ ord own nx) at_ 32 0) at_)], vi 7] from (tuple2 rfl (vint (by first | exact chk_thr hth | rfl))))
   refine hS.opsC 6 [0, 0, 0, 0, 300, 0] [2, 6, 10, 11, 12, 13, 14, 15, 16] fun ν26 => seg [(18, vi 7)] [(0, none), (1, none), (2, none)] [.e (ν26 0), .e (ν26 0), .e (ν26 0), .e (ν26 0)] trivial fun ac wd hS => ?_
   refine list_nil_seq ?_
   refine St.ordBeginS [(0, 1), (1, 1), (2, 1), (3, 1), (4, 1), (5, 1), (6, 1), (7, 1), (8, 1), (9, 1), (10, 1), (11, 1), (12, 1), (13, 1), (14, 1), (15, 1), (16, 1), (17, 0), (18, 1), (19, 1), (20, 1), (21, 1), (22, 1), (23, 1), (24, 1), (25, 1), (26, 1), (27, 1), (28, 1), (29, 1), (30, 1), (31, 1), (32, 1), (33, 1), (34, 1), (35, 1), (36, 1), (37, 1), (38, 1), (39, 1), (40, 1), (41, 1), (42, 1), (43, 1), (44, 1), (45, 0), (46, 0), (47, 1), (48, 1), (49, 1), (50, 1), (51, 1), (52, 1), (53, 1)] [(1, .fn 0 64 dbT), ((ν1 0), .cells [vi at_, vi ord, vu own, vi nx] 70), ((ν20 0), .cells [vi at_, vi ord, vu own, vi nx] 70)] [0, 1, 2] hS fun wd hS => ?_
   have hap := hS.mem.pairs (Hf := [(1, .fn 0 64 dbT), ((ν1 0), .cells [vi at_, vi ord, vu own, vi nx] 70), ((ν20 0), .cells [vi at_, vi ord, vu own, vi nx] 70)]) (l := [0, 1, 2])
   refine St.ordF [0, 0, 0, 1, 1, 70, 0, 1, 1, 70, 0, 1, 1, 70, 0, 101, 201] [0, 1, 2, 3, 4, 5, 6, 7, 8, 9, 10, 11, 12, 13, 14, 15, 16] [2, 6, 10, 15, 18] (rest := [(17, 0), (18, 1), (19, 1), (20, 1), (21, 1), (22, 1), (23, 1), (24, 1), (25, 1), (26, 1), (27, 1), (28, 1), (29, 1), (30, 1), (31, 1), (32, 1), (33, 1), (34, 1), (35, 1), (36, 1), (37, 1), (38, 1), (39, 1), (40, 1), (41, 1), (42, 1), (43, 1), (44, 1), (45, 0), (46, 0), (47, 1), (48, 1), (49, 1), (50, 1), (51, 1), (52, 1), (53, 1)]) hS hap <| segF [(95, vb true), (96, .agg #[vi at_, vi ord, vu own, vi nx]), (97, .agg #[vi at_, vi ord, vu own, vi nx])] [.t true, .e (ν20 0), .e (ν20 0), .e (ν20 0), .e (ν20 0), .t true, .e (ν1 0), .e (ν1 0), .e (ν1 0), .e (ν1 0), .t true, .t true, .t true, .t true, .t true, .t true, .t true, .t true, .t true] trivial fun ac hS => ?_
   refine Runs1.ordG (i := 17) hS 95 true ?_ (by decide)
   refine St.binS hS .eql (.tmp 96) (.tmp 97) 70 70 rfl rfl (by decide) (xs := #[vi at_, vi ord, vu own, vi nx]) (ys := #[vi at_, vi ord, vu own, vi nx]) (r := vb (eqAll [((at_ : Int), (at_ : Int)), ((ord : Int), (ord : Int)), ((own : Int), (own : Int)), ((nx : Int), (nx : Int))])) (fun w => run_eqS (l := [((at_ : Int), (at_ : Int)), ((ord : Int), (ord : Int)), ((own : Int), (own : Int)), ((nx : Int), (nx : Int))]) w (by as_aux_lemma => kernel_rfl) (by as_aux_lemma => kernel_rfl) (by as_aux_lemma => kernel_rfl)) (by as_aux_lemma => kernel_rfl) fun ac hS => ?_
   replace hS := hS.fix 98 (vb true) (show (vb (eqAll [((at_ : Int), (at_ : Int)), ((ord : Int), (ord : Int)), ((own : Int), (own : Int)), ((nx : Int), (nx : Int))]) : Value) = vb true from vbool (by simp [eqAll]))
   refine hS.ordV (l := [0, 1, 2]) ?_
   refine St.ordF [70, 0, 1, 1, 101, fx 11 (.string (ByteArray.extract (bytS (putM (comM (AM.new 2) 0 2) 0 s) 0 8192) (Int.toNat (0 : Int)) (Int.toNat at_))), 1, 1, 101, 11, fx 1 (vb true), 70, 0, 1, 1, 101, 21, fx 11 (.string (ByteArray.extract (bytS (putM (comM (AM.new 2) 0 2) 0 s) 0 8192) (Int.toNat (at_ + 32)) 8192)), 1, 1, 101, 21, fx 11 (.string (ByteArray.extract (bytS (putM (comM (AM.new 2) 0 2) 0 s) 0 8192) (Int.toNat (at_ + 32)) 8192)), fx 1 (vb true), 70, 0, 1] [18, 19, 20, 21, 22, 23, 24, 25, 26, 27, 28, 29, 30, 31, 32, 33, 34, 35, 36, 37, 38, 39, 40, 41, 42, 43, 44] [18] (rest := [(45, 0), (46, 0), (47, 1), (48, 1), (49, 1), (50, 1), (51, 1), (52, 1), (53, 1)]) hS hap <| segF [(124, vb true), (125, .string (bs (fun j => (fun _ => 0) (0 + j)) 32))] (.t true :: .t true :: .t true :: .p ((vb (ByteArray.toList (ByteArray.extract (bytS (putM (comM (AM.new 2) 0 2) 0 s) 0 8192) (Int.toNat (at_ + 32)) 8192) == ByteArray.toList (ByteArray.extract (bytS (putM (comM (AM.new 2) 0 2) 0 s) 0 8192) (Int.toNat (at_ + 32)) 8192)) : Value) = vb true) :: .t true :: .p ((.string (ByteArray.extract (bytS (putM (comM (AM.new 2) 0 2) 0 s) 0 8192) (Int.toNat (at_ + 32)) (Int.toNat ((ByteArray.size (bytS (putM (comM (AM.new 2) 0 2) 0 s) 0 8192) : Nat) : Int))) : Value) = .string (ByteArray.extract (bytS (putM (comM (AM.new 2) 0 2) 0 s) 0 8192) (Int.toNat (at_ + 32)) 8192)) :: .p (0 ≤ (at_ + 32) ∧ (at_ + 32) ≤ ((ByteArray.size (bytS (putM (comM (AM.new 2) 0 2) 0 s) 0 8192) : Nat) : Int) ∧ ((ByteArray.size (bytS (putM (comM (AM.new 2) 0 2) 0 s) 0 8192) : Nat) : Int) ≤ (ByteArray.size (bytS (putM (comM (AM.new 2) 0 2) 0 s) 0 8192) : Int)) :: .t true :: .p (fit .i64 (at_ + 32)) :: .t true :: .e (ν1 0) :: .t true :: .t true :: .t true :: .p ((.string (ByteArray.extract (bytS (wrcM (putM (comM (AM.new 2) 0 2) 0 s) at_ ord own nx) 0 8192) (Int.toNat (at_ + 32)) (Int.toNat ((ByteArray.size (bytS (wrcM (putM (comM (AM.new 2) 0 2) 0 s) at_ ord own nx) 0 8192) : Nat) : Int))) : Value) = .string (ByteArray.extract (bytS (putM (comM (AM.new 2) 0 2) 0 s) 0 8192) (Int.toNat (at_ + 32)) 8192)) :: .p (0 ≤ (at_ + 32) ∧ (at_ + 32) ≤ ((ByteArray.size (bytS (wrcM (putM (comM (AM.new 2) 0 2) 0 s) at_ ord own nx) 0 8192) : Nat) : Int) ∧ ((ByteArray.size (bytS (wrcM (putM (comM (AM.new 2) 0 2) 0 s) at_ ord own nx) 0 8192) : Nat) : Int) ≤ (ByteArray.size (bytS (wrcM (putM (comM (AM.new 2) 0 2) 0 s) at_ ord own nx) 0 8192) : Int)) :: .t true :: .p (fit .i64 (at_ + 32)) :: .t true :: .e (ν1 0) :: .t true :: .t true :: .t true :: .t true :: .p ((vb (ByteArray.toList (ByteArray.extract (bytS (putM (comM (AM.new 2) 0 2) 0 s) 0 8192) (Int.toNat (0 : Int)) (Int.toNat at_)) == ByteArray.toList (ByteArray.extract (bytS (putM (comM (AM.new 2) 0 2) 0 s) 0 8192) (Int.toNat (0 : Int)) (Int.toNat at_))) : Value) = vb true) :: .t true :: .p (0 ≤ (0 : Int) ∧ (0 : Int) ≤ at_ ∧ at_ ≤ (ByteArray.size (bytS (putM (comM (AM.new 2) 0 2) 0 s) 0 8192) : Int)) :: .t true :: .e (ν1 0) :: .t true :: .t true :: .t true :: .p ((.string (ByteArray.extract (bytS (wrcM (putM (comM (AM.new 2) 0 2) 0 s) at_ ord own nx) 0 8192) (Int.toNat (0 : Int)) (Int.toNat at_)) : Value) = .string (ByteArray.extract (bytS (putM (comM (AM.new 2) 0 2) 0 s) 0 8192) (Int.toNat (0 : Int)) (Int.toNat at_))) :: .p (0 ≤ (0 : Int) ∧ (0 : Int) ≤ at_ ∧ at_ ≤ (ByteArray.size (bytS (wrcM (putM (comM (AM.new 2) 0 2) 0 s) at_ ord own nx) 0 8192) : Int)) :: .t true :: .e (ν1 0) :: .t true :: .t true :: .t true :: []) ⟨(congrArg Value.bool (by simp)), (vstr (by rw [hs2]; rfl)), (by omega), fit_i64 (by omega), (vstr ((show _ = ByteArray.extract (bytS (putM (comM (AM.new 2) 0 2) 0 s) 0 8192) (Int.toNat (at_ + 32)) 8192 by rw [hs1]; exact alone_cut (s := s) hg (by omega) (by omega)))), (by omega), fit_i64 (by omega), (congrArg Value.bool (by simp)), (by omega), (vstr (alone_cut (s := s) hg (by omega) (by omega))), (by omega), trivial⟩ fun ac hS => ?_
   refine St.ord1 45 [91] [18, 124, 125] [0, 1, 2] hS rfl fun ν27 => seg [(126, sc (ν27 0) 0 32 32)] [(0, none), (1, none), (2, none), (3, some ((ν27 0), .row 5 32 32 (bytes (fun _ => 0) 0)))] [.t true, .p ((32 : Int) = 32), .p ((0 : Int) ≤ 32 ∧ (32 : Int) ≤ 2 ^ 32 ∧ 1 ≤ 64)] ⟨rfl, (by omega), trivial⟩ ⟨by as_aux_lemma => kernel_rfl, fun ac wd hS => ?_⟩
   refine Runs1.ordG (i := 46) hS 124 true ?_ (by decide)
   refine St.toStr hS (.tmp 126) 79 9 rfl rfl (by decide) Tryd.underlying79 Tryd.underlying5 Tryd.underlying9 (b := (ν27 0)) (off := 0) (k := 32) (cp := 32) (fun j => (fun _ => 0) (0 + j)) (Cells8.row (hS.mem.get 3 (ν27 0) (.row 5 32 32 (bytes (fun _ => 0) 0))) (by omega)) fun ac hS => ?_
   refine hS.ordV (l := [0, 1, 2]) ?_
   refine St.ordF [fx 1 (vb true), 70, 0, 1, 1, 70, 0] [47, 48, 49, 50, 51, 52, 53] [] (rest := []) hS hap <| segF [(4, vb true)] [.t true, .t true, .t true, .t true, .t true, .p ((vb (ByteArray.toList (bs (fun j => (fun _ => 0) (0 + j)) 32) == ByteArray.toList (bs (fun j => (fun _ => 0) (0 + j)) 32)) : Value) = vb true)] ⟨(congrArg Value.bool (by simp)), trivial⟩ fun ac hS => ?_
   refine ord_nil ?_
   refine wp_ret ?_
   refine St.retC 0 hS (vb true) [] trivial fun hw => ?_
   refine ⟨retd rfl, hw.fr0⟩

end Go.Proofs.YtghohcgbmceiaaaDoor.K
