/-
  Walks, printed by w2.py.
-/
import Derived.Test.YtindbpffbjhfaaaDoorTb
import Derived.Test.YtindbpffbjhfaaaDoorOz
import Derived.Test.YtindbpffbjhfaaaDoorProg
namespace Go.Proofs.YtindbpffbjhfaaaDoor.K
set_option linter.unusedVariables false
set_option linter.unusedSimpArgs false

set_option maxRecDepth 100000 in
set_option maxHeartbeats 1000000 in
theorem law14_ObjectWrites (oa : Int) (os_ : Int) (op : Int) (s : ByteArray) (w : World) (hh0 : HE.holds w 1 (.fn 0 64 dbT)) (hos : (-9223372036854775808 ≤ oa ∧ oa ≤ 9223372036854775807) ∧ os_ ≤ 9223372036854775807 ∧ op ≤ 9223372036854775807) :
    Calls Tryd.prog 6 #[.agg #[vi oa, vi os_, vi op], .string s] w fun e w' => e = .returned (vb true) ∧ Fr w w' no no := by
 refine enter (args := [.agg #[vi oa, vi os_, vi op], .string s]) (D := no) (A := []) Tryd.func6 rfl 132 rfl [(1, .fn 0 64 dbT)] (WS.startL ⟨⟨rfl, hh0⟩, trivial⟩) fun ac hS => ?_
 refine hS.regS [0, 0] [1] fun ν1 => seg [(2, pt (ν1 0) 0)] [(0, none), (1, some ((ν1 0), .cells [vi oa, vi os_, vi op] 58))] [] trivial fun ac wd hS => ?_
 refine wp_seq ?_
 refine wp_region_seq ?_
 refine hS.call0 31 #[] 16 (law14_awake  _ (hS.mem.get 0 1 (.fn 0 64 dbT)) ) fun ac wd hS => ?_
 refine hS.opsC 1 [0] [1, 2] fun _ => seg [(17, vb false)] [(0, none), (1, none)] [] trivial fun ac wd hS => ?_
 refine list_nil_seq ?_
 refine hS.condF ?_
 refine wp_skip ?_
 refine pop_then ?_
 refine wp_seq ?_
 refine hS.regS [0, 0, 0] [1, 2] fun _ => seg [(20, vb (decide ((8192 : Int) < ((ByteArray.size s : Nat) : Int))))] [(0, none), (1, none)] [] trivial fun ac wd hS => ?_
 refine hS.condC (decide ((8192 : Int) < ((ByteArray.size s : Nat) : Int))) (fun hb1o hb1 => ?_) (fun hb1o hb1 => ?_)
 ·
  refine hS.regS [0] [] fun _ => seg [(4, vb true)] [(0, none)] [] trivial fun ac wd hS => ?_
  refine wp_ret ?_
  refine pop_then_ret ?_
  refine St.retC 0 hS (vb true) [] trivial fun hw => ?_
  refine ⟨retd rfl, hw.fr0⟩
 ·
  refine wp_skip ?_
  refine pop_then ?_
  refine wp_region_seq ?_
  refine hS.callC 32 #[vi 4] (ar_New 4 _  ) ?_
  rintro _ wd ⟨b'2, F3, rfl, hN, hF⟩
  refine ⟨pt b'2 0, rfl, ?_⟩
  replace hS := (hS.to (hS.mem.newA hN hF)).put (d := 21) (v := pt b'2 0) (by decide)
  clear hF
  refine hS.opsC 1 [0] [1, 2] fun _ => seg [(5, pt b'2 0)] [(0, none), (1, none)] [] trivial fun ac wd hS => ?_
  refine list_nil_seq ?_
  refine wp_seq ?_
  refine wp_region_seq ?_
  refine hS.opsC 1 [0] [1, 2, 5] fun _ => seg [(22, pt b'2 0)] [(0, none), (1, none)] [] trivial fun ac wd hS => ?_
  refine hS.callC 33 #[pt b'2 0, vi 0, vi 2] (ar_Commit b'2 F3 (AM.new 4) 0 2 _ (hS.mem.res 0) ) ?_
  rintro _ wd ⟨F4, rfl, hA, hF⟩
  refine ⟨vi (comE (AM.new 4) 0 2), rfl, ?_⟩
  replace hS := (hS.to (hS.mem.stepA 0 rfl hA hF)).put (d := 23) (v := vi (comE (AM.new 4) 0 2)) (by decide)
  clear hF
  refine hS.opsC 2 [0, 0] [1, 2, 5] fun _ => seg [(25, vb (((comE (AM.new 4) 0 2) : Int) != 0))] [(0, none), (1, none)] [] trivial fun ac wd hS => ?_
  have hg5o : (((comE (AM.new 4) 0 2) : Int) != 0) = false := by decide +kernel
  replace hS := hS.fix 25 (vb false) (congrArg Value.bool hg5o)
  refine hS.opsC 1 [1] [1, 2, 5, 25] fun _ => seg [(26, pt b'2 0)] [(0, none), (1, none)] [.t false] trivial fun ac wd hS => ?_
  refine hS.callG false 33 #[pt b'2 0, vi 3, vi 1] (ar_Commit b'2 F4 (comM (AM.new 4) 0 2) 3 1 _ (hS.mem.res 0) ) ?_
  rintro _ wd ⟨F6, rfl, hA, hF⟩
  refine ⟨vi (comE (comM (AM.new 4) 0 2) 3 1), rfl, ?_⟩
  replace hS := (hS.to (hS.mem.stepA 0 rfl hA hF)).put (d := 27) (v := vi (comE (comM (AM.new 4) 0 2) 3 1)) (by decide)
  clear hF
  refine hS.opsC 3 [1, 60, 0] [1, 2, 5] fun _ => seg [(30, vb (((comE (comM (AM.new 4) 0 2) 3 1) : Int) != 0))] [(0, none), (1, none)] [.t false, .t false] trivial fun ac wd hS => ?_
  have hg7o : (((comE (comM (AM.new 4) 0 2) 3 1) : Int) != 0) = false := by decide +kernel
  replace hS := hS.fix 30 (vb false) (congrArg Value.bool hg7o)
  refine hS.opsC 2 [1, 1] [2, 5, 30] fun _ => seg [(31, pt b'2 0), (32, .string s)] [(0, none), (1, none)] [.t false, .t false] trivial fun ac wd hS => ?_
  refine hS.callG false 34 #[pt b'2 0, vi 0, .string s] (ar_Put b'2 F6 (comM (comM (AM.new 4) 0 2) 3 1) 0 s _ (hS.mem.res 0) ) ?_
  rintro _ wd ⟨F8, rfl, hA, hF⟩
  refine ⟨vi (chkE (comM (comM (AM.new 4) 0 2) 3 1) 0 (((ByteArray.size s) : Nat) : Int)), rfl, ?_⟩
  replace hS := (hS.to (hS.mem.stepA 0 rfl hA hF)).put (d := 33) (v := vi (chkE (comM (comM (AM.new 4) 0 2) 3 1) 0 (((ByteArray.size s) : Nat) : Int))) (by decide)
  clear hF
  refine hS.opsC 2 [1, 60] [2, 5] fun _ => seg [(35, vb (((chkE (comM (comM (AM.new 4) 0 2) 3 1) 0 (((ByteArray.size s) : Nat) : Int)) : Int) != 0))] [(0, none), (1, none)] [.t false, .t false] trivial fun ac wd hS => ?_
  refine list_nil_seq ?_
  refine hS.condK (((chkE (comM (comM (AM.new 4) 0 2) 3 1) 0 (((ByteArray.size s) : Nat) : Int)) : Int) != 0) false (by rw [chk_thr (thr_sub (a := 0) (n := 8192) (by decide +kernel) (by omega) (by omega) (by omega))]; rfl) ?_
  show Code.wp _ _ _ _ _
  refine wp_skip ?_
  refine pop_then ?_
  obtain ⟨M, M_e⟩ : ∃ q_ : AM, q_ = (putM (comM (comM (AM.new 4) 0 2) 3 1) 0 s) := ⟨_, rfl⟩
  replace hS := hS.to (hS.mem.arTell (b := b'2) (F := F8) (m := (putM (comM (comM (AM.new 4) 0 2) 3 1) 0 s)) (m' := M) 0 M_e.symm)
  have hMc : M.cap = 4 := by rw [M_e]; exact (putM_com _ _ _).1.trans am4_cap
  have hM8 : thr M 0 8192 = true := by rw [M_e]; exact (thr_same (putM_com _ _ _).1 (putM_com _ _ _).2 _ _).trans (by decide +kernel)
  clear M_e
  have hsz := byt_size hM8
  have hsz2 := byt_size ((thr_same (obM_com M oa os_ op).1 (obM_com M oa os_ op).2 0 8192).trans hM8)
  refine wp_region_seq ?_
  refine hS.opsC 1 [0] [2, 5] fun _ => seg [(37, pt b'2 0)] [(0, none), (1, none)] [] trivial fun ac wd hS => ?_
  refine hS.call0 35 #[pt b'2 0, vi 0, vi 8192] 38 (ar_Bytes b'2 F8 M 0 8192 _ (hS.mem.res 0) ) fun ac wd hS => ?_
  refine hS.opsC 5 [0, 0, 0, 0, 0] [2, 5] fun _ => seg [(6, .string (bytS M 0 8192))] [(0, none), (1, none)] [] trivial fun ac wd hS => ?_
  refine list_nil_seq ?_
  refine St.ordBeginS [(0, 1), (2, 1), (1, 0), (3, 0), (4, 1)] [(1, .fn 0 64 dbT), ((ν1 0), .cells [vi oa, vi os_, vi op] 58)] [0, 1] hS fun wd hS => ?_
  have hap := hS.mem.pairs (Hf := [(1, .fn 0 64 dbT), ((ν1 0), .cells [vi oa, vi os_, vi op] 58)]) (l := [0, 1])
  refine St.ordF [0, 100] [0, 2] [2, 5, 6] (rest := [(1, 0), (3, 0), (4, 1)]) hS hap <| segF [(41, pt b'2 0), (43, .agg #[vi oa, vi os_, vi op])] [.e (ν1 0), .e (ν1 0), .e (ν1 0)] trivial fun ac hS => ?_
  refine hS.ordC 1 37 #[pt b'2 0] (l03_Of b'2 F8 M _ (hS.mem.res 0) ) ?_
  rintro _ wd ⟨g29, rfl, hog0, hoh0, hF⟩
  have ho10 : w.heap.size ≤ g29 := Nat.le_trans hS.mem.fr.size hog0
  refine ⟨.agg #[sc g29 0 M.cap M.cap, vi (-1)], rfl, ?_⟩
  replace hS := (hS.to (hS.mem.outs hF [(g29, .fn 0 (0 + M.cap) (strs (pgS M) 0))] ⟨⟨rfl, hoh0, .inr hog0⟩, trivial⟩)).put (d := 42) (v := .agg #[sc g29 0 M.cap M.cap, vi (-1)]) (by decide)
  clear hF
  refine hS.ordV (l := [0, 1]) ?_
  refine hS.ordC 3 36 #[.agg #[sc g29 0 M.cap M.cap, vi (-1)], .agg #[vi oa, vi os_, vi op]] (r14_Write_v g29 0 M.cap M.cap (-1) oa os_ op (pgS M) (obE M oa os_ op) _ (hS.mem.get 2 g29 (.fn 0 (0 + M.cap) (strs (pgS M) 0))) (by omega) (by first | assumption | omega | (simp_all; done) | (simp_all; omega)) (by exact obW_pgS M oa os_ op)) ?_
  rintro _ wd ⟨rfl, hF⟩
  refine ⟨vi (obE M oa os_ op), rfl, ?_⟩
  replace hS := (hS.to (hS.mem.keep0 hF)).put (d := 44) (v := vi (obE M oa os_ op)) (by decide)
  clear hF
  refine hS.ordV (l := [0, 1]) ?_
  refine St.ordF [0] [4] [2, 5, 6] (rest := []) hS hap <| segF [(8, vi (obE M oa os_ op))] [] trivial fun ac hS => ?_
  refine ord_nil ?_
  refine wp_region_seq ?_
  refine hS.opsC 2 [0, 100] [2, 5, 6, 8] fun _ => seg [(45, pt b'2 0), (46, .agg #[vi oa, vi os_, vi op])] [(0, none), (1, none)] [.e (ν1 0), .e (ν1 0), .e (ν1 0)] trivial fun ac wd hS => ?_
  refine hS.callC 38 #[pt b'2 0, .agg #[vi oa, vi os_, vi op]] (obj_Write b'2 F8 M oa os_ op _ (hS.mem.res 0) (by omega)) ?_
  rintro _ wd ⟨F11, rfl, hA, hF⟩
  refine ⟨vi (obE M oa os_ op), rfl, ?_⟩
  replace hS := (hS.to (hS.mem.stepA 0 rfl hA hF)).put (d := 47) (v := vi (obE M oa os_ op)) (by decide)
  clear hF
  refine hS.opsC 1 [0] [2, 5, 6, 8] fun _ => seg [(9, vi (obE M oa os_ op))] [(0, none), (1, none)] [] trivial fun ac wd hS => ?_
  refine list_nil_seq ?_
  refine wp_region_seq ?_
  refine hS.opsC 3 [0, 0, 100] [2, 5, 6, 8, 9] fun _ => seg [(49, pt b'2 0), (51, vi oa)] [(0, none), (1, none)] [.e (ν1 0)] trivial fun ac wd hS => ?_
  refine hS.call0 39 #[pt b'2 0, vi oa] 52 (obj_Read b'2 F11 (obM M oa os_ op) oa _ (hS.mem.res 0) (by first | assumption | omega | (simp_all; done) | (simp_all; omega))) fun ac wd hS => ?_
  refine hS.opsC 6 [0, 0, 0, 0, 200, 0] [2, 5, 6, 8, 9] fun ν17 => seg [(10, pt (ν17 0) 0), (11, vi (orE (obM M oa os_ op) oa))] [(0, none), (1, none), (2, some ((ν17 0), .cells [vi (orA (obM M oa os_ op) oa), vi (orS (obM M oa os_ op) oa), vi (orP (obM M oa os_ op) oa)] 58))] [.e (ν17 0), .e (ν17 0), .e (ν17 0)] trivial fun ac wd hS => ?_
  refine list_nil_seq ?_
  refine wp_seq ?_
  refine hS.regS [0, 0, fx 0 (vb false)] [2, 5, 6, 9, 10, 11] fun _ => seg [(57, vb false)] [(0, none), (1, none), (2, none)] [.p ((vb (((obE M oa os_ op) : Int) != (obE M oa os_ op)) : Value) = vb false)] ⟨(congrArg Value.bool (bne_self_eq_false _)), trivial⟩ fun ac wd hS => ?_
  refine hS.condF ?_
  refine wp_skip ?_
  refine pop_then ?_
  refine wp_region_seq ?_
  refine hS.opsC 1 [0] [2, 6, 9, 10, 11] fun _ => seg [(59, pt b'2 0)] [(0, none), (1, none), (2, none)] [] trivial fun ac wd hS => ?_
  refine hS.call0 35 #[pt b'2 0, vi 0, vi 8192] 60 (ar_Bytes b'2 F11 (obM M oa os_ op) 0 8192 _ (hS.mem.res 0) ) fun ac wd hS => ?_
  refine hS.opsC 5 [0, 0, 0, 0, 0] [2, 6, 9, 10, 11] fun _ => seg [(12, .string (bytS (obM M oa os_ op) 0 8192))] [(0, none), (1, none), (2, none)] [] trivial fun ac wd hS => ?_
  refine list_nil_seq ?_
  refine wp_seq ?_
  refine hS.regS [0, 0] [2, 6, 10, 11, 12] fun _ => seg [(64, vb (((obE M oa os_ op) : Int) != 0))] [(0, none), (1, none), (2, none)] [] trivial fun ac wd hS => ?_
  refine hS.condC (((obE M oa os_ op) : Int) != 0) (fun hb12o hb12 => ?_) (fun hb12o hb12 => ?_)
  ·
   have hE0 : obE M oa os_ op ≠ 0 := hb12
   have hW := ob_same hE0
   have hf1 := ob_fin1 (m := (obM M oa os_ op)) (a := oa)
   obtain ⟨_, hf2⟩ := ob_fin (m := (obM M oa os_ op)) (a := oa)
   have hf3 : (ByteArray.toList (bytS (obM M oa os_ op) 0 8192) == ByteArray.toList (bytS M 0 8192)) = true := by rw [hW]; exact beq_self_eq_true _
   refine wp_region_seq ?_
   refine hS.opsC 12 [0, 0, 0, 0, 3, 3, 3, 103, 3, 3, 80, 0] [10, 11] fun _ => seg [(76, vb ((ByteArray.toList (bytS (obM M oa os_ op) 0 8192) == ByteArray.toList (bytS M 0 8192)) && ((((orE (obM M oa os_ op) oa) : Int) == 2) == (decide ((oa : Int) < 16)))))] [(0, none), (2, none)] [.p ((((ByteArray.toList (bytS (obM M oa os_ op) 0 8192) == ByteArray.toList (bytS M 0 8192)) = true) ∧ True) → AllP [((ν1 0) : Nat) = (ν1 0)])] ⟨(fun ⟨hc0, _⟩ => by replace hc0 := nrm hc0; exact ⟨rfl, trivial⟩), trivial⟩ fun ac wd hS => ?_
   have hg13o : ((ByteArray.toList (bytS (obM M oa os_ op) 0 8192) == ByteArray.toList (bytS M 0 8192)) && ((((orE (obM M oa os_ op) oa) : Int) == 2) == (decide ((oa : Int) < 16)))) = true := by (simp only [hf3, hf1, Bool.true_and, Bool.and_self])
   replace hS := hS.fix 76 (vb true) (congrArg Value.bool hg13o)
   refine hS.opsC 3 [1, 1, 1] [10, 76] fun _ => seg [(79, vb (((orE (obM M oa os_ op) oa) : Int) == 0))] [(0, none), (1, none)] [.t true, .t true, .t true] trivial fun ac wd hS => ?_
   rcases Bool.eq_false_or_eq_true (((orE (obM M oa os_ op) oa) : Int) == 0) with hg14o | hg14o
   ·
    have hg14 := nrm hg14o
    replace hS := hS.fix 79 (vb true) (congrArg Value.bool hg14o)
    refine hS.opsC 6 [2, 2, 2, 71, 70, 0] [] fun _ => seg [(4, vb true)] [(0, none)] [.t true, .t true, .t true, .t true, .t true, .t true] trivial fun ac wd hS => ?_
    refine list_nil_seq ?_
    refine wp_ret ?_
    refine pop_then_ret ?_
    refine St.retC 0 hS (vb true) [] trivial fun hw => ?_
    refine ⟨retd rfl, hw.fr0⟩
   ·
    have hg14 := nrm hg14o
    replace hS := hS.fix 79 (vb false) (congrArg Value.bool hg14o)
    refine hS.opsC 2 [101, 1] [76, 79] fun _ => seg [(80, .agg #[vi (orA (obM M oa os_ op) oa), vi (orS (obM M oa os_ op) oa), vi (orP (obM M oa os_ op) oa)]), (81, .agg #[vi 0, vi 0, vi 0])] [(0, none)] [.t false, .t false, .e (ν17 0), .e (ν17 0), .e (ν17 0)] trivial fun ac wd hS => ?_
    refine Runs1.listG hS 79 false ?_ (by decide)
    refine St.binS hS .eql (.tmp 80) (.tmp 81) 58 58 rfl rfl (by decide) (xs := #[vi (orA (obM M oa os_ op) oa), vi (orS (obM M oa os_ op) oa), vi (orP (obM M oa os_ op) oa)]) (ys := #[vi 0, vi 0, vi 0]) (r := vb (eqAll [(((orA (obM M oa os_ op) oa) : Int), (0 : Int)), (((orS (obM M oa os_ op) oa) : Int), (0 : Int)), (((orP (obM M oa os_ op) oa) : Int), (0 : Int))])) (fun w => run_eqS (l := [(((orA (obM M oa os_ op) oa) : Int), (0 : Int)), (((orS (obM M oa os_ op) oa) : Int), (0 : Int)), (((orP (obM M oa os_ op) oa) : Int), (0 : Int))]) w (by as_aux_lemma => kernel_rfl) (by as_aux_lemma => kernel_rfl) (by as_aux_lemma => kernel_rfl)) (by as_aux_lemma => kernel_rfl) fun ac hS => ?_
    refine hS.opsC 3 [61, 70, 0] [] fun _ => seg [(4, vb (eqAll [(((orA (obM M oa os_ op) oa) : Int), (0 : Int)), (((orS (obM M oa os_ op) oa) : Int), (0 : Int)), (((orP (obM M oa os_ op) oa) : Int), (0 : Int))]))] [(0, none)] [.t true, .t true, .t false] trivial fun ac wd hS => ?_
    refine list_nil_seq ?_
    refine wp_ret ?_
    refine pop_then_ret ?_
    refine St.retC 0 hS (vb (eqAll [(((orA (obM M oa os_ op) oa) : Int), (0 : Int)), (((orS (obM M oa os_ op) oa) : Int), (0 : Int)), (((orP (obM M oa os_ op) oa) : Int), (0 : Int))])) [] trivial fun hw => ?_
    refine ⟨retd (vbool ?_), hw.fr0⟩
    all_goals (first | rfl | (simp; done) | (rcases hf2 with q | ⟨q1, q2, q3⟩; (exfalso; omega); (rw [q1, q2, q3]; rfl)) | (rw [hr1, hr2, hr3, hr4]; simp [eqAll]; done) | (simp [hr1, hr2, hr3, hr4, eqAll]; done))
  ·
   have hE0 : obE M oa os_ op = 0 := hb12
   obtain ⟨hr1, hr2, hr3, hr4⟩ := ob_read hE0 (by omega)
   have hin := ob_in (ob_good hE0).1
   refine wp_skip ?_
   refine pop_then ?_
   refine wp_seq ?_
   refine hS.drawS [0, 100, 0, 0, 3, 3, 103, 23, fx 13 (.string (ByteArray.extract (bytS M 0 8192) (Int.toNat (0 : Int)) (Int.toNat (oa - 16)))), 3, 3, 103, 23, 13, fx 3 (vb false), 3, 3, 3, 103, fx 13 (.string (ByteArray.extract (bytS M 0 8192) (Int.toNat oa) (Int.toNat ((ByteArray.size (bytS M 0 8192) : Nat) : Int)))), 3, 3, 103, 13, fx 3 (vb false), 83, 80] [2, 10, 11] <| seg [(111, vb ((decide ((oa : Int) ≤ 8192)) && false))] [(0, none), (1, none), (2, none)] [.p (((false = false) ∧ ((decide ((oa : Int) ≤ 8192)) = true) ∧ True) → AllP [(vb (!(ByteArray.toList (ByteArray.extract (bytS M 0 8192) (Int.toNat oa) (Int.toNat ((ByteArray.size (bytS M 0 8192) : Nat) : Int))) == ByteArray.toList (ByteArray.extract (bytS M 0 8192) (Int.toNat oa) (Int.toNat ((ByteArray.size (bytS M 0 8192) : Nat) : Int))))) : Value) = vb false]), .p (((false = false) ∧ ((decide ((oa : Int) ≤ 8192)) = true) ∧ True) → AllP [0 ≤ oa ∧ oa ≤ ((ByteArray.size (bytS M 0 8192) : Nat) : Int) ∧ ((ByteArray.size (bytS M 0 8192) : Nat) : Int) ≤ (ByteArray.size (bytS M 0 8192) : Int)]), .p (((false = false) ∧ ((decide ((oa : Int) ≤ 8192)) = true) ∧ True) → AllP [((ν1 0) : Nat) = (ν1 0)]), .p (((false = false) ∧ ((decide ((oa : Int) ≤ 8192)) = true) ∧ True) → AllP [(.string (ByteArray.extract (bytS (obM M oa os_ op) 0 8192) (Int.toNat oa) (Int.toNat ((ByteArray.size (bytS (obM M oa os_ op) 0 8192) : Nat) : Int))) : Value) = .string (ByteArray.extract (bytS M 0 8192) (Int.toNat oa) (Int.toNat ((ByteArray.size (bytS M 0 8192) : Nat) : Int))), 0 ≤ oa ∧ oa ≤ ((ByteArray.size (bytS (obM M oa os_ op) 0 8192) : Nat) : Int) ∧ ((ByteArray.size (bytS (obM M oa os_ op) 0 8192) : Nat) : Int) ≤ (ByteArray.size (bytS (obM M oa os_ op) 0 8192) : Int)]), .p (((false = false) ∧ ((decide ((oa : Int) ≤ 8192)) = true) ∧ True) → AllP [((ν1 0) : Nat) = (ν1 0)]), .p ((((decide ((oa : Int) ≤ 8192)) = true) ∧ True) → AllP [(vb (!(ByteArray.toList (ByteArray.extract (bytS M 0 8192) (Int.toNat (0 : Int)) (Int.toNat (oa - 16))) == ByteArray.toList (ByteArray.extract (bytS M 0 8192) (Int.toNat (0 : Int)) (Int.toNat (oa - 16))))) : Value) = vb false]), .p ((((decide ((oa : Int) ≤ 8192)) = true) ∧ True) → AllP [0 ≤ (0 : Int) ∧ (0 : Int) ≤ (oa - 16) ∧ (oa - 16) ≤ (ByteArray.size (bytS M 0 8192) : Int)]), .p ((((decide ((oa : Int) ≤ 8192)) = true) ∧ True) → AllP [fit .i64 (oa - 16)]), .p ((((decide ((oa : Int) ≤ 8192)) = true) ∧ True) → AllP [((ν1 0) : Nat) = (ν1 0)]), .p ((((decide ((oa : Int) ≤ 8192)) = true) ∧ True) → AllP [(.string (ByteArray.extract (bytS (obM M oa os_ op) 0 8192) (Int.toNat (0 : Int)) (Int.toNat (oa - 16))) : Value) = .string (ByteArray.extract (bytS M 0 8192) (Int.toNat (0 : Int)) (Int.toNat (oa - 16))), 0 ≤ (0 : Int) ∧ (0 : Int) ≤ (oa - 16) ∧ (oa - 16) ≤ (ByteArray.size (bytS (obM M oa os_ op) 0 8192) : Int)]), .p ((((decide ((oa : Int) ≤ 8192)) = true) ∧ True) → AllP [fit .i64 (oa - 16)]), .p ((((decide ((oa : Int) ≤ 8192)) = true) ∧ True) → AllP [((ν1 0) : Nat) = (ν1 0)]), .e (ν1 0)] ⟨(fun ⟨hc0, hc1, _⟩ => by replace hc0 := nrm hc0; replace hc1 := nrm hc1; exact ⟨(congrArg Value.bool (by simp)), trivial⟩), (fun ⟨hc0, hc1, _⟩ => by replace hc0 := nrm hc0; replace hc1 := nrm hc1; exact ⟨(by omega), trivial⟩), (fun ⟨hc0, hc1, _⟩ => by replace hc0 := nrm hc0; replace hc1 := nrm hc1; exact ⟨rfl, trivial⟩), (fun ⟨hc0, hc1, _⟩ => by replace hc0 := nrm hc0; replace hc1 := nrm hc1; exact ⟨(vstr (by rw [show ByteArray.size (bytS (obM M oa os_ op) 0 8192) = ByteArray.size (bytS M 0 8192) from hsz2.trans hsz.symm]; exact ob_cut hE0 hM8 (by omega) (by omega))), (by omega), trivial⟩), (fun ⟨hc0, hc1, _⟩ => by replace hc0 := nrm hc0; replace hc1 := nrm hc1; exact ⟨rfl, trivial⟩), (fun ⟨hc0, _⟩ => by replace hc0 := nrm hc0; exact ⟨(congrArg Value.bool (by simp)), trivial⟩), (fun ⟨hc0, _⟩ => by replace hc0 := nrm hc0; exact ⟨(by omega), trivial⟩), (fun ⟨hc0, _⟩ => by replace hc0 := nrm hc0; exact ⟨fit_i64 (by omega), trivial⟩), (fun ⟨hc0, _⟩ => by replace hc0 := nrm hc0; exact ⟨rfl, trivial⟩), (fun ⟨hc0, _⟩ => by replace hc0 := nrm hc0; exact ⟨(vstr (ob_cut hE0 hM8 (by omega) (by omega))), (by omega), trivial⟩), (fun ⟨hc0, _⟩ => by replace hc0 := nrm hc0; exact ⟨fit_i64 (by omega), trivial⟩), (fun ⟨hc0, _⟩ => by replace hc0 := nrm hc0; exact ⟨rfl, trivial⟩), trivial⟩ fun ac wd hS => ?_
   refine hS.condK ((decide ((oa : Int) ≤ 8192)) && false) false (by exact Bool.and_false _) ?_
   show Code.wp _ _ _ _ _
   refine wp_skip ?_
   refine pop_then ?_
   refine wp_region_seq ?_
   refine hS.call0 39 #[pnil, vi 0] 113 (obj_Read_nil 0 _  ) fun ac wd hS => ?_
   refine hS.opsC 6 [0, 0, 0, 0, 300, 0] [2, 10, 11] fun ν28 => seg [(15, vi 1)] [(0, none), (1, none), (2, none)] [.e (ν28 0), .e (ν28 0), .e (ν28 0)] trivial fun ac wd hS => ?_
   refine list_nil_seq ?_
   refine wp_region_seq ?_
   refine hS.opsC 3 [0, 0, 0] [2, 10, 15] fun _ => seg [(118, vb (((orE (obM M oa os_ op) oa) : Int) == 0))] [(0, none), (1, none), (2, none)] [] trivial fun ac wd hS => ?_
   have hg15o : (((orE (obM M oa os_ op) oa) : Int) == 0) = true := by (rw [hr1]; rfl)
   replace hS := hS.fix 118 (vb true) (congrArg Value.bool hg15o)
   refine hS.opsC 2 [201, 101] [2, 15, 118] fun _ => seg [(119, .agg #[vi (orA (obM M oa os_ op) oa), vi (orS (obM M oa os_ op) oa), vi (orP (obM M oa os_ op) oa)]), (120, .agg #[vi oa, vi os_, vi op])] [(0, none), (1, none)] [.t true, .e (ν1 0), .e (ν1 0), .e (ν1 0), .t true, .e (ν17 0), .e (ν17 0), .e (ν17 0)] trivial fun ac wd hS => ?_
   refine Runs1.listG hS 118 true ?_ (by decide)
   refine St.binS hS .eql (.tmp 119) (.tmp 120) 58 58 rfl rfl (by decide) (xs := #[vi (orA (obM M oa os_ op) oa), vi (orS (obM M oa os_ op) oa), vi (orP (obM M oa os_ op) oa)]) (ys := #[vi oa, vi os_, vi op]) (r := vb (eqAll [(((orA (obM M oa os_ op) oa) : Int), (oa : Int)), (((orS (obM M oa os_ op) oa) : Int), (os_ : Int)), (((orP (obM M oa os_ op) oa) : Int), (op : Int))])) (fun w => run_eqS (l := [(((orA (obM M oa os_ op) oa) : Int), (oa : Int)), (((orS (obM M oa os_ op) oa) : Int), (os_ : Int)), (((orP (obM M oa os_ op) oa) : Int), (op : Int))]) w (by as_aux_lemma => kernel_rfl) (by as_aux_lemma => kernel_rfl) (by as_aux_lemma => kernel_rfl)) (by as_aux_lemma => kernel_rfl) fun ac hS => ?_
   refine hS.opsC 6 [70, 0, 3, 3, 80, 0] [2] fun _ => seg [(127, vb ((eqAll [(((orA (obM M oa os_ op) oa) : Int), (oa : Int)), (((orS (obM M oa os_ op) oa) : Int), (os_ : Int)), (((orP (obM M oa os_ op) oa) : Int), (op : Int))]) && true))] [(0, none), (1, none)] [.t true] trivial fun ac wd hS => ?_
   have hg16o : ((eqAll [(((orA (obM M oa os_ op) oa) : Int), (oa : Int)), (((orS (obM M oa os_ op) oa) : Int), (os_ : Int)), (((orP (obM M oa os_ op) oa) : Int), (op : Int))]) && true) = true := by (rw [hr2, hr3, hr4]; simp [eqAll])
   replace hS := hS.fix 127 (vb true) (congrArg Value.bool hg16o)
   refine hS.opsC 1 [101] [127] fun _ => seg [(128, .agg #[vi oa, vi os_, vi op])] [(0, none)] [.t true, .e (ν1 0), .e (ν1 0), .e (ν1 0)] trivial fun ac wd hS => ?_
   refine hS.callG true 38 #[pnil, .agg #[vi oa, vi os_, vi op]] (obj_Write_nil oa os_ op _  ) ?_
   rintro _ wd ⟨rfl, hF⟩
   refine ⟨vi 1, rfl, ?_⟩
   replace hS := (hS.to (hS.mem.keep0 hF)).put (d := 129) (v := vi 1) (by decide)
   clear hF
   refine hS.opsC 3 [1, 70, 0] [] fun _ => seg [(4, vb true)] [(0, none)] [.t true, .t true] trivial fun ac wd hS => ?_
   refine list_nil_seq ?_
   refine wp_ret ?_
   refine St.retC 0 hS (vb true) [] trivial fun hw => ?_
   refine ⟨retd rfl, hw.fr0⟩

end Go.Proofs.YtindbpffbjhfaaaDoor.K
