/-
  Walks, printed by w2.py.
-/
import Derived.Test.YtghohcgbmceiaaaDoorM4
import Derived.Test.YtghohcgbmceiaaaDoorProg
namespace Go.Proofs.YtghohcgbmceiaaaDoor.K
set_option linter.unusedVariables false
set_option linter.unusedSimpArgs false

set_option maxRecDepth 100000 in
set_option maxHeartbeats 1000000 in
theorem law05_FieldOf_yes (g : Nat) (o : Nat) (c : Nat) (l : List Int) (i : Int) (w : World) (hh0 : HE.holds w 1 (.fn 0 64 dbT)) (hh1 : HE.holds w g (.fn o (o + l.length) (ints l o))) (hW : okW l) :
    Calls Tryd.prog 5 #[sc g o l.length c, vi i] w fun e w' => e = .returned (vb true) ∧ Fr w w' no no := by
 have hk := okW_chk.2 hW
 refine enter (args := [sc g o l.length c, vi i]) (D := no) (A := []) Tryd.func5 rfl 63 rfl [(1, .fn 0 64 dbT), (g, .fn o (o + l.length) (ints l o))] (WS.startL ⟨⟨rfl, hh0⟩, ⟨rfl, hh1⟩, trivial⟩) fun ac hS => ?_
 refine hS.regS [0] [0, 1] fun _ => seg [] [(0, none), (1, none)] [] trivial fun ac wd hS => ?_
 refine wp_seq ?_
 refine wp_region_seq ?_
 refine hS.call0 30 #[] 8 (law05_awake  _ (hS.mem.get 0 1 (.fn 0 64 dbT)) ) fun ac wd hS => ?_
 refine hS.opsC 1 [0] [0, 1] fun _ => seg [(9, vb false)] [(0, none), (1, none)] [] trivial fun ac wd hS => ?_
 refine list_nil_seq ?_
 refine hS.condF ?_
 refine wp_skip ?_
 refine pop_then ?_
 refine wp_seq ?_
 refine hS.regS [0, 0, 0] [0, 1] fun _ => seg [(12, vb (decide ((40 : Int) < ((l.length : Nat) : Int))))] [(0, none), (1, none)] [] trivial fun ac wd hS => ?_
 refine hS.condC (decide ((40 : Int) < ((l.length : Nat) : Int))) (fun hb1o hb1 => ?_) (fun hb1o hb1 => ?_)
 ·
  refine hS.regS [0] [] fun _ => seg [(4, vb true)] [(0, none)] [] trivial fun ac wd hS => ?_
  refine wp_ret ?_
  refine pop_then_ret ?_
  refine St.retC 0 hS (vb true) [] trivial fun hw => ?_
  refine ⟨retd rfl, hw.fr0⟩
 ·
  refine wp_skip ?_
  refine pop_then ?_
  refine wp_region_seq ?_
  refine hS.opsC 1 [0] [0, 1] fun _ => seg [(14, sc g o l.length c)] [(0, none), (1, none)] [] trivial fun ac wd hS => ?_
  refine hS.callC 31 #[sc g o l.length c] (field_Of g o c l _ (hS.mem.get 1 g (.fn o (o + l.length) (ints l o))) (by first | assumption | omega | (simp_all; done) | (simp_all; omega))) ?_
  rintro _ wd ⟨g22, c23, rfl, hc24, hog0, hoh0, hF⟩
  have ho5 : w.heap.size ≤ g22 := Nat.le_trans hS.mem.fr.size hog0
  refine ⟨.tuple #[.agg #[sc g22 0 l.length c23], vi 0], rfl, ?_⟩
  replace hS := (hS.to (hS.mem.outs hF [(g22, .fn 0 (0 + l.length) (ints l 0))] ⟨⟨rfl, hoh0, .inr hog0⟩, trivial⟩)).put (d := 15) (v := .tuple #[.agg #[sc g22 0 l.length c23], vi 0]) (by decide)
  clear hF
  refine hS.opsC 6 [0, 0, 0, 0, 300, 0] [0, 1] fun ν6 => seg [(5, pt (ν6 0) 0), (6, vi 0)] [(0, none), (1, none), (2, none), (3, some ((ν6 0), .cells [sc g22 0 l.length c23] 46))] [.e (ν6 0)] trivial fun ac wd hS => ?_
  refine list_nil_seq ?_
  refine wp_seq ?_
  refine wp_region_seq ?_
  refine hS.opsC 1 [0] [0, 1, 5, 6] fun _ => seg [(18, sc g o l.length c)] [(0, none), (1, none), (2, none), (3, none)] [] trivial fun ac wd hS => ?_
  refine hS.call0 32 #[sc g o l.length c] 19 (ref05_Check g o c l _ (hS.mem.get 1 g (.fn o (o + l.length) (ints l o))) ) fun ac wd hS => ?_
  refine hS.opsC 1 [0] [0, 1, 5, 6] fun _ => seg [(7, vi (chkW l))] [(0, none), (1, none), (2, none), (3, none)] [] trivial fun ac wd hS => ?_
  refine list_nil_seq ?_
  refine hS.regS [0, 0, 0, 0, 3, 3, 80] [0, 1, 5, 6, 7] fun _ => seg [(26, vb (((0 : Int) != (chkW l)) || (((chkW l) : Int) != 0)))] [(0, none), (1, none), (2, none), (3, none)] [] trivial fun ac wd hS => ?_
  refine hS.condK (((0 : Int) != (chkW l)) || (((chkW l) : Int) != 0)) false (by rw [hk]; rfl) ?_
  show Code.wp _ _ _ _ _
  refine wp_skip ?_
  refine pop_then ?_
  refine wp_region_seq ?_
  refine hS.opsC 1 [300] [0, 1, 5] fun _ => seg [(42, .agg #[sc g22 0 l.length c23])] [(0, none), (1, none), (2, none), (3, none)] [.e (ν6 0)] trivial fun ac wd hS => ?_
  refine hS.call0 33 #[.agg #[sc g22 0 l.length c23]] 43 (rec_Len g22 0 c23 l _  ) fun ac wd hS => ?_
  refine hS.opsC 4 [0, 0, fx 0 (vb true), 0] [0, 1, 5] fun _ => seg [(47, vb true)] [(0, none), (1, none), (2, none), (3, none)] [.p ((vb ((((l.length : Nat) : Int) : Int) == ((l.length : Nat) : Int)) : Value) = vb true)] ⟨(congrArg Value.bool (beq_self_eq_true _)), trivial⟩ fun ac wd hS => ?_
  refine hS.opsC 1 [301] [0, 1, 5, 47] fun _ => seg [(48, .agg #[sc g22 0 l.length c23])] [(0, none), (1, none), (2, none), (3, none)] [.t true, .e (ν6 0)] trivial fun ac wd hS => ?_
  refine hS.callG true 34 #[.agg #[sc g22 0 l.length c23]] (rec_Size g22 0 c23 l _ (hS.mem.get 2 g22 (.fn 0 (0 + l.length) (ints l 0))) (by first | assumption | omega | (simp_all; done) | (simp_all; omega)) (by first | assumption | omega | (simp_all; done) | (simp_all; omega))) ?_
  rintro _ wd ⟨rfl, hF⟩
  refine ⟨vi (sumT l l.length), rfl, ?_⟩
  replace hS := (hS.to (hS.mem.keep0 hF)).put (d := 49) (v := vi (sumT l l.length)) (by decide)
  clear hF
  refine hS.opsC 1 [1] [0, 1, 5, 47, 49] fun _ => seg [(50, sc g o l.length c)] [(0, none), (1, none), (2, none), (3, none)] [.t true] trivial fun ac wd hS => ?_
  refine hS.callG true 36 #[sc g o l.length c] (ref05_Size g o c l _ (hS.mem.get 1 g (.fn o (o + l.length) (ints l o))) (by first | assumption | omega | (simp_all; done) | (simp_all; omega))) ?_
  rintro _ wd ⟨rfl, hF⟩
  refine ⟨vi (sumT l l.length), rfl, ?_⟩
  replace hS := (hS.to (hS.mem.keep0 hF)).put (d := 51) (v := vi (sumT l l.length)) (by decide)
  clear hF
  refine hS.opsC 3 [fx 1 (vb true), 70, 0] [0, 1, 5] fun _ => seg [(54, vb true)] [(0, none), (1, none), (2, none), (3, none)] [.t true, .t true, .p ((vb (((sumT l l.length) : Int) == (sumT l l.length)) : Value) = vb true)] ⟨(congrArg Value.bool (beq_self_eq_true _)), trivial⟩ fun ac wd hS => ?_
  refine hS.opsC 2 [301, 1] [0, 1, 54] fun _ => seg [(55, .agg #[sc g22 0 l.length c23]), (56, vi i)] [(0, none), (1, none), (2, none)] [.t true, .t true, .e (ν6 0)] trivial fun ac wd hS => ?_
  refine hS.callG true 35 #[.agg #[sc g22 0 l.length c23], vi i] (rec_At g22 0 c23 l i _ (hS.mem.get 2 g22 (.fn 0 (0 + l.length) (ints l 0))) (by first | assumption | omega | (simp_all; done) | (simp_all; omega)) (by first | assumption | omega | (simp_all; done) | (simp_all; omega))) ?_
  rintro _ wd ⟨rfl, hF⟩
  refine ⟨vi (atW l i), rfl, ?_⟩
  replace hS := (hS.to (hS.mem.keep0 hF)).put (d := 57) (v := vi (atW l i)) (by decide)
  clear hF
  refine hS.opsC 2 [1, 1] [54, 57] fun _ => seg [(58, sc g o l.length c), (59, vi i)] [(0, none), (1, none)] [.t true, .t true] trivial fun ac wd hS => ?_
  refine hS.callG true 37 #[sc g o l.length c, vi i] (ref05_At g o c l i _ (hS.mem.get 1 g (.fn o (o + l.length) (ints l o))) (by first | assumption | omega | (simp_all; done) | (simp_all; omega))) ?_
  rintro _ wd ⟨rfl, hF⟩
  refine ⟨vi (atW l i), rfl, ?_⟩
  replace hS := (hS.to (hS.mem.keep0 hF)).put (d := 60) (v := vi (atW l i)) (by decide)
  clear hF
  refine hS.opsC 3 [fx 1 (vb true), 70, 0] [] fun _ => seg [(4, vb true)] [(0, none)] [.t true, .t true, .p ((vb (((atW l i) : Int) == (atW l i)) : Value) = vb true)] ⟨(congrArg Value.bool (beq_self_eq_true _)), trivial⟩ fun ac wd hS => ?_
  refine list_nil_seq ?_
  refine wp_ret ?_
  refine St.retC 0 hS (vb true) [] trivial fun hw => ?_
  refine ⟨retd rfl, hw.fr0⟩

set_option maxRecDepth 100000 in
set_option maxHeartbeats 1000000 in
theorem law05_FieldOf_no (g : Nat) (o : Nat) (c : Nat) (l : List Int) (i : Int) (w : World) (hh0 : HE.holds w 1 (.fn 0 64 dbT)) (hh1 : HE.holds w g (.fn o (o + l.length) (ints l o))) (hN : chkW l ≠ 0) :
    Calls Tryd.prog 5 #[sc g o l.length c, vi i] w fun e w' => e = .returned (vb true) ∧ Fr w w' no no := by
 refine enter (args := [sc g o l.length c, vi i]) (D := no) (A := []) Tryd.func5 rfl 63 rfl [(1, .fn 0 64 dbT), (g, .fn o (o + l.length) (ints l o))] (WS.startL ⟨⟨rfl, hh0⟩, ⟨rfl, hh1⟩, trivial⟩) fun ac hS => ?_
 refine hS.regS [0] [0, 1] fun _ => seg [] [(0, none), (1, none)] [] trivial fun ac wd hS => ?_
 refine wp_seq ?_
 refine wp_region_seq ?_
 refine hS.call0 30 #[] 8 (law05_awake  _ (hS.mem.get 0 1 (.fn 0 64 dbT)) ) fun ac wd hS => ?_
 refine hS.opsC 1 [0] [0, 1] fun _ => seg [(9, vb false)] [(0, none), (1, none)] [] trivial fun ac wd hS => ?_
 refine list_nil_seq ?_
 refine hS.condF ?_
 refine wp_skip ?_
 refine pop_then ?_
 refine wp_seq ?_
 refine hS.regS [0, 0, 0] [0, 1] fun _ => seg [(12, vb (decide ((40 : Int) < ((l.length : Nat) : Int))))] [(0, none), (1, none)] [] trivial fun ac wd hS => ?_
 refine hS.condC (decide ((40 : Int) < ((l.length : Nat) : Int))) (fun hb1o hb1 => ?_) (fun hb1o hb1 => ?_)
 ·
  refine hS.regS [0] [] fun _ => seg [(4, vb true)] [(0, none)] [] trivial fun ac wd hS => ?_
  refine wp_ret ?_
  refine pop_then_ret ?_
  refine St.retC 0 hS (vb true) [] trivial fun hw => ?_
  refine ⟨retd rfl, hw.fr0⟩
 ·
  refine wp_skip ?_
  refine pop_then ?_
  refine wp_region_seq ?_
  refine hS.opsC 1 [0] [0, 1] fun _ => seg [(14, sc g o l.length c)] [(0, none), (1, none)] [] trivial fun ac wd hS => ?_
  refine hS.call0 31 #[sc g o l.length c] 15 (field_Of_no g o c l _ (hS.mem.get 1 g (.fn o (o + l.length) (ints l o))) (by first | assumption | omega | (simp_all; done) | (simp_all; omega))) fun ac wd hS => ?_
  refine hS.opsC 6 [0, 0, 0, 0, 200, 0] [0, 1] fun ν6 => seg [(5, pt (ν6 0) 0), (6, vi (chkW l))] [(0, none), (1, none), (2, some ((ν6 0), .cells [vnil] 46))] [.e (ν6 0)] trivial fun ac wd hS => ?_
  refine list_nil_seq ?_
  refine wp_seq ?_
  refine wp_region_seq ?_
  refine hS.opsC 1 [0] [0, 1, 5, 6] fun _ => seg [(18, sc g o l.length c)] [(0, none), (1, none), (2, none)] [] trivial fun ac wd hS => ?_
  refine hS.call0 32 #[sc g o l.length c] 19 (ref05_Check g o c l _ (hS.mem.get 1 g (.fn o (o + l.length) (ints l o))) ) fun ac wd hS => ?_
  refine hS.opsC 1 [0] [0, 1, 5, 6] fun _ => seg [(7, vi (chkW l))] [(0, none), (1, none), (2, none)] [] trivial fun ac wd hS => ?_
  refine list_nil_seq ?_
  refine hS.regS [0, 0, fx 0 (vb false), 0, 1, 1, 60] [0, 1, 5, 6, 7] fun _ => seg [(26, vb (((chkW l) : Int) != 0))] [(0, none), (1, none), (2, none)] [.t false, .t false, .t false, .p ((vb (((chkW l) : Int) != (chkW l)) : Value) = vb false)] ⟨(congrArg Value.bool (bne_self_eq_false _)), trivial⟩ fun ac wd hS => ?_
  refine hS.condK (((chkW l) : Int) != 0) true (by simp [hN]) ?_
  show Code.wp _ _ _ _ _
  refine St.ordBeginS [(0, 1), (1, 1), (2, 1), (3, 1), (4, 1), (6, 1), (9, 1), (10, 1), (5, 0), (7, 0), (8, 1), (11, 0), (12, 1), (13, 1), (14, 1), (15, 1)] [(1, .fn 0 64 dbT), (g, .fn o (o + l.length) (ints l o)), ((ν6 0), .cells [vnil] 46)] [0, 1, 2] hS fun wd hS => ?_
  have hap := hS.mem.pairs (Hf := [(1, .fn 0 64 dbT), (g, .fn o (o + l.length) (ints l o)), ((ν6 0), .cells [vnil] 46)]) (l := [0, 1, 2])
  refine St.ordF [0, 0, fx 0 (vb true), 0, 201, 201, 201, 1] [0, 1, 2, 3, 4, 6, 9, 10] [] (rest := [(5, 0), (7, 0), (8, 1), (11, 0), (12, 1), (13, 1), (14, 1), (15, 1)]) hS hap <| segF [(30, vb true), (31, .agg #[vnil]), (33, .agg #[vnil]), (36, .agg #[vnil]), (37, vi i)] [.t true, .t true, .e (ν6 0), .t true, .e (ν6 0), .t true, .e (ν6 0), .p ((vb (((chkW l) : Int) == (chkW l)) : Value) = vb true)] ⟨(congrArg Value.bool (beq_self_eq_true _)), trivial⟩ fun ac hS => ?_
  refine hS.ordCG 5 true 33 #[.agg #[vnil]] (rec_Len_nil  _  ) ?_
  rintro _ wd ⟨rfl, hF⟩
  refine ⟨vi 0, rfl, ?_⟩
  replace hS := (hS.to (hS.mem.keep0 hF)).put (d := 32) (v := vi 0) (by decide)
  clear hF
  refine hS.ordV (l := [0, 1, 2]) ?_
  refine hS.ordCG 7 true 34 #[.agg #[vnil]] (rec_Size_nil  _  ) ?_
  rintro _ wd ⟨rfl, hF⟩
  refine ⟨vi 0, rfl, ?_⟩
  replace hS := (hS.to (hS.mem.keep0 hF)).put (d := 34) (v := vi 0) (by decide)
  clear hF
  refine hS.ordV (l := [0, 1, 2]) ?_
  refine St.ordF [1] [8] [30, 36, 37] (rest := [(11, 0), (12, 1), (13, 1), (14, 1), (15, 1)]) hS hap <| segF [(35, vi 0)] [.t true] trivial fun ac hS => ?_
  refine hS.ordCG 11 true 35 #[.agg #[vnil], vi i] (rec_At_nil i _  ) ?_
  rintro _ wd ⟨rfl, hF⟩
  refine ⟨vi 0, rfl, ?_⟩
  replace hS := (hS.to (hS.mem.keep0 hF)).put (d := 38) (v := vi 0) (by decide)
  clear hF
  refine hS.ordV (l := [0, 1, 2]) ?_
  refine St.ordF [1, 1, 70, 0] [12, 13, 14, 15] [] (rest := []) hS hap <| segF [(4, vb true)] [.t true, .t true, .t true] trivial fun ac hS => ?_
  refine ord_nil ?_
  refine wp_ret ?_
  refine pop_then_ret ?_
  refine St.retC 0 hS (vb true) [] trivial fun hw => ?_
  refine ⟨retd rfl, hw.fr0⟩

theorem law05_FieldOf (g : Nat) (o : Nat) (c : Nat) (l : List Int) (i : Int) (w : World) (hh0 : HE.holds w 1 (.fn 0 64 dbT)) (hh1 : HE.holds w g (.fn o (o + l.length) (ints l o))) :
    Calls Tryd.prog 5 #[sc g o l.length c, vi i] w fun e w' => e = .returned (vb true) ∧ Fr w w' no no := by
 by_cases hN : chkW l = 0
 · exact law05_FieldOf_yes g o c l i w hh0 hh1 (okW_chk.1 hN)
 · exact law05_FieldOf_no g o c l i w hh0 hh1 hN

set_option maxRecDepth 100000 in
set_option maxHeartbeats 1000000 in
theorem law05_FieldOf_nil (ao : Option Addr) (c : Nat) (i : Int) (w : World) (hh0 : HE.holds w 1 (.fn 0 64 dbT)) :
    Calls Tryd.prog 5 #[.slice ao 0 c, vi i] w fun e w' => e = .returned (vb true) ∧ Fr w w' no no := by
 refine enter (args := [.slice ao 0 c, vi i]) (D := no) (A := []) Tryd.func5 rfl 63 rfl [(1, .fn 0 64 dbT)] (WS.startL ⟨⟨rfl, hh0⟩, trivial⟩) fun ac hS => ?_
 refine hS.regS [0] [0, 1] fun _ => seg [] [(0, none)] [] trivial fun ac wd hS => ?_
 refine wp_seq ?_
 refine wp_region_seq ?_
 refine hS.call0 30 #[] 8 (law05_awake  _ (hS.mem.get 0 1 (.fn 0 64 dbT)) ) fun ac wd hS => ?_
 refine hS.opsC 1 [0] [0, 1] fun _ => seg [(9, vb false)] [(0, none)] [] trivial fun ac wd hS => ?_
 refine list_nil_seq ?_
 refine hS.condF ?_
 refine wp_skip ?_
 refine pop_then ?_
 refine wp_seq ?_
 refine hS.regS [0, 0, 0] [0, 1] fun _ => seg [(12, vb false)] [(0, none)] [] trivial fun ac wd hS => ?_
 refine hS.condF ?_
 refine wp_skip ?_
 refine pop_then ?_
 refine wp_region_seq ?_
 refine hS.opsC 1 [0] [0, 1] fun _ => seg [(14, .slice ao 0 c)] [(0, none)] [] trivial fun ac wd hS => ?_
 refine hS.call0 31 #[.slice ao 0 c] 15 (field_Of_nil ao c _  ) fun ac wd hS => ?_
 refine hS.opsC 6 [0, 0, 0, 0, 100, 0] [0, 1] fun ν5 => seg [(5, pt (ν5 0) 0), (6, vi 17)] [(0, none), (1, some ((ν5 0), .cells [vnil] 46))] [.e (ν5 0)] trivial fun ac wd hS => ?_
 refine list_nil_seq ?_
 refine wp_seq ?_
 refine wp_region_seq ?_
 refine hS.opsC 1 [0] [0, 1, 5, 6] fun _ => seg [(18, .slice ao 0 c)] [(0, none), (1, none)] [] trivial fun ac wd hS => ?_
 refine hS.call0 32 #[.slice ao 0 c] 19 (ref05_Check_nil ao c _  ) fun ac wd hS => ?_
 refine hS.opsC 1 [0] [0, 1, 5, 6] fun _ => seg [(7, vi 17)] [(0, none), (1, none)] [] trivial fun ac wd hS => ?_
 refine list_nil_seq ?_
 refine hS.regS [0, 0, 0, 0, 1, 1, 60] [0, 1, 5, 6, 7] fun _ => seg [(26, vb true)] [(0, none), (1, none)] [.t false, .t false, .t false] trivial fun ac wd hS => ?_
 refine hS.condT ?_
 refine St.ordBeginS [(0, 1), (1, 1), (2, 1), (3, 1), (4, 1), (6, 1), (9, 1), (10, 1), (5, 0), (7, 0), (8, 1), (11, 0), (12, 1), (13, 1), (14, 1), (15, 1)] [(1, .fn 0 64 dbT), ((ν5 0), .cells [vnil] 46)] [0, 1] hS fun wd hS => ?_
 have hap := hS.mem.pairs (Hf := [(1, .fn 0 64 dbT), ((ν5 0), .cells [vnil] 46)]) (l := [0, 1])
 refine St.ordF [0, 0, 0, 0, 101, 101, 101, 1] [0, 1, 2, 3, 4, 6, 9, 10] [] (rest := [(5, 0), (7, 0), (8, 1), (11, 0), (12, 1), (13, 1), (14, 1), (15, 1)]) hS hap <| segF [(30, vb true), (31, .agg #[vnil]), (33, .agg #[vnil]), (36, .agg #[vnil]), (37, vi i)] [.t true, .t true, .e (ν5 0), .t true, .e (ν5 0), .t true, .e (ν5 0)] trivial fun ac hS => ?_
 refine hS.ordCG 5 true 33 #[.agg #[vnil]] (rec_Len_nil  _  ) ?_
 rintro _ wd ⟨rfl, hF⟩
 refine ⟨vi 0, rfl, ?_⟩
 replace hS := (hS.to (hS.mem.keep0 hF)).put (d := 32) (v := vi 0) (by decide)
 clear hF
 refine hS.ordV (l := [0, 1]) ?_
 refine hS.ordCG 7 true 34 #[.agg #[vnil]] (rec_Size_nil  _  ) ?_
 rintro _ wd ⟨rfl, hF⟩
 refine ⟨vi 0, rfl, ?_⟩
 replace hS := (hS.to (hS.mem.keep0 hF)).put (d := 34) (v := vi 0) (by decide)
 clear hF
 refine hS.ordV (l := [0, 1]) ?_
 refine St.ordF [1] [8] [30, 36, 37] (rest := [(11, 0), (12, 1), (13, 1), (14, 1), (15, 1)]) hS hap <| segF [(35, vi 0)] [.t true] trivial fun ac hS => ?_
 refine hS.ordCG 11 true 35 #[.agg #[vnil], vi i] (rec_At_nil i _  ) ?_
 rintro _ wd ⟨rfl, hF⟩
 refine ⟨vi 0, rfl, ?_⟩
 replace hS := (hS.to (hS.mem.keep0 hF)).put (d := 38) (v := vi 0) (by decide)
 clear hF
 refine hS.ordV (l := [0, 1]) ?_
 refine St.ordF [1, 1, 70, 0] [12, 13, 14, 15] [] (rest := []) hS hap <| segF [(4, vb true)] [.t true, .t true, .t true] trivial fun ac hS => ?_
 refine ord_nil ?_
 refine wp_ret ?_
 refine pop_then_ret ?_
 refine St.retC 0 hS (vb true) [] trivial fun hw => ?_
 refine ⟨retd rfl, hw.fr0⟩

end Go.Proofs.YtghohcgbmceiaaaDoor.K
