/-
  Walks, printed by w2.py.
-/
import Derived.Test.YtghohcgbmceiaaaDoorGc
import Derived.Test.YtghohcgbmceiaaaDoorProg
namespace Go.Proofs.YtghohcgbmceiaaaDoor.K
set_option linter.unusedVariables false
set_option linter.unusedSimpArgs false

set_option maxRecDepth 100000 in
set_option maxHeartbeats 1000000 in
theorem law10_ChunkEnds (at_ : Int) (ord : Int) (own : Int) (nx : Int) (a : Int) (n : Int) (w : World) (hh0 : HE.holds w 1 (.fn 0 64 dbT)) :
    Calls Tryd.prog 7 #[.agg #[vi at_, vi ord, vu own, vi nx], vi a, vi n] w fun e w' => e = .returned (vb true) ∧ Fr w w' no no := by
 have hsp := spanV_bd ord
 refine enter (args := [.agg #[vi at_, vi ord, vu own, vi nx], vi a, vi n]) (D := no) (A := []) Tryd.func7 rfl 43 rfl [(1, .fn 0 64 dbT)] (WS.startL ⟨⟨rfl, hh0⟩, trivial⟩) fun ac hS => ?_
 refine hS.regS [0, 0] [1, 2] fun ν1 => seg [(3, pt (ν1 0) 0)] [(0, none), (1, some ((ν1 0), .cells [vi at_, vi ord, vu own, vi nx] 70))] [] trivial fun ac wd hS => ?_
 refine wp_seq ?_
 refine wp_region_seq ?_
 refine hS.call0 45 #[] 7 (law10_awake  _ (hS.mem.get 0 1 (.fn 0 64 dbT)) ) fun ac wd hS => ?_
 refine hS.opsC 1 [0] [1, 2, 3] fun _ => seg [(8, vb false)] [(0, none), (1, none)] [] trivial fun ac wd hS => ?_
 refine list_nil_seq ?_
 refine hS.condF ?_
 refine wp_skip ?_
 refine pop_then ?_
 refine wp_seq ?_
 refine wp_region_seq ?_
 refine hS.opsC 9 [0, 100, 0, 0, 3, 103, 3, 80, 0] [1, 2, 3] fun _ => seg [(17, vb ((decide ((at_ : Int) < 0)) || (decide ((4294967296 : Int) < at_))))] [(0, none), (1, none)] [.p ((((decide ((at_ : Int) < 0)) = false) ∧ True) → AllP [((ν1 0) : Nat) = (ν1 0)]), .e (ν1 0)] ⟨(fun ⟨hc0, _⟩ => by replace hc0 := nrm hc0; exact ⟨rfl, trivial⟩), trivial⟩ fun ac wd hS => ?_
 rcases Bool.eq_false_or_eq_true ((decide ((at_ : Int) < 0)) || (decide ((4294967296 : Int) < at_))) with hg1o | hg1o
 ·
  have hg1 := nrm hg1o
  replace hS := hS.fix 17 (vb true) (congrArg Value.bool hg1o)
  refine hS.opsC 5 [2, 2, 2, 2, 70] [1, 2, 3] fun _ => seg [(22, vb true)] [(0, none), (1, none)] [.t true, .t true, .t true, .t true, .t true] trivial fun ac wd hS => ?_
  refine list_nil_seq ?_
  refine hS.condT ?_
  refine hS.regS [0] [] fun _ => seg [(6, vb true)] [(0, none)] [] trivial fun ac wd hS => ?_
  refine wp_ret ?_
  refine pop_then_ret ?_
  refine St.retC 0 hS (vb true) [] trivial fun hw => ?_
  refine ⟨retd rfl, hw.fr0⟩
 ·
  have hg1 := nrm hg1o
  replace hS := hS.fix 17 (vb false) (congrArg Value.bool hg1o)
  refine hS.opsC 2 [1, 101] [1, 2, 3, 17] fun _ => seg [(19, vi ord)] [(0, none), (1, none)] [.t false, .e (ν1 0), .t false] trivial fun ac wd hS => ?_
  refine hS.callG false 46 #[vi ord] (ref01_Span ord _  ) ?_
  rintro _ wd ⟨rfl, hF⟩
  refine ⟨vi (spanV ord), rfl, ?_⟩
  replace hS := (hS.to (hS.mem.keep0 hF)).put (d := 20) (v := vi (spanV ord)) (by decide)
  clear hF
  refine hS.opsC 2 [1, 60] [1, 2, 3] fun _ => seg [(22, vb (((spanV ord) : Int) == 0))] [(0, none), (1, none)] [.t false, .t false] trivial fun ac wd hS => ?_
  refine list_nil_seq ?_
  refine hS.condC (((spanV ord) : Int) == 0) (fun hb2o hb2 => ?_) (fun hb2o hb2 => ?_)
  ·
   refine hS.regS [0] [] fun _ => seg [(6, vb true)] [(0, none)] [] trivial fun ac wd hS => ?_
   refine wp_ret ?_
   refine pop_then_ret ?_
   refine St.retC 0 hS (vb true) [] trivial fun hw => ?_
   refine ⟨retd rfl, hw.fr0⟩
  ·
   have hat2 : 0 ≤ at_ ∧ at_ ≤ 4294967296 := by first | (simp_all; done) | (simp_all; omega)
   refine wp_skip ?_
   refine pop_then ?_
   refine St.ordBeginS [(0, 1), (2, 1), (3, 1), (4, 1), (5, 1), (1, 0), (6, 0), (7, 1), (8, 1), (9, 1), (10, 1), (11, 1), (12, 1), (14, 1), (15, 1), (16, 1), (13, 0), (17, 0), (18, 1), (19, 1), (20, 1)] [(1, .fn 0 64 dbT), ((ν1 0), .cells [vi at_, vi ord, vu own, vi nx] 70)] [0, 1] hS fun wd hS => ?_
   have hap := hS.mem.pairs (Hf := [(1, .fn 0 64 dbT), ((ν1 0), .cells [vi at_, vi ord, vu own, vi nx] 70)]) (l := [0, 1])
   refine St.ordF [100, 0, 100, 0, 100] [0, 2, 3, 4, 5] [1, 2, 3] (rest := [(1, 0), (6, 0), (7, 1), (8, 1), (9, 1), (10, 1), (11, 1), (12, 1), (14, 1), (15, 1), (16, 1), (13, 0), (17, 0), (18, 1), (19, 1), (20, 1)]) hS hap <| segF [(23, .agg #[vi at_, vi ord, vu own, vi nx]), (26, vi at_), (28, vi ord)] [.e (ν1 0), .e (ν1 0), .e (ν1 0), .e (ν1 0), .e (ν1 0), .e (ν1 0)] trivial fun ac hS => ?_
   refine hS.ordC 1 47 #[.agg #[vi at_, vi ord, vu own, vi nx]] (chunk_End at_ ord own nx _  (by first | assumption | omega | (simp_all; done) | (simp_all; omega))) ?_
   rintro _ wd ⟨rfl, hF⟩
   refine ⟨vi (at_ + (spanV ord)), rfl, ?_⟩
   replace hS := (hS.to (hS.mem.keep0 hF)).put (d := 24) (v := vi (at_ + (spanV ord))) (by decide)
   clear hF
   refine hS.ordV (l := [0, 1]) ?_
   refine hS.ordC 6 46 #[vi ord] (ref01_Span ord _  ) ?_
   rintro _ wd ⟨rfl, hF⟩
   refine ⟨vi (spanV ord), rfl, ?_⟩
   replace hS := (hS.to (hS.mem.keep0 hF)).put (d := 29) (v := vi (spanV ord)) (by decide)
   clear hF
   refine hS.ordV (l := [0, 1]) ?_
   refine St.ordF [20, fx 0 (vb true), 0, 101, 1, 1, 101, 1, 1] [7, 8, 9, 10, 11, 12, 14, 15, 16] [] (rest := [(13, 0), (17, 0), (18, 1), (19, 1), (20, 1)]) hS hap <| segF [(32, vb true), (33, .agg #[vi at_, vi ord, vu own, vi nx]), (34, vi a), (35, vi n), (37, .agg #[vi at_, vi ord, vu own, vi nx]), (38, vi a), (39, vi n)] [.t true, .t true, .t true, .e (ν1 0), .e (ν1 0), .e (ν1 0), .e (ν1 0), .t true, .t true, .t true, .e (ν1 0), .e (ν1 0), .e (ν1 0), .e (ν1 0), .p ((vb (((at_ + (spanV ord)) : Int) == (at_ + (spanV ord))) : Value) = vb true), .p (fit .i64 (at_ + (spanV ord)))] ⟨(congrArg Value.bool (beq_self_eq_true _)), fit_i64 (by omega), trivial⟩ fun ac hS => ?_
   refine hS.ordCG 13 true 48 #[.agg #[vi at_, vi ord, vu own, vi nx], vi a, vi n] (chunk_Has at_ ord own nx a n _  (by first | assumption | omega | (simp_all; done) | (simp_all; omega))) ?_
   rintro _ wd ⟨rfl, hF⟩
   refine ⟨vb (cHas at_ ord a n), rfl, ?_⟩
   replace hS := (hS.to (hS.mem.keep0 hF)).put (d := 36) (v := vb (cHas at_ ord a n)) (by decide)
   clear hF
   refine hS.ordV (l := [0, 1]) ?_
   refine hS.ordCG 17 true 49 #[.agg #[vi at_, vi ord, vu own, vi nx], vi a, vi n] (ref10_Has at_ ord own nx a n _  (by first | assumption | omega | (simp_all; done) | (simp_all; omega))) ?_
   rintro _ wd ⟨rfl, hF⟩
   refine ⟨vb (cHas at_ ord a n), rfl, ?_⟩
   replace hS := (hS.to (hS.mem.keep0 hF)).put (d := 40) (v := vb (cHas at_ ord a n)) (by decide)
   clear hF
   refine hS.ordV (l := [0, 1]) ?_
   refine St.ordF [fx 1 (vb true), 70, 0] [18, 19, 20] [] (rest := []) hS hap <| segF [(6, vb true)] [.t true, .t true, .p ((vb ((cHas at_ ord a n) == (cHas at_ ord a n)) : Value) = vb true)] ⟨(congrArg Value.bool (by simp)), trivial⟩ fun ac hS => ?_
   refine ord_nil ?_
   refine wp_ret ?_
   refine St.retC 0 hS (vb true) [] trivial fun hw => ?_
   refine ⟨retd rfl, hw.fr0⟩

end Go.Proofs.YtghohcgbmceiaaaDoor.K
