/-
  Walks, printed by w2.py.
-/
import Derived.Test.YtindbpffbjhfaaaDoorGb
import Derived.Test.YtindbpffbjhfaaaDoorProg
namespace Go.Proofs.YtindbpffbjhfaaaDoor.K
set_option linter.unusedVariables false
set_option linter.unusedSimpArgs false

set_option maxRecDepth 100000 in
set_option maxHeartbeats 1000000 in
theorem chunk_record (w : World) :
    Calls Tryd.prog 134 #[] w fun e w' => ∃ (g2 : Nat) (c2 : Nat), e = .returned (.agg #[sc g2 0 cRec.length c2]) ∧ cRec.length ≤ c2 ∧ w.heap.size ≤ g2 ∧ HE.holds w' g2 (.fn 0 (0 + cRec.length) (ints cRec 0)) ∧ Fr w w' no no := by
 refine enter (args := []) (D := no) (A := []) Tryd.func134 rfl 9 rfl [] (WS.startL trivial) fun ac hS => ?_
 refine hS.regS [0] [] fun ν1 => seg [(0, pt (ν1 0) 0)] [(0, some ((ν1 0), .cells [vnil] 230))] [] trivial fun ac wd hS => ?_
 refine wp_region_seq ?_
 refine hS.opsC 1 [0] [0] fun ν2 => seg [(4, sc (ν2 0) 0 4 4)] [(0, none), (1, some ((ν2 0), .cells [vi 4, vi 4, vi 8, vi 8] 3))] [] trivial fun ac wd hS => ?_
 refine hS.callC 187 #[sc (ν2 0) 0 4 4] (field_Of (ν2 0) 0 4 cRec _ (HE.of_cells (hS.mem.get 1 (ν2 0) (.cells [vi 4, vi 4, vi 8, vi 8] 3)) (fun o_ ho => by have ho : o_ < 4 := ho; rcases (by omega : o_ = 0 ∨ o_ = 1 ∨ o_ = 2 ∨ o_ = 3) with rfl | rfl | rfl | rfl <;> rfl)) (by exact cRec_ok)) ?_
 rintro _ wd ⟨g21, c22, rfl, hc23, hog0, hoh0, hF⟩
 have ho4 : w.heap.size ≤ g21 := Nat.le_trans hS.mem.fr.size hog0
 refine ⟨.tuple #[.agg #[sc g21 0 cRec.length c22], vi 0], rfl, ?_⟩
 replace hS := (hS.to (hS.mem.outs hF [(g21, .fn 0 (0 + cRec.length) (ints cRec 0))] ⟨⟨rfl, hoh0, .inr hog0⟩, trivial⟩)).put (d := 5) (v := .tuple #[.agg #[sc g21 0 cRec.length c22], vi 0]) (by decide)
 clear hF
 refine hS.opsC 6 [0, 0, 0, 0, 300, 0] [0] fun ν3 => seg [(1, pt (ν3 0) 0)] [(0, none), (2, none), (3, some ((ν3 0), .cells [sc g21 0 cRec.length c22] 230))] [.e (ν3 0)] trivial fun ac wd hS => ?_
 refine list_nil_seq ?_
 refine hS.regS [200, 0] [0] fun _ => seg [] [(0, some ((ν1 0), .cells [sc g21 0 cRec.length c22] 230)), (1, none)] [.e (ν1 0), .e (ν3 0)] trivial fun ac wd hS => ?_
 refine wp_ret ?_
 refine St.retC 0 hS (.agg #[sc g21 0 cRec.length c22]) [.e (ν1 0)] trivial fun hw => ?_
 refine ⟨g21, c22, retd rfl, ?_, ho4, (hw.get 1 g21 (.fn 0 (0 + cRec.length) (ints cRec 0))), hw.fr0⟩
 all_goals (first | rfl | assumption | (simp; done) | (simp; omega) | omega | (simp_all; done) | (simp_all; omega))

set_option maxRecDepth 100000 in
set_option maxHeartbeats 1000000 in
theorem chunk_Write_ok (b : Nat) (F : Nat → Prop) (m : AM) (at_ : Int) (ord : Int) (own : Int) (nx : Int) (w : World) (hr : (arR b F m).R w) (hown : 0 ≤ own ∧ own ≤ 18446744073709551615 ∧ nx ≤ 9223372036854775807) (ht : thr m at_ 32 = true) :
    Calls Tryd.prog 44 #[pt b 0, .agg #[vi at_, vi ord, vu own, vi nx]] w fun e w' => ∃ (F' : Nat → Prop), e = .returned (vi (wrcE m at_ ord own nx)) ∧ (arR b F' (wrcM m at_ ord own nx)).R w' ∧ Fr w w' F F' := by
 have hsp := spanV_bd ord
 have hcl : m.cap ≤ 1048576 := by obtain ⟨d, hd⟩ := id hr; exact hd.capLe
 refine enter (args := [pt b 0, .agg #[vi at_, vi ord, vu own, vi nx]]) (D := F) (A := [arR b F m]) Tryd.func44 rfl 53 rfl [] (WS.startA (r := arR b F m) hr trivial trivial) fun ac hS => ?_
 refine hS.regS [0, 0] [0] fun ν1 => seg [(3, pt (ν1 0) 0)] [(0, some ((ν1 0), .cells [vi at_, vi ord, vu own, vi nx] 78))] [] trivial fun ac wd hS => ?_
 refine wp_seq ?_
 refine wp_block ?_
 refine hS.regS [0, 0, 0] [0, 3] fun _ => seg [(7, vb false)] [(0, none)] [] trivial fun ac wd hS => ?_
 refine hS.condF ?_
 refine wp_region_seq ?_
 refine hS.opsC 15 [0, 0, 0, 0, 3, 3, 23, 3, 80, 0, 3, 3, 3, 80, 0] [0, 3] fun _ => seg [(25, vb (((decide ((at_ : Int) < 0)) || (((at_ % 4096) : Int) != 0)) || (decide ((nx : Int) < 0))))] [(0, none)] [.p (((((decide ((at_ : Int) < 0)) || (((at_ % 4096) : Int) != 0)) = false) ∧ True) → AllP [((ν1 0) : Nat) = (ν1 0)]), .p ((((decide ((at_ : Int) < 0)) = false) ∧ True) → AllP [(4096 : Int) ≠ 0 ∧ Int.tmod at_ 4096 = at_ % 4096]), .p ((((decide ((at_ : Int) < 0)) = false) ∧ True) → AllP [((ν1 0) : Nat) = (ν1 0)]), .e (ν1 0)] ⟨(fun ⟨hc0, _⟩ => by replace hc0 := nrm hc0; exact ⟨rfl, trivial⟩), (fun ⟨hc0, _⟩ => by replace hc0 := nrm hc0; exact ⟨rem2 (by omega) (by omega), trivial⟩), (fun ⟨hc0, _⟩ => by replace hc0 := nrm hc0; exact ⟨rfl, trivial⟩), trivial⟩ fun ac wd hS => ?_
 rcases Bool.eq_false_or_eq_true (((decide ((at_ : Int) < 0)) || (((at_ % 4096) : Int) != 0)) || (decide ((nx : Int) < 0))) with hg1o | hg1o
 ·
  have hg1 := nrm hg1o
  have hbd : badC at_ ord nx = true := by unfold badC; simp_all
  have hE : 2 = wrcE m at_ ord own nx := by unfold wrcE; rw [hbd]; rfl
  have hM : m = wrcM m at_ ord own nx := by unfold wrcM; rw [hbd]; rfl
  replace hS := hS.fix 25 (vb true) (congrArg Value.bool hg1o)
  refine hS.opsC 6 [2, 2, 2, 2, 70, 0] [0, 3] fun _ => seg [(10, vb true)] [(0, none)] [.t true, .t true, .t true, .t true, .t true] trivial fun ac wd hS => ?_
  refine list_nil_seq ?_
  refine hS.condT ?_
  refine hS.regS [0] [] fun _ => seg [(4, vi 2)] [] [] trivial fun ac wd hS => ?_
  refine wp_ret ?_
  refine pop_block_ret ?_
  refine pop_then_ret ?_
  refine St.retC 0 hS (vi 2) [] trivial fun hw => ?_
  refine ⟨F, retd (vint ?_), (res_eq (r := arR b F m) (by first | exact congrArg _ hM | (unfold wrcM; rw [hgd, ht]; rfl)) (hw.res 0)), hw.frA⟩
  all_goals (first | exact hE | (unfold wrcE; rw [hgd, ht]; rfl))
 ·
  have hg1 := nrm hg1o
  replace hS := hS.fix 25 (vb false) (congrArg Value.bool hg1o)
  refine hS.opsC 2 [1, 1] [0, 3, 25] fun _ => seg [(27, vi ord)] [(0, none)] [.t false, .e (ν1 0), .t false] trivial fun ac wd hS => ?_
  refine hS.callG false 133 #[vi ord] (size_Span ord _  ) ?_
  rintro _ wd ⟨rfl, hF⟩
  refine ⟨vi (spanV ord), rfl, ?_⟩
  replace hS := (hS.to (hS.mem.keep0 hF)).put (d := 28) (v := vi (spanV ord)) (by decide)
  clear hF
  refine hS.opsC 3 [1, 60, 0] [0, 3] fun _ => seg [(10, vb (((spanV ord) : Int) == 0))] [(0, none)] [.t false, .t false] trivial fun ac wd hS => ?_
  refine list_nil_seq ?_
  refine hS.condC (((spanV ord) : Int) == 0) (fun hb2o hb2 => ?_) (fun hb2o hb2 => ?_)
  ·
   have hbd : badC at_ ord nx = true := by unfold badC; simp_all
   have hE : 2 = wrcE m at_ ord own nx := by unfold wrcE; rw [hbd]; rfl
   have hM : m = wrcM m at_ ord own nx := by unfold wrcM; rw [hbd]; rfl
   refine hS.regS [0] [] fun _ => seg [(4, vi 2)] [] [] trivial fun ac wd hS => ?_
   refine wp_ret ?_
   refine pop_block_ret ?_
   refine pop_then_ret ?_
   refine St.retC 0 hS (vi 2) [] trivial fun hw => ?_
   refine ⟨F, retd (vint ?_), (res_eq (r := arR b F m) (by first | exact congrArg _ hM | (unfold wrcM; rw [hgd, ht]; rfl)) (hw.res 0)), hw.frA⟩
   all_goals (first | exact hE | (unfold wrcE; rw [hgd, ht]; rfl))
  ·
   have hgd : badC at_ ord nx = false := by unfold badC; simp_all
   have hg4 := span_pos (o := ord) (by unfold badC at hgd; simp at hgd; exact hgd.2)
   have hg5 : 0 ≤ at_ ∧ 0 ≤ nx := by unfold badC at hgd; simp at hgd; omega
   refine wp_skip ?_
   refine pop_block ?_
   refine pop_then ?_
   refine wp_region_seq ?_
   refine hS.opsC 3 [0, 0, 0] [3] fun _ => seg [(32, pt b 0), (34, vi at_)] [(0, none)] [.e (ν1 0)] trivial fun ac wd hS => ?_
   refine hS.call0 28 #[pt b 0, vi at_, vi 32] 35 (vw_Of b F m at_ 32 _ (hS.mem.res 0) (by assumption)) fun ac wd hS => ?_
   refine hS.opsC 6 [0, 0, 0, 0, 100, 0] [3] fun ν10 => seg [(5, pt (ν10 0) 0), (6, vi 0)] [(0, none), (1, some ((ν10 0), .cells [pt b 0, vi at_, vi 32] 25))] [.e (ν10 0), .e (ν10 0), .e (ν10 0)] trivial fun ac wd hS => ?_
   refine list_nil_seq ?_
   refine wp_seq ?_
   refine hS.regS [0, 0] [3, 5, 6] fun _ => seg [(39, vb false)] [(0, none), (1, none)] [] trivial fun ac wd hS => ?_
   refine hS.condF ?_
   refine wp_skip ?_
   refine pop_then ?_
   refine St.ordBeginTS [(1, 1), (2, 1), (3, 1), (4, 1), (5, 1), (6, 1), (7, 1), (8, 1), (9, 1), (0, 0), (10, 0), (11, 0), (12, 1)] (.two [(1, 1), (2, 1), (3, 1), (4, 1), (5, 1), (6, 1), (7, 1), (8, 1), (9, 1)] 0 (.lin [(10, 0), (11, 0), (12, 1)]) 10 (.lin [(0, 0), (11, 0), (12, 1)])) [((ν1 0), .cells [vi at_, vi ord, vu own, vi nx] 78), ((ν10 0), .cells [pt b 0, vi at_, vi 32] 25)] [0, 1] hS fun wd hS => ?_
   have hap := hS.mem.pairs (Hf := [((ν1 0), .cells [vi at_, vi ord, vu own, vi nx] 78), ((ν10 0), .cells [pt b 0, vi at_, vi 32] 25)]) (l := [0, 1])
   refine wpT_two ?_
   refine St.ordF [100, 0, 0, 20, 0, 0, 0, 0, 20] [1, 2, 3, 4, 5, 6, 7, 8, 9] [] (rest := []) hS hap <| segF [(42, .agg #[pt b 0, vi at_, vi 32]), (45, vu ord), (47, vu own), (50, vu nx)] [.p (fit .u64 nx), .e (ν1 0), .e (ν1 0), .p (fit .u64 ord), .e (ν1 0), .e (ν10 0), .e (ν10 0), .e (ν10 0)] ⟨fit_u64 (by omega), fit_u64 (by omega), trivial⟩ fun ac hS => ?_
   refine ord_nil ?_
   refine ⟨?_, ?_⟩
   ·
    refine hS.ordC 0 134 #[] (chunk_record  _  ) ?_
    rintro _ wd ⟨g23, c24, rfl, hc25, hog0, hoh0, hF⟩
    have ho6 : w.heap.size ≤ g23 := Nat.le_trans hS.mem.fr.size hog0
    refine ⟨.agg #[sc g23 0 cRec.length c24], rfl, ?_⟩
    replace hS := (hS.to (hS.mem.outs hF [(g23, .fn 0 (0 + cRec.length) (ints cRec 0))] ⟨⟨rfl, hoh0, .inr hog0⟩, trivial⟩)).put (d := 41) (v := .agg #[sc g23 0 cRec.length c24]) (by decide)
    clear hF
    refine hS.ordV (l := [0, 1]) ?_
    refine ord_nil ?_
    refine wpT_lin ?_
    refine St.ord1 10 [0] [41, 42] [0, 1] hS rfl fun ν12 => seg [(51, sc (ν12 0) 0 4 4)] [(0, none), (1, none), (2, none), (3, some ((ν12 0), .cells [vu 1263421507, vu ord, vu own, vu nx] 76))] [] trivial ⟨by as_aux_lemma => kernel_rfl, fun ac wd hS => ?_⟩
    refine hS.ordC 11 127 #[.agg #[sc g23 0 cRec.length c24], .agg #[pt b 0, vi at_, vi 32], sc (ν12 0) 0 4 4] (rec_Put b F m g23 0 c24 cRec at_ 32 (ν12 0) 0 4 4 (cNum ord own nx) _ (hS.mem.res 0) (hS.mem.get 2 g23 (.fn 0 (0 + cRec.length) (ints cRec 0))) (HE.of_cells (hS.mem.get 3 (ν12 0) (.cells [vu 1263421507, vu ord, vu own, vu nx] 76)) (cNum_cells hg4.1 hown.1 hg5.2)) (hS.mem.nF (g := g23) (r := arR b F m) 2 0) (hS.mem.nF (g := (ν12 0)) (r := arR b F m) 3 0) (by first | assumption | exact cRec_ok | decide | (have := (inB_facts (thr_in ht)); omega)) (by first | assumption | exact cRec_ok | decide | (have := (inB_facts (thr_in ht)); omega)) (by first | assumption | exact cRec_ok | decide | (have := (inB_facts (thr_in ht)); omega)) (by first | assumption | exact cRec_ok | decide | (have := (inB_facts (thr_in ht)); omega))) ?_
    rintro _ wd ⟨F7, rfl, hA, hF⟩
    refine ⟨vi (pRE cRec 4 (cNum ord own nx) m at_ 32), rfl, ?_⟩
    replace hS := (hS.to (hS.mem.stepA 0 rfl hA hF)).put (d := 52) (v := vi (pRE cRec 4 (cNum ord own nx) m at_ 32)) (by decide)
    clear hF
    refine hS.ordV (l := [0, 1]) ?_
    refine St.ordF [0] [12] [] (rest := []) hS hap <| segF [(4, vi (pRE cRec 4 (cNum ord own nx) m at_ 32))] [] trivial fun ac hS => ?_
    refine ord_nil ?_
    refine wp_ret ?_
    refine St.retC 0 hS (vi (pRE cRec 4 (cNum ord own nx) m at_ 32)) [] trivial fun hw => ?_
    refine ⟨F7, retd (vint ?_), (res_eq (r := arR b F7 (pRM cRec 4 (cNum ord own nx) m at_ 32)) (by first | exact congrArg _ hM | (unfold wrcM; rw [hgd, ht]; rfl)) (hw.res 0)), hw.frA⟩
    all_goals (first | exact hE | (unfold wrcE; rw [hgd, ht]; rfl))
   ·
    refine St.ord1 10 [0] [42] [0, 1] hS rfl fun ν13 => seg [(51, sc (ν13 0) 0 4 4)] [(0, none), (1, none), (2, some ((ν13 0), .cells [vu 1263421507, vu ord, vu own, vu nx] 76))] [] trivial ⟨by as_aux_lemma => kernel_rfl, fun ac wd hS => ?_⟩
    refine ord_nil ?_
    refine wpT_lin ?_
    refine hS.ordC 0 134 #[] (chunk_record  _  ) ?_
    rintro _ wd ⟨g28, c29, rfl, hc210, hog0, hoh0, hF⟩
    have ho11 : w.heap.size ≤ g28 := Nat.le_trans hS.mem.fr.size hog0
    refine ⟨.agg #[sc g28 0 cRec.length c29], rfl, ?_⟩
    replace hS := (hS.to (hS.mem.outs hF [(g28, .fn 0 (0 + cRec.length) (ints cRec 0))] ⟨⟨rfl, hoh0, .inr hog0⟩, trivial⟩)).put (d := 41) (v := .agg #[sc g28 0 cRec.length c29]) (by decide)
    clear hF
    refine hS.ordV (l := [0, 1]) ?_
    refine hS.ordC 11 127 #[.agg #[sc g28 0 cRec.length c29], .agg #[pt b 0, vi at_, vi 32], sc (ν13 0) 0 4 4] (rec_Put b F m g28 0 c29 cRec at_ 32 (ν13 0) 0 4 4 (cNum ord own nx) _ (hS.mem.res 0) (hS.mem.get 3 g28 (.fn 0 (0 + cRec.length) (ints cRec 0))) (HE.of_cells (hS.mem.get 2 (ν13 0) (.cells [vu 1263421507, vu ord, vu own, vu nx] 76)) (cNum_cells hg4.1 hown.1 hg5.2)) (hS.mem.nF (g := g28) (r := arR b F m) 3 0) (hS.mem.nF (g := (ν13 0)) (r := arR b F m) 2 0) (by first | assumption | exact cRec_ok | decide | (have := (inB_facts (thr_in ht)); omega)) (by first | assumption | exact cRec_ok | decide | (have := (inB_facts (thr_in ht)); omega)) (by first | assumption | exact cRec_ok | decide | (have := (inB_facts (thr_in ht)); omega)) (by first | assumption | exact cRec_ok | decide | (have := (inB_facts (thr_in ht)); omega))) ?_
    rintro _ wd ⟨F12, rfl, hA, hF⟩
    refine ⟨vi (pRE cRec 4 (cNum ord own nx) m at_ 32), rfl, ?_⟩
    replace hS := (hS.to (hS.mem.stepA 0 rfl hA hF)).put (d := 52) (v := vi (pRE cRec 4 (cNum ord own nx) m at_ 32)) (by decide)
    clear hF
    refine hS.ordV (l := [0, 1]) ?_
    refine St.ordF [0] [12] [] (rest := []) hS hap <| segF [(4, vi (pRE cRec 4 (cNum ord own nx) m at_ 32))] [] trivial fun ac hS => ?_
    refine ord_nil ?_
    refine wp_ret ?_
    refine St.retC 0 hS (vi (pRE cRec 4 (cNum ord own nx) m at_ 32)) [] trivial fun hw => ?_
    refine ⟨F12, retd (vint ?_), (res_eq (r := arR b F12 (pRM cRec 4 (cNum ord own nx) m at_ 32)) (by first | exact congrArg _ hM | (unfold wrcM; rw [hgd, ht]; rfl)) (hw.res 0)), hw.frA⟩
    all_goals (first | exact hE | (unfold wrcE; rw [hgd, ht]; rfl))

set_option maxRecDepth 100000 in
set_option maxHeartbeats 1000000 in
theorem chunk_Write_no (b : Nat) (F : Nat → Prop) (m : AM) (at_ : Int) (ord : Int) (own : Int) (nx : Int) (w : World) (hr : (arR b F m).R w) (hown : 0 ≤ own ∧ own ≤ 18446744073709551615 ∧ nx ≤ 9223372036854775807) (ht : thr m at_ 32 = false) :
    Calls Tryd.prog 44 #[pt b 0, .agg #[vi at_, vi ord, vu own, vi nx]] w fun e w' => ∃ (F' : Nat → Prop), e = .returned (vi (wrcE m at_ ord own nx)) ∧ (arR b F' (wrcM m at_ ord own nx)).R w' ∧ Fr w w' F F' := by
 have hsp := spanV_bd ord
 have hcl : m.cap ≤ 1048576 := by obtain ⟨d, hd⟩ := id hr; exact hd.capLe
 refine enter (args := [pt b 0, .agg #[vi at_, vi ord, vu own, vi nx]]) (D := F) (A := [arR b F m]) Tryd.func44 rfl 53 rfl [] (WS.startA (r := arR b F m) hr trivial trivial) fun ac hS => ?_
 refine hS.regS [0, 0] [0] fun ν1 => seg [(3, pt (ν1 0) 0)] [(0, some ((ν1 0), .cells [vi at_, vi ord, vu own, vi nx] 78))] [] trivial fun ac wd hS => ?_
 refine wp_seq ?_
 refine wp_block ?_
 refine hS.regS [0, 0, 0] [0, 3] fun _ => seg [(7, vb false)] [(0, none)] [] trivial fun ac wd hS => ?_
 refine hS.condF ?_
 refine wp_region_seq ?_
 refine hS.opsC 15 [0, 0, 0, 0, 3, 3, 23, 3, 80, 0, 3, 3, 3, 80, 0] [0, 3] fun _ => seg [(25, vb (((decide ((at_ : Int) < 0)) || (((at_ % 4096) : Int) != 0)) || (decide ((nx : Int) < 0))))] [(0, none)] [.p (((((decide ((at_ : Int) < 0)) || (((at_ % 4096) : Int) != 0)) = false) ∧ True) → AllP [((ν1 0) : Nat) = (ν1 0)]), .p ((((decide ((at_ : Int) < 0)) = false) ∧ True) → AllP [(4096 : Int) ≠ 0 ∧ Int.tmod at_ 4096 = at_ % 4096]), .p ((((decide ((at_ : Int) < 0)) = false) ∧ True) → AllP [((ν1 0) : Nat) = (ν1 0)]), .e (ν1 0)] ⟨(fun ⟨hc0, _⟩ => by replace hc0 := nrm hc0; exact ⟨rfl, trivial⟩), (fun ⟨hc0, _⟩ => by replace hc0 := nrm hc0; exact ⟨rem2 (by omega) (by omega), trivial⟩), (fun ⟨hc0, _⟩ => by replace hc0 := nrm hc0; exact ⟨rfl, trivial⟩), trivial⟩ fun ac wd hS => ?_
 rcases Bool.eq_false_or_eq_true (((decide ((at_ : Int) < 0)) || (((at_ % 4096) : Int) != 0)) || (decide ((nx : Int) < 0))) with hg1o | hg1o
 ·
  have hg1 := nrm hg1o
  have hbd : badC at_ ord nx = true := by unfold badC; simp_all
  have hE : 2 = wrcE m at_ ord own nx := by unfold wrcE; rw [hbd]; rfl
  have hM : m = wrcM m at_ ord own nx := by unfold wrcM; rw [hbd]; rfl
  replace hS := hS.fix 25 (vb true) (congrArg Value.bool hg1o)
  refine hS.opsC 6 [2, 2, 2, 2, 70, 0] [0, 3] fun _ => seg [(10, vb true)] [(0, none)] [.t true, .t true, .t true, .t true, .t true] trivial fun ac wd hS => ?_
  refine list_nil_seq ?_
  refine hS.condT ?_
  refine hS.regS [0] [] fun _ => seg [(4, vi 2)] [] [] trivial fun ac wd hS => ?_
  refine wp_ret ?_
  refine pop_block_ret ?_
  refine pop_then_ret ?_
  refine St.retC 0 hS (vi 2) [] trivial fun hw => ?_
  refine ⟨F, retd (vint ?_), (res_eq (r := arR b F m) (by first | exact congrArg _ hM | (unfold wrcM; rw [hgd, ht]; rfl)) (hw.res 0)), hw.frA⟩
  all_goals (first | exact hE | (unfold wrcE chkE; rw [hgd, ht]; rfl))
 ·
  have hg1 := nrm hg1o
  replace hS := hS.fix 25 (vb false) (congrArg Value.bool hg1o)
  refine hS.opsC 2 [1, 1] [0, 3, 25] fun _ => seg [(27, vi ord)] [(0, none)] [.t false, .e (ν1 0), .t false] trivial fun ac wd hS => ?_
  refine hS.callG false 133 #[vi ord] (size_Span ord _  ) ?_
  rintro _ wd ⟨rfl, hF⟩
  refine ⟨vi (spanV ord), rfl, ?_⟩
  replace hS := (hS.to (hS.mem.keep0 hF)).put (d := 28) (v := vi (spanV ord)) (by decide)
  clear hF
  refine hS.opsC 3 [1, 60, 0] [0, 3] fun _ => seg [(10, vb (((spanV ord) : Int) == 0))] [(0, none)] [.t false, .t false] trivial fun ac wd hS => ?_
  refine list_nil_seq ?_
  refine hS.condC (((spanV ord) : Int) == 0) (fun hb2o hb2 => ?_) (fun hb2o hb2 => ?_)
  ·
   have hbd : badC at_ ord nx = true := by unfold badC; simp_all
   have hE : 2 = wrcE m at_ ord own nx := by unfold wrcE; rw [hbd]; rfl
   have hM : m = wrcM m at_ ord own nx := by unfold wrcM; rw [hbd]; rfl
   refine hS.regS [0] [] fun _ => seg [(4, vi 2)] [] [] trivial fun ac wd hS => ?_
   refine wp_ret ?_
   refine pop_block_ret ?_
   refine pop_then_ret ?_
   refine St.retC 0 hS (vi 2) [] trivial fun hw => ?_
   refine ⟨F, retd (vint ?_), (res_eq (r := arR b F m) (by first | exact congrArg _ hM | (unfold wrcM; rw [hgd, ht]; rfl)) (hw.res 0)), hw.frA⟩
   all_goals (first | exact hE | (unfold wrcE chkE; rw [hgd, ht]; rfl))
  ·
   have hgd : badC at_ ord nx = false := by unfold badC; simp_all
   have hg4 := span_pos (o := ord) (by unfold badC at hgd; simp at hgd; exact hgd.2)
   have hg5 : 0 ≤ at_ ∧ 0 ≤ nx := by unfold badC at hgd; simp at hgd; omega
   refine wp_skip ?_
   refine pop_block ?_
   refine pop_then ?_
   refine wp_region_seq ?_
   refine hS.opsC 3 [0, 0, 0] [3] fun _ => seg [(32, pt b 0), (34, vi at_)] [(0, none)] [.e (ν1 0)] trivial fun ac wd hS => ?_
   refine hS.call0 28 #[pt b 0, vi at_, vi 32] 35 (vw_Of_no b F m at_ 32 _ (hS.mem.res 0) (by unfold chkE; rw [ht]; decide)) fun ac wd hS => ?_
   refine hS.opsC 6 [0, 0, 0, 0, 100, 0] [3] fun ν10 => seg [(5, pt (ν10 0) 0), (6, vi (chkE m at_ 32))] [(0, none), (1, some ((ν10 0), .cells [pnil, vi 0, vi 0] 25))] [.e (ν10 0), .e (ν10 0), .e (ν10 0)] trivial fun ac wd hS => ?_
   refine list_nil_seq ?_
   refine wp_seq ?_
   refine hS.regS [0, 0] [3, 5, 6] fun _ => seg [(39, vb (((chkE m at_ 32) : Int) != 0))] [(0, none), (1, none)] [] trivial fun ac wd hS => ?_
   refine hS.condK (((chkE m at_ 32) : Int) != 0) true (by unfold chkE; rw [ht]; rfl) ?_
   show Code.wp _ _ _ _ _
   refine hS.regS [0, 0] [] fun _ => seg [(4, vi (chkE m at_ 32))] [] [] trivial fun ac wd hS => ?_
   refine wp_ret ?_
   refine pop_then_ret ?_
   refine St.retC 0 hS (vi (chkE m at_ 32)) [] trivial fun hw => ?_
   refine ⟨F, retd (vint ?_), (res_eq (r := arR b F m) (by first | exact congrArg _ hM | (unfold wrcM; rw [hgd, ht]; rfl)) (hw.res 0)), hw.frA⟩
   all_goals (first | exact hE | (unfold wrcE chkE; rw [hgd, ht]; rfl))

theorem chunk_Write (b : Nat) (F : Nat → Prop) (m : AM) (at_ : Int) (ord : Int) (own : Int) (nx : Int) (w : World) (hr : (arR b F m).R w) (hown : 0 ≤ own ∧ own ≤ 18446744073709551615 ∧ nx ≤ 9223372036854775807) :
    Calls Tryd.prog 44 #[pt b 0, .agg #[vi at_, vi ord, vu own, vi nx]] w fun e w' => ∃ (F' : Nat → Prop), e = .returned (vi (wrcE m at_ ord own nx)) ∧ (arR b F' (wrcM m at_ ord own nx)).R w' ∧ Fr w w' F F' := by
 cases ht : thr m at_ 32 with
 | true => exact chunk_Write_ok b F m at_ ord own nx w hr hown ht
 | false => exact chunk_Write_no b F m at_ ord own nx w hr hown ht

set_option maxRecDepth 100000 in
set_option maxHeartbeats 1000000 in
theorem chunk_Write_nil (at_ : Int) (ord : Int) (own : Int) (nx : Int) (w : World) :
    Calls Tryd.prog 44 #[pnil, .agg #[vi at_, vi ord, vu own, vi nx]] w fun e w' => e = .returned (vi 1) ∧ Fr w w' no no := by
 refine enter (args := [pnil, .agg #[vi at_, vi ord, vu own, vi nx]]) (D := no) (A := []) Tryd.func44 rfl 53 rfl [] (WS.startL trivial) fun ac hS => ?_
 refine hS.regS [0, 0] [0] fun ν1 => seg [(3, pt (ν1 0) 0)] [(0, some ((ν1 0), .cells [vi at_, vi ord, vu own, vi nx] 78))] [] trivial fun ac wd hS => ?_
 refine wp_seq ?_
 refine wp_block ?_
 refine hS.regS [0, 0, 0] [0, 3] fun _ => seg [(7, vb true)] [(0, none)] [] trivial fun ac wd hS => ?_
 refine hS.condT ?_
 refine hS.regS [0] [] fun _ => seg [(4, vi 1)] [] [] trivial fun ac wd hS => ?_
 refine wp_ret ?_
 refine pop_block_ret ?_
 refine pop_then_ret ?_
 refine St.retC 0 hS (vi 1) [] trivial fun hw => ?_
 refine ⟨retd rfl, hw.fr0⟩

set_option maxRecDepth 100000 in
set_option maxHeartbeats 1000000 in
theorem chunk_Read_ok (b : Nat) (F : Nat → Prop) (m : AM) (at_ : Int) (w : World) (hr : (arR b F m).R w) (ht : thr m at_ 32 = true) :
    Calls Tryd.prog 46 #[pt b 0, vi at_] w fun e w' => e = .returned (.tuple #[.agg #[vi (rdAt m at_), vi (rdOrd m at_), vu (rdOwn m at_), vi (rdNx m at_)], vi (rdE m at_)]) ∧ Fr w w' no no := by
 have hcl : m.cap ≤ 1048576 := by obtain ⟨d, hd⟩ := id hr; exact hd.capLe
 obtain ⟨hI1, hI2, hI3, hI4⟩ := inB_facts (thr_in ht)
 refine enter (args := [pt b 0, vi at_]) (D := no) (A := []) Tryd.func46 rfl 62 rfl [] (WS.startL trivial) fun ac hS => ?_
 refine hS.regS [0, 0] [0, 1] fun ν1 => seg [(4, pt (ν1 0) 0)] [(0, some ((ν1 0), .cells [vi 0, vi 0, vu 0, vi 0] 78))] [] trivial fun ac wd hS => ?_
 refine wp_region_seq ?_
 refine hS.opsC 2 [0, 0] [1, 4] fun _ => seg [(12, pt b 0), (13, vi at_)] [(0, none)] [] trivial fun ac wd hS => ?_
 refine hS.call0 28 #[pt b 0, vi at_, vi 32] 14 (vw_Of b F m at_ 32 _ (Res.keep hr hS.mem.fr) (by assumption)) fun ac wd hS => ?_
 refine hS.opsC 6 [0, 0, 0, 0, 100, 0] [1, 4] fun ν3 => seg [(6, pt (ν3 0) 0), (7, vi 0)] [(0, none), (1, some ((ν3 0), .cells [pt b 0, vi at_, vi 32] 25))] [.e (ν3 0), .e (ν3 0), .e (ν3 0)] trivial fun ac wd hS => ?_
 refine list_nil_seq ?_
 refine wp_seq ?_
 refine hS.regS [0, 0] [1, 4, 6, 7] fun _ => seg [(18, vb false)] [(0, none), (1, none)] [] trivial fun ac wd hS => ?_
 refine hS.condF ?_
 refine wp_skip ?_
 refine pop_then ?_
 refine St.ordBeginS [(1, 1), (0, 0), (2, 0), (3, 1), (4, 1), (5, 1), (6, 1), (7, 1)] [((ν1 0), .cells [vi 0, vi 0, vu 0, vi 0] 78), ((ν3 0), .cells [pt b 0, vi at_, vi 32] 25)] [0, 1] hS fun wd hS => ?_
 have hap := hS.mem.pairs (Hf := [((ν1 0), .cells [vi 0, vi 0, vu 0, vi 0] 78), ((ν3 0), .cells [pt b 0, vi at_, vi 32] 25)]) (l := [0, 1])
 refine St.ordF [100] [1] [1, 4] (rest := [(0, 0), (2, 0), (3, 1), (4, 1), (5, 1), (6, 1), (7, 1)]) hS hap <| segF [(23, .agg #[pt b 0, vi at_, vi 32])] [.e (ν3 0), .e (ν3 0), .e (ν3 0)] trivial fun ac hS => ?_
 refine hS.ordC 0 134 #[] (chunk_record  _  ) ?_
 rintro _ wd ⟨g21, c22, rfl, hc23, hog0, hoh0, hF⟩
 have ho4 : w.heap.size ≤ g21 := Nat.le_trans hS.mem.fr.size hog0
 refine ⟨.agg #[sc g21 0 4 c22], rfl, ?_⟩
 replace hS := (hS.to (hS.mem.outs hF [(g21, .fn 0 4 (ints cRec 0))] ⟨⟨rfl, hoh0, .inr hog0⟩, trivial⟩)).put (d := 22) (v := .agg #[sc g21 0 4 c22]) (by decide)
 clear hF
 refine hS.ordV (l := [0, 1]) ?_
 refine hS.ordC 2 128 #[.agg #[sc g21 0 4 c22], .agg #[pt b 0, vi at_, vi 32]] (rec_All b F m g21 0 c22 cRec at_ 32 _ (Res.keep hr hS.mem.fr) (hS.mem.get 2 g21 (.fn 0 4 (ints cRec 0))) (by first | assumption | exact cRec_ok | exact vby_all ht cRec_ok (by decide) | omega) (by first | assumption | exact cRec_ok | exact vby_all ht cRec_ok (by decide) | omega) (by first | assumption | exact cRec_ok | exact vby_all ht cRec_ok (by decide) | omega) (by first | assumption | exact cRec_ok | exact vby_all ht cRec_ok (by decide) | omega)) ?_
 rintro _ wd ⟨g25, c26, rfl, hc27, hog0, hoh0, hF⟩
 have ho8 : w.heap.size ≤ g25 := Nat.le_trans hS.mem.fr.size hog0
 refine ⟨.tuple #[sc g25 0 4 c26, vi 0], rfl, ?_⟩
 replace hS := (hS.to (hS.mem.outs hF [(g25, .fn 0 4 (u64z (fun i => getW cRec m at_ 32 (i : Int)) 0))] ⟨⟨rfl, hoh0, .inr hog0⟩, trivial⟩)).put (d := 24) (v := .tuple #[sc g25 0 4 c26, vi 0]) (by decide)
 clear hF
 refine hS.ordV (l := [0, 1]) ?_
 refine St.ordF [0, 0, 0, 0, 0] [3, 4, 5, 6, 7] [1, 4] (rest := []) hS hap <| segF [(8, sc g25 0 4 c26)] [] trivial fun ac hS => ?_
 refine ord_nil ?_
 refine St.ordBeginS [(0, 1), (1, 1), (2, 1), (3, 1), (4, 1), (5, 1), (6, 1), (7, 1), (8, 1), (9, 1), (10, 1), (11, 1), (12, 1), (13, 0), (14, 2)] [((ν1 0), .cells [vi 0, vi 0, vu 0, vi 0] 78), ((ν3 0), .cells [pt b 0, vi at_, vi 32] 25), (g21, .fn 0 4 (ints cRec 0)), (g25, .fn 0 4 (u64z (fun i => getW cRec m at_ 32 (i : Int)) 0))] [0, 1, 2, 3] hS fun wd hS => ?_
 have hap := hS.mem.pairs (Hf := [((ν1 0), .cells [vi 0, vi 0, vu 0, vi 0] 78), ((ν3 0), .cells [pt b 0, vi at_, vi 32] 25), (g21, .fn 0 4 (ints cRec 0)), (g25, .fn 0 4 (u64z (fun i => getW cRec m at_ 32 (i : Int)) 0))]) (l := [0, 1, 2, 3])
 refine St.ordF [0, 0, 0, fx 300 (vu (rdN m at_ 1)), 0, 0, 0, fx 300 (vu (rdN m at_ 2)), 0, 0, fx 300 (vu (rdN m at_ 3)), 0, 0] [0, 1, 2, 3, 4, 5, 6, 7, 8, 9, 10, 11, 12] [1, 4, 8] (rest := [(13, 0), (14, 2)]) hS hap <| segF [(39, .agg #[vi at_, vi (IntKind.wrap .i64 (rdN m at_ 1)), vu (rdN m at_ 2), vi (IntKind.wrap .i64 (rdN m at_ 3))])] [.p ((((u64z (fun i => getW cRec m at_ 32 (i : Int)) 0) 3) : Value) = vu (rdN m at_ 3)), .e g25, .p (0 ≤ 3 ∧ 3 < 4), .p ((((u64z (fun i => getW cRec m at_ 32 (i : Int)) 0) 2) : Value) = vu (rdN m at_ 2)), .e g25, .p (0 ≤ 2 ∧ 2 < 4), .p ((((u64z (fun i => getW cRec m at_ 32 (i : Int)) 0) 1) : Value) = vu (rdN m at_ 1)), .e g25, .p (0 ≤ 1 ∧ 1 < 4)] ⟨((u64z_rel (fun i => getW cRec m at_ 32 (i : Int)) 0 3).trans (rfl)), (by first | omega | decide), ((u64z_rel (fun i => getW cRec m at_ 32 (i : Int)) 0 2).trans (rfl)), (by first | omega | decide), ((u64z_rel (fun i => getW cRec m at_ 32 (i : Int)) 0 1).trans (rfl)), (by first | omega | decide), trivial⟩ fun ac hS => ?_
 refine St.ord1 13 [0] [1, 4, 8, 39] [0, 1, 2, 3] hS rfl fun ν5 => seg [(10, pt (ν5 0) 0)] [(0, none), (1, none), (2, none), (3, none), (4, some ((ν5 0), .cells [vi 0, vi 0, vu 0, vi 0] 78))] [] trivial ⟨by as_aux_lemma => kernel_rfl, fun ac wd hS => ?_⟩
 refine St.ord2 14 [400] [1, 4, 8, 10] hS rfl fun _ => seg [] [(0, none), (1, none), (2, none), (3, none), (4, some ((ν5 0), .cells [vi at_, vi (IntKind.wrap .i64 (rdN m at_ 1)), vu (rdN m at_ 2), vi (IntKind.wrap .i64 (rdN m at_ 3))] 78))] [.e (ν5 0), .e (ν5 0), .e (ν5 0), .e (ν5 0)] trivial fun ac wd hS => ?_
 refine ord_nil ?_
 refine wp_seq ?_
 refine wp_region_seq ?_
 refine hS.opsC 10 [0, 0, fx 300 (vu (rdN m at_ 0)), 0, 0, 3, 23, 3, 80, 0] [4, 10] fun _ => seg [(49, vb ((((rdN m at_ 0) : Int) != 1263421507) || (((at_ % 4096) : Int) != 0)))] [(0, none), (4, none)] [.p ((((((rdN m at_ 0) : Int) != 1263421507) = false) ∧ True) → AllP [(4096 : Int) ≠ 0 ∧ Int.tmod at_ 4096 = at_ % 4096]), .p ((((u64z (fun i => getW cRec m at_ 32 (i : Int)) 0) 0) : Value) = vu (rdN m at_ 0)), .e g25, .p (0 ≤ 0 ∧ 0 < 4)] ⟨(fun ⟨hc0, _⟩ => by replace hc0 := nrm hc0; exact ⟨rem2 (by omega) (by omega), trivial⟩), ((u64z_rel (fun i => getW cRec m at_ 32 (i : Int)) 0 0).trans (rfl)), (by first | omega | decide), trivial⟩ fun ac wd hS => ?_
 rcases Bool.eq_false_or_eq_true ((((rdN m at_ 0) : Int) != 1263421507) || (((at_ % 4096) : Int) != 0)) with hg9o | hg9o
 ·
  have hg9 := nrm hg9o
  replace hS := hS.fix 49 (vb true) (congrArg Value.bool hg9o)
  refine hS.opsC 10 [2, 2, 2, 2, 70, 0, 2, 2, 2, 70] [4, 10] fun _ => seg [(59, vb true)] [(0, none), (1, none)] [.t true, .t true, .t true, .t true, .t true, .t true, .t true, .t true, .t true] trivial fun ac wd hS => ?_
  refine list_nil_seq ?_
  refine hS.condT ?_
  refine hS.regS [0, 0, 0] [4] fun _ => seg [(5, vi 7)] [(0, none)] [.e (ν1 0), .e (ν1 0), .e (ν1 0), .e (ν1 0)] trivial fun ac wd hS => ?_
  refine wp_ret ?_
  refine pop_then_ret ?_
  refine St.retC 0 hS (.tuple #[.agg #[vi 0, vi 0, vu 0, vi 0], vi 7]) [.e (ν1 0), .e (ν1 0), .e (ν1 0), .e (ν1 0)] trivial fun hw => ?_
  refine ⟨retd (tuple2 (agg4 (vint ?_) (vint ?_) (vint ?_) (vint ?_)) (vint ?_)), hw.fr0⟩
  all_goals (first | rfl | (have hq : badR m at_ = true := by (unfold badR; simp_all)); (first | first | exact (rd_no (rdOk_no2 ht hq).1).1 | exact (rd_no (rdOk_no2 ht hq).1).2.1 | exact (rd_no (rdOk_no2 ht hq).1).2.2.1 | exact (rd_no (rdOk_no2 ht hq).1).2.2.2 | exact (rdOk_no2 ht hq).2.symm) | (have hq : badR m at_ = false := by (unfold badR; simp_all)); (first | first | exact (rd_yes (rdOk_yes ht hq).1).1 | exact (rd_yes (rdOk_yes ht hq).1).2.1 | exact (rd_yes (rdOk_yes ht hq).1).2.2.1 | exact (rd_yes (rdOk_yes ht hq).1).2.2.2 | exact (rdOk_yes ht hq).2.symm))
 ·
  have hg9 := nrm hg9o
  replace hS := hS.fix 49 (vb false) (congrArg Value.bool hg9o)
  refine hS.opsC 2 [1, 101] [4, 10, 49] fun _ => seg [(51, vi (IntKind.wrap .i64 (rdN m at_ 1)))] [(0, none), (1, none)] [.t false, .e (ν5 0), .t false] trivial fun ac wd hS => ?_
  refine hS.callG false 133 #[vi (IntKind.wrap .i64 (rdN m at_ 1))] (size_Span (IntKind.wrap .i64 (rdN m at_ 1)) _  ) ?_
  rintro _ wd ⟨rfl, hF⟩
  refine ⟨vi (spanV (IntKind.wrap .i64 (rdN m at_ 1))), rfl, ?_⟩
  replace hS := (hS.to (hS.mem.keep0 hF)).put (d := 52) (v := vi (spanV (IntKind.wrap .i64 (rdN m at_ 1)))) (by decide)
  clear hF
  refine hS.opsC 7 [1, 60, 0, 3, 103, 3, 80] [4, 10] fun _ => seg [(59, vb ((((spanV (IntKind.wrap .i64 (rdN m at_ 1))) : Int) == 0) || (decide (((IntKind.wrap .i64 (rdN m at_ 3)) : Int) < 0))))] [(0, none), (1, none)] [.p ((((((spanV (IntKind.wrap .i64 (rdN m at_ 1))) : Int) == 0) = false) ∧ True) → AllP [((ν5 0) : Nat) = (ν5 0)]), .t false, .t false] ⟨(fun ⟨hc0, _⟩ => by replace hc0 := nrm hc0; exact ⟨rfl, trivial⟩), trivial⟩ fun ac wd hS => ?_
  refine list_nil_seq ?_
  refine hS.condC ((((spanV (IntKind.wrap .i64 (rdN m at_ 1))) : Int) == 0) || (decide (((IntKind.wrap .i64 (rdN m at_ 3)) : Int) < 0))) (fun hb10o hb10 => ?_) (fun hb10o hb10 => ?_)
  ·
   refine hS.regS [0, 0, 0] [4] fun _ => seg [(5, vi 7)] [(0, none)] [.e (ν1 0), .e (ν1 0), .e (ν1 0), .e (ν1 0)] trivial fun ac wd hS => ?_
   refine wp_ret ?_
   refine pop_then_ret ?_
   refine St.retC 0 hS (.tuple #[.agg #[vi 0, vi 0, vu 0, vi 0], vi 7]) [.e (ν1 0), .e (ν1 0), .e (ν1 0), .e (ν1 0)] trivial fun hw => ?_
   refine ⟨retd (tuple2 (agg4 (vint ?_) (vint ?_) (vint ?_) (vint ?_)) (vint ?_)), hw.fr0⟩
   all_goals (first | rfl | (have hq : badR m at_ = true := by (unfold badR; simp_all)); (first | first | exact (rd_no (rdOk_no2 ht hq).1).1 | exact (rd_no (rdOk_no2 ht hq).1).2.1 | exact (rd_no (rdOk_no2 ht hq).1).2.2.1 | exact (rd_no (rdOk_no2 ht hq).1).2.2.2 | exact (rdOk_no2 ht hq).2.symm) | (have hq : badR m at_ = false := by (unfold badR; simp_all)); (first | first | exact (rd_yes (rdOk_yes ht hq).1).1 | exact (rd_yes (rdOk_yes ht hq).1).2.1 | exact (rd_yes (rdOk_yes ht hq).1).2.2.1 | exact (rd_yes (rdOk_yes ht hq).1).2.2.2 | exact (rdOk_yes ht hq).2.symm))
  ·
   refine wp_skip ?_
   refine pop_then ?_
   refine hS.regS [100, 0, 0] [4] fun _ => seg [(5, vi 0)] [(0, some ((ν1 0), .cells [vi at_, vi (IntKind.wrap .i64 (rdN m at_ 1)), vu (rdN m at_ 2), vi (IntKind.wrap .i64 (rdN m at_ 3))] 78))] [.e (ν1 0), .e (ν1 0), .e (ν1 0), .e (ν1 0), .e (ν5 0), .e (ν5 0), .e (ν5 0), .e (ν5 0)] trivial fun ac wd hS => ?_
   refine wp_ret ?_
   refine St.retC 0 hS (.tuple #[.agg #[vi at_, vi (IntKind.wrap .i64 (rdN m at_ 1)), vu (rdN m at_ 2), vi (IntKind.wrap .i64 (rdN m at_ 3))], vi 0]) [.e (ν1 0), .e (ν1 0), .e (ν1 0), .e (ν1 0)] trivial fun hw => ?_
   refine ⟨retd (tuple2 (agg4 (vint ?_) (vint ?_) (vint ?_) (vint ?_)) (vint ?_)), hw.fr0⟩
   all_goals (first | rfl | (have hq : badR m at_ = true := by (unfold badR; simp_all)); (first | first | exact (rd_no (rdOk_no2 ht hq).1).1 | exact (rd_no (rdOk_no2 ht hq).1).2.1 | exact (rd_no (rdOk_no2 ht hq).1).2.2.1 | exact (rd_no (rdOk_no2 ht hq).1).2.2.2 | exact (rdOk_no2 ht hq).2.symm) | (have hq : badR m at_ = false := by (unfold badR; simp_all)); (first | first | exact (rd_yes (rdOk_yes ht hq).1).1 | exact (rd_yes (rdOk_yes ht hq).1).2.1 | exact (rd_yes (rdOk_yes ht hq).1).2.2.1 | exact (rd_yes (rdOk_yes ht hq).1).2.2.2 | exact (rdOk_yes ht hq).2.symm))

set_option maxRecDepth 100000 in
set_option maxHeartbeats 1000000 in
theorem chunk_Read_no (b : Nat) (F : Nat → Prop) (m : AM) (at_ : Int) (w : World) (hr : (arR b F m).R w) (ht : thr m at_ 32 = false) :
    Calls Tryd.prog 46 #[pt b 0, vi at_] w fun e w' => e = .returned (.tuple #[.agg #[vi (rdAt m at_), vi (rdOrd m at_), vu (rdOwn m at_), vi (rdNx m at_)], vi (rdE m at_)]) ∧ Fr w w' no no := by
 refine enter (args := [pt b 0, vi at_]) (D := no) (A := []) Tryd.func46 rfl 62 rfl [] (WS.startL trivial) fun ac hS => ?_
 refine hS.regS [0, 0] [0, 1] fun ν1 => seg [(4, pt (ν1 0) 0)] [(0, some ((ν1 0), .cells [vi 0, vi 0, vu 0, vi 0] 78))] [] trivial fun ac wd hS => ?_
 refine wp_region_seq ?_
 refine hS.opsC 2 [0, 0] [1, 4] fun _ => seg [(12, pt b 0), (13, vi at_)] [(0, none)] [] trivial fun ac wd hS => ?_
 refine hS.call0 28 #[pt b 0, vi at_, vi 32] 14 (vw_Of_no b F m at_ 32 _ (Res.keep hr hS.mem.fr) (by unfold chkE; rw [ht]; decide)) fun ac wd hS => ?_
 refine hS.opsC 6 [0, 0, 0, 0, 100, 0] [1, 4] fun ν3 => seg [(6, pt (ν3 0) 0), (7, vi (chkE m at_ 32))] [(0, none), (1, some ((ν3 0), .cells [pnil, vi 0, vi 0] 25))] [.e (ν3 0), .e (ν3 0), .e (ν3 0)] trivial fun ac wd hS => ?_
 refine list_nil_seq ?_
 refine wp_seq ?_
 refine hS.regS [0, 0] [1, 4, 6, 7] fun _ => seg [(18, vb (((chkE m at_ 32) : Int) != 0))] [(0, none), (1, none)] [] trivial fun ac wd hS => ?_
 refine hS.condK (((chkE m at_ 32) : Int) != 0) true (by unfold chkE; rw [ht]; rfl) ?_
 show Code.wp _ _ _ _ _
 refine hS.regS [0, 0, 0, 0] [4] fun _ => seg [(5, vi (chkE m at_ 32))] [(0, none)] [.e (ν1 0), .e (ν1 0), .e (ν1 0), .e (ν1 0)] trivial fun ac wd hS => ?_
 refine wp_ret ?_
 refine pop_then_ret ?_
 refine St.retC 0 hS (.tuple #[.agg #[vi 0, vi 0, vu 0, vi 0], vi (chkE m at_ 32)]) [.e (ν1 0), .e (ν1 0), .e (ν1 0), .e (ν1 0)] trivial fun hw => ?_
 refine ⟨retd (tuple2 (agg4 (vint ?_) (vint ?_) (vint ?_) (vint ?_)) (vint ?_)), hw.fr0⟩
 all_goals (first | rfl | first | exact (rd_no (rdOk_no1 ht).1).1 | exact (rd_no (rdOk_no1 ht).1).2.1 | exact (rd_no (rdOk_no1 ht).1).2.2.1 | exact (rd_no (rdOk_no1 ht).1).2.2.2 | (rw [(rdOk_no1 ht).2]; unfold chkE; rw [ht]; rfl))

theorem chunk_Read (b : Nat) (F : Nat → Prop) (m : AM) (at_ : Int) (w : World) (hr : (arR b F m).R w) :
    Calls Tryd.prog 46 #[pt b 0, vi at_] w fun e w' => e = .returned (.tuple #[.agg #[vi (rdAt m at_), vi (rdOrd m at_), vu (rdOwn m at_), vi (rdNx m at_)], vi (rdE m at_)]) ∧ Fr w w' no no := by
 cases ht : thr m at_ 32 with
 | true => exact chunk_Read_ok b F m at_ w hr ht
 | false => exact chunk_Read_no b F m at_ w hr ht

theorem chunk_Read_v (b : Nat) (F : Nat → Prop) (m : AM) (at_ : Int) (ra : Int) (ro : Int) (rw_ : Int) (rn : Int) (re : Int) (w : World) (hr : (arR b F m).R w) (hv : ((rdAt m at_ = ra ∧ rdOrd m at_ = ro) ∧ (rdOwn m at_ = rw_ ∧ rdNx m at_ = rn)) ∧ rdE m at_ = re) :
    Calls Tryd.prog 46 #[pt b 0, vi at_] w fun e w' => e = .returned (.tuple #[.agg #[vi ra, vi ro, vu rw_, vi rn], vi re]) ∧ Fr w w' no no := by
 obtain ⟨⟨⟨rfl, rfl⟩, rfl, rfl⟩, rfl⟩ := hv
 exact chunk_Read b F m at_ w hr

set_option maxRecDepth 100000 in
set_option maxHeartbeats 1000000 in
theorem chunk_Read_nil (at_ : Int) (w : World) :
    Calls Tryd.prog 46 #[pnil, vi at_] w fun e w' => e = .returned (.tuple #[.agg #[vi 0, vi 0, vu 0, vi 0], vi 1]) ∧ Fr w w' no no := by
 refine enter (args := [pnil, vi at_]) (D := no) (A := []) Tryd.func46 rfl 62 rfl [] (WS.startL trivial) fun ac hS => ?_
 refine hS.regS [0, 0] [0, 1] fun ν1 => seg [(4, pt (ν1 0) 0)] [(0, some ((ν1 0), .cells [vi 0, vi 0, vu 0, vi 0] 78))] [] trivial fun ac wd hS => ?_
 refine wp_region_seq ?_
 refine hS.opsC 2 [0, 0] [1, 4] fun _ => seg [(12, pnil), (13, vi at_)] [(0, none)] [] trivial fun ac wd hS => ?_
 refine hS.call0 28 #[pnil, vi at_, vi 32] 14 (vnil_Of at_ 32 _  ) fun ac wd hS => ?_
 refine hS.opsC 6 [0, 0, 0, 0, 100, 0] [1, 4] fun ν3 => seg [(6, pt (ν3 0) 0), (7, vi 1)] [(0, none), (1, some ((ν3 0), .cells [pnil, vi 0, vi 0] 25))] [.e (ν3 0), .e (ν3 0), .e (ν3 0)] trivial fun ac wd hS => ?_
 refine list_nil_seq ?_
 refine wp_seq ?_
 refine hS.regS [0, 0] [1, 4, 6, 7] fun _ => seg [(18, vb true)] [(0, none), (1, none)] [] trivial fun ac wd hS => ?_
 refine hS.condT ?_
 refine hS.regS [0, 0, 0, 0] [4] fun _ => seg [(5, vi 1)] [(0, none)] [.e (ν1 0), .e (ν1 0), .e (ν1 0), .e (ν1 0)] trivial fun ac wd hS => ?_
 refine wp_ret ?_
 refine pop_then_ret ?_
 refine St.retC 0 hS (.tuple #[.agg #[vi 0, vi 0, vu 0, vi 0], vi 1]) [.e (ν1 0), .e (ν1 0), .e (ν1 0), .e (ν1 0)] trivial fun hw => ?_
 refine ⟨retd rfl, hw.fr0⟩

set_option maxRecDepth 100000 in
set_option maxHeartbeats 1000000 in
theorem law10_awake (w : World) (hh0 : HE.holds w 1 (.fn 0 64 dbT)) :
    Calls Tryd.prog 40 #[] w fun e w' => e = .returned (vb true) ∧ Fr w w' no no := by
 refine enter (args := []) (D := no) (A := []) Tryd.func40 rfl 51 rfl [(1, .fn 0 64 dbT)] (WS.startL ⟨⟨rfl, hh0⟩, trivial⟩) fun ac hS => ?_
 refine hS.regS [0] [] fun _ => seg [] [(0, none)] [] trivial fun ac wd hS => ?_
 refine wp_region_seq ?_
 refine hS.callC 32 #[vi 2] (ar_New 2 _  ) ?_
 rintro _ wd ⟨b'1, F2, rfl, hN, hF⟩
 refine ⟨pt b'1 0, rfl, ?_⟩
 replace hS := (hS.to (hS.mem.newA hN hF)).put (d := 7) (v := pt b'1 0) (by decide)
 clear hF
 refine hS.opsC 1 [0] [] fun _ => seg [(1, pt b'1 0)] [(0, none)] [] trivial fun ac wd hS => ?_
 refine list_nil_seq ?_
 refine wp_region_seq ?_
 refine hS.opsC 1 [0] [1] fun _ => seg [(8, pt b'1 0)] [(0, none)] [] trivial fun ac wd hS => ?_
 refine hS.callC 33 #[pt b'1 0, vi 1, vi 1] (ar_Commit b'1 F2 (AM.new 2) 1 1 _ (hS.mem.res 0) ) ?_
 rintro _ wd ⟨F3, rfl, hA, hF⟩
 refine ⟨vi (comE (AM.new 2) 1 1), rfl, ?_⟩
 replace hS := (hS.to (hS.mem.stepA 0 rfl hA hF)).put (d := 9) (v := vi (comE (AM.new 2) 1 1)) (by decide)
 clear hF
 refine hS.opsC 1 [0] [1] fun _ => seg [(2, vi (comE (AM.new 2) 1 1))] [(0, none)] [] trivial fun ac wd hS => ?_
 refine list_nil_seq ?_
 refine hS.regS [0, 0, 100] [1, 2] fun ν5 => seg [(3, pt (ν5 0) 0)] [(0, none), (1, some ((ν5 0), .cells [vi 4096, vi 1, vu 7, vi 0] 78))] [.e (ν5 0), .e (ν5 0), .e (ν5 0), .e (ν5 0)] trivial fun ac wd hS => ?_
 refine wp_region_seq ?_
 refine hS.opsC 2 [0, 100] [1, 2, 3] fun _ => seg [(11, pt b'1 0), (12, .agg #[vi 4096, vi 1, vu 7, vi 0])] [(0, none), (1, none)] [.e (ν5 0), .e (ν5 0), .e (ν5 0), .e (ν5 0)] trivial fun ac wd hS => ?_
 refine hS.callC 44 #[pt b'1 0, .agg #[vi 4096, vi 1, vu 7, vi 0]] (chunk_Write b'1 F3 (comM (AM.new 2) 1 1) 4096 1 7 0 _ (hS.mem.res 0) (by decide)) ?_
 rintro _ wd ⟨F4, rfl, hA, hF⟩
 refine ⟨vi (wrcE (comM (AM.new 2) 1 1) 4096 1 7 0), rfl, ?_⟩
 replace hS := (hS.to (hS.mem.stepA 0 rfl hA hF)).put (d := 13) (v := vi (wrcE (comM (AM.new 2) 1 1) 4096 1 7 0)) (by decide)
 clear hF
 refine hS.opsC 1 [0] [1, 2, 3] fun _ => seg [(4, vi (wrcE (comM (AM.new 2) 1 1) 4096 1 7 0))] [(0, none), (1, none)] [] trivial fun ac wd hS => ?_
 refine list_nil_seq ?_
 refine wp_region_seq ?_
 refine hS.opsC 1 [0] [2, 3, 4] fun _ => seg [(15, pt b'1 0)] [(0, none), (1, none)] [] trivial fun ac wd hS => ?_
 refine hS.call0 46 #[pt b'1 0, vi 4096] 16 (chunk_Read_v b'1 F4 (wrcM (comM (AM.new 2) 1 1) 4096 1 7 0) 4096 4096 1 7 0 0 _ (hS.mem.res 0) (by decide +kernel)) fun ac wd hS => ?_
 refine hS.opsC 6 [0, 0, 0, 0, 200, 0] [2, 3, 4] fun ν9 => seg [(5, pt (ν9 0) 0), (6, vi 0)] [(0, none), (1, none), (2, some ((ν9 0), .cells [vi 4096, vi 1, vu 7, vi 0] 78))] [.e (ν9 0), .e (ν9 0), .e (ν9 0), .e (ν9 0)] trivial fun ac wd hS => ?_
 refine list_nil_seq ?_
 refine wp_region_seq ?_
 refine hS.call0 129 #[] 19 (law05_Awake  _ (hS.mem.get 0 1 (.fn 0 64 dbT)) ) fun ac wd hS => ?_
 refine hS.opsC 18 [0, 1, 1, 70, 0, 3, 3, 80, 0, 3, 3, 80, 0, 103, 203, 3, 80, 0] [3] fun _ => seg [(37, vb ((((((comE (AM.new 2) 1 1) : Int) == 0) && (((wrcE (comM (AM.new 2) 1 1) 4096 1 7 0) : Int) == 0)) && ((0 : Int) == 0)) && true))] [(0, none), (1, none)] [.p ((((((((comE (AM.new 2) 1 1) : Int) == 0) && (((wrcE (comM (AM.new 2) 1 1) 4096 1 7 0) : Int) == 0)) && ((0 : Int) == 0)) = true) ∧ True) → AllP [((ν9 0) : Nat) = (ν9 0), ((ν9 0) : Nat) = (ν9 0), ((ν9 0) : Nat) = (ν9 0), ((ν9 0) : Nat) = (ν9 0)]), .p ((((((((comE (AM.new 2) 1 1) : Int) == 0) && (((wrcE (comM (AM.new 2) 1 1) 4096 1 7 0) : Int) == 0)) && ((0 : Int) == 0)) = true) ∧ True) → AllP [((ν5 0) : Nat) = (ν5 0), ((ν5 0) : Nat) = (ν5 0), ((ν5 0) : Nat) = (ν5 0), ((ν5 0) : Nat) = (ν5 0)]), .t true, .t true, .t true] ⟨(fun ⟨hc0, _⟩ => by replace hc0 := nrm hc0; exact ⟨rfl, rfl, rfl, rfl, trivial⟩), (fun ⟨hc0, _⟩ => by replace hc0 := nrm hc0; exact ⟨rfl, rfl, rfl, rfl, trivial⟩), trivial⟩ fun ac wd hS => ?_
 have hg5o : ((((((comE (AM.new 2) 1 1) : Int) == 0) && (((wrcE (comM (AM.new 2) 1 1) 4096 1 7 0) : Int) == 0)) && ((0 : Int) == 0)) && true) = true := by decide +kernel
 replace hS := hS.fix 37 (vb true) (congrArg Value.bool hg5o)
 refine hS.opsC 1 [101] [3, 37] fun _ => seg [(38, .agg #[vi 4096, vi 1, vu 7, vi 0])] [(0, none), (1, none)] [.t true, .e (ν5 0), .e (ν5 0), .e (ν5 0), .e (ν5 0)] trivial fun ac wd hS => ?_
 refine hS.callG true 130 #[.agg #[vi 4096, vi 1, vu 7, vi 0]] (chunk_End 4096 1 7 0 _  (by decide)) ?_
 rintro _ wd ⟨rfl, hF⟩
 refine ⟨vi (4096 + (spanV 1)), rfl, ?_⟩
 replace hS := (hS.to (hS.mem.keep0 hF)).put (d := 39) (v := vi (4096 + (spanV 1))) (by decide)
 clear hF
 refine hS.opsC 3 [1, 70, 0] [3] fun _ => seg [(42, vb (((4096 + (spanV 1)) : Int) == 12288))] [(0, none), (1, none)] [.t true, .t true] trivial fun ac wd hS => ?_
 have hg6o : (((4096 + (spanV 1)) : Int) == 12288) = true := by decide +kernel
 replace hS := hS.fix 42 (vb true) (congrArg Value.bool hg6o)
 refine hS.opsC 1 [101] [3, 42] fun _ => seg [(43, .agg #[vi 4096, vi 1, vu 7, vi 0])] [(0, none), (1, none)] [.t true, .e (ν5 0), .e (ν5 0), .e (ν5 0), .e (ν5 0)] trivial fun ac wd hS => ?_
 refine hS.callG true 131 #[.agg #[vi 4096, vi 1, vu 7, vi 0], vi 4128, vi 8160] (chunk_Has 4096 1 7 0 4128 8160 _  (by decide)) ?_
 rintro _ wd ⟨rfl, hF⟩
 refine ⟨vb (cHas 4096 1 4128 8160), rfl, ?_⟩
 replace hS := (hS.to (hS.mem.keep0 hF)).put (d := 44) (v := vb (cHas 4096 1 4128 8160)) (by decide)
 clear hF
 refine hS.opsC 2 [70, 0] [3] fun _ => seg [(46, vb (cHas 4096 1 4128 8160))] [(0, none), (1, none)] [.t true] trivial fun ac wd hS => ?_
 have hg7o : (cHas 4096 1 4128 8160) = true := by decide +kernel
 replace hS := hS.fix 46 (vb true) (congrArg Value.bool hg7o)
 refine hS.opsC 1 [101] [46] fun _ => seg [(47, .agg #[vi 4096, vi 1, vu 7, vi 0])] [(0, none)] [.t true, .e (ν5 0), .e (ν5 0), .e (ν5 0), .e (ν5 0)] trivial fun ac wd hS => ?_
 refine hS.callG true 131 #[.agg #[vi 4096, vi 1, vu 7, vi 0], vi 4127, vi 1] (chunk_Has 4096 1 7 0 4127 1 _  (by decide)) ?_
 rintro _ wd ⟨rfl, hF⟩
 refine ⟨vb (cHas 4096 1 4127 1), rfl, ?_⟩
 replace hS := (hS.to (hS.mem.keep0 hF)).put (d := 48) (v := vb (cHas 4096 1 4127 1)) (by decide)
 clear hF
 refine hS.opsC 3 [1, 70, 0] [] fun _ => seg [(0, vb (!(cHas 4096 1 4127 1)))] [(0, none)] [.t true, .t true] trivial fun ac wd hS => ?_
 refine list_nil_seq ?_
 refine wp_ret ?_
 refine St.retC 0 hS (vb (!(cHas 4096 1 4127 1))) [] trivial fun hw => ?_
 refine ⟨retd (vbool ?_), hw.fr0⟩
 all_goals (first | rfl | decide +kernel)

end Go.Proofs.YtindbpffbjhfaaaDoor.K
