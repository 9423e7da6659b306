/-
  Walks, printed by w2.py.
-/
import Derived.Test.YtindbpffbjhfaaaDoorTb
import Derived.Test.YtindbpffbjhfaaaDoorJc
import Derived.Test.YtindbpffbjhfaaaDoorUa
import Derived.Test.YtindbpffbjhfaaaDoorProg
namespace Go.Proofs.YtindbpffbjhfaaaDoor.K
set_option linter.unusedVariables false
set_option linter.unusedSimpArgs false

set_option maxRecDepth 100000 in
set_option maxHeartbeats 1000000 in
theorem r10_Without (ao1 : Option Addr) (c1 : Nat) (g1 : Nat) (o1 : Nat) (l : List (Int × Int × Int × Int)) (a : Int) (w : World) (hh0 : HE.holds w g1 (.fn o1 (o1 + l.length * 4) (chV (gtD l) o1))) (hv1 : (l.length = 0 ∨ ao1 = some ⟨g1, o1, none⟩)) (hl : l.length ≤ 4294967200) :
    Calls Tryd.prog 43 #[.slice ao1 l.length c1, vi a] w fun e w' => ∃ (ao2 : Option Addr) (c2 : Nat) (F' : Nat → Prop), e = .returned (.slice ao2 ((cWo l a).length) c2) ∧ (grR 82 4 (.slice ao2 ((cWo l a).length) c2) F' ((cWo l a).length, (chV (gtD (cWo l a)) 0))).R w' ∧ Fr w w' no F' := by
 refine enter (args := [.slice ao1 l.length c1, vi a]) (D := no) (A := []) Tryd.func43 rfl 24 rfl [(g1, .fn o1 (o1 + l.length * 4) (chV (gtD l) o1))] (WS.startL ⟨⟨rfl, hh0⟩, trivial⟩) fun ac hS => ?_
 refine hS.regS [0] [0, 1] fun _ => seg [] [(0, none)] [] trivial fun ac wd hS => ?_
 refine hS.regS [0] [0, 1] fun _ => seg [(5, vnil)] [(0, none)] [] trivial fun ac wd hS => ?_
 refine wp_seq ?_
 replace hS := hS.to (hS.mem.grNew 82 4 (chV (gtD ([] : List (Int × Int × Int × Int))) 0))
 refine hS.regS [0, 0, 0] [1, 5] fun _ => seg [(8, .slice ao1 l.length c1), (9, vi ((l.length : Nat) : Int)), (10, vi 0)] [(0, none)] [] trivial fun ac wd hS => ?_
 refine wp_block ?_
 refine St.loopC (σ := Int × Option Addr × Nat × (Nat → Prop) × (List (Int × Int × Int × Int))) (fun (x : Int × Option Addr × Nat × (Nat → Prop) × (List (Int × Int × Int × Int))) => match x with | (x10, aoq, cq, Fq, lq) => ⟨[(1, [], vi a), (5, [], .slice aoq lq.length cq), (8, [], .slice ao1 l.length c1), (9, [], vi ((l.length : Nat) : Int)), (10, [], vi x10)], [(g1, .fn o1 (o1 + l.length * 4) (chV (gtD l) o1))], [grR 82 4 (.slice aoq lq.length cq) Fq (lq.length, (chV (gtD lq) 0))], (0 ≤ x10 ∧ x10 ≤ (l.length : Int)) ∧ (lq = (l.take (Int.toNat x10)).filter (cAt a)) ∧ True, l.length - Int.toNat x10⟩) (0, none, 0, no, ([] : List (Int × Int × Int × Int))) ⟨(by first | omega | rfl), (by first | omega | rfl), trivial⟩ hS ?_
 clear hS
 rintro ⟨x10, aoq, cq, Fq, lq⟩ ⟨i0, i1, -⟩ ac wd hS
 replace i0 : 0 ≤ x10 ∧ x10 ≤ (l.length : Int) := i0
 replace i1 : lq = (l.take (Int.toNat x10)).filter (cAt a) := i1
 refine hS.regS [0] [1, 5, 8, 9, 10] fun _ => seg [(11, vb (decide ((x10 : Int) < ((l.length : Nat) : Int))))] [(0, none)] [] trivial fun ac wd hS => ?_
 refine wp_seq ?_
 refine hS.condC (decide ((x10 : Int) < ((l.length : Nat) : Int))) (fun hb1o hb1 => ?_) (fun hb1o hb1 => ?_)
 ·
  refine wp_skip ?_
  refine pop_then ?_
  refine wp_seq ?_
  refine wp_block ?_
  obtain rfl : ao1 = some ⟨g1, o1, none⟩ := Or.resolve_left hv1 (by omega)
  refine hS.regS [20, fx 0 (.agg #[vi (((gtD l) (Int.toNat x10)).1), vi (((gtD l) (Int.toNat x10)).2.1), vu (((gtD l) (Int.toNat x10)).2.2.1), vi (((gtD l) (Int.toNat x10)).2.2.2)]), 0, 100] [1, 5, 8, 9, 10] fun ν5 => seg [(7, pt (ν5 0) 0)] [(0, none), (1, some ((ν5 0), .cells [vi (((gtD l) (Int.toNat x10)).1), vi (((gtD l) (Int.toNat x10)).2.1), vu (((gtD l) (Int.toNat x10)).2.2.1), vi (((gtD l) (Int.toNat x10)).2.2.2)] 82))] [.e (ν5 0), .e (ν5 0), .e (ν5 0), .e (ν5 0), .p ((.agg #[((chV (gtD l) o1) (o1 + Int.toNat x10 * 4)), ((chV (gtD l) o1) (o1 + Int.toNat x10 * 4 + 1)), ((chV (gtD l) o1) (o1 + Int.toNat x10 * 4 + 2)), ((chV (gtD l) o1) (o1 + Int.toNat x10 * 4 + 3))] : Value) = .agg #[vi (((gtD l) (Int.toNat x10)).1), vi (((gtD l) (Int.toNat x10)).2.1), vu (((gtD l) (Int.toNat x10)).2.2.1), vi (((gtD l) (Int.toNat x10)).2.2.2)]), .e g1, .p (o1 ≤ o1 + Int.toNat x10 * 4 + 3 ∧ o1 + Int.toNat x10 * 4 + 3 < (o1 + l.length * 4)), .e g1, .p (o1 ≤ o1 + Int.toNat x10 * 4 + 2 ∧ o1 + Int.toNat x10 * 4 + 2 < (o1 + l.length * 4)), .e g1, .p (o1 ≤ o1 + Int.toNat x10 * 4 + 1 ∧ o1 + Int.toNat x10 * 4 + 1 < (o1 + l.length * 4)), .e g1, .p (o1 ≤ o1 + Int.toNat x10 * 4 ∧ o1 + Int.toNat x10 * 4 < (o1 + l.length * 4)), .p ((0 : Int) ≤ x10 ∧ (x10 : Int) < ((l.length : Nat) : Int))] ⟨(agg4 (chV_0 (gtD l) o1 (Int.toNat x10)) (chV_1 (gtD l) o1 (Int.toNat x10)) (chV_2 (gtD l) o1 (Int.toNat x10)) (chV_3 (gtD l) o1 (Int.toNat x10))), (by omega), (by omega), (by omega), (by omega), (by omega), trivial⟩ fun ac wd hS => ?_
  refine hS.regS [0, 100, 0, 0] [1, 5, 7, 8, 9, 10] fun _ => seg [(17, vb ((((gtD l) (Int.toNat x10)).1 : Int) != a))] [(0, none), (1, none)] [.e (ν5 0)] trivial fun ac wd hS => ?_
  refine hS.condC ((((gtD l) (Int.toNat x10)).1 : Int) != a) (fun hb2o hb2 => ?_) (fun hb2o hb2 => ?_)
  ·
   have hn : cAt a (gtD l (Int.toNat x10)) = true := hb2o
   refine wp_region_lit ?_
   refine hS.opsC 3 [0, 100, 0] [1, 5, 8, 9, 10] fun ν7 => seg [(18, .slice aoq lq.length cq), (20, sc (ν7 0) 0 1 1)] [(0, none), (2, some ((ν7 0), .cells [vi (((gtD l) (Int.toNat x10)).1), vi (((gtD l) (Int.toNat x10)).2.1), vu (((gtD l) (Int.toNat x10)).2.2.1), vi (((gtD l) (Int.toNat x10)).2.2.2)] 82))] [.e (ν5 0), .e (ν5 0), .e (ν5 0), .e (ν5 0)] trivial fun ac wd hS => ?_
   obtain ⟨i_, hi_, hz_, hs_, hb_⟩ := info_get (P := Tryd.prog) (e := 82) (z := .agg #[vi 0, vi 0, vu 0, vi 0]) (s := 4) (b := 32) (by kernel_rfl)
   refine Runs1.list ?_
   refine St.appV (m := lq.length) (f := (chV (gtD lq) 0)) (news := [vi (((gtD l) (Int.toNat x10)).1), vi (((gtD l) (Int.toNat x10)).2.1), vu (((gtD l) (Int.toNat x10)).2.2.1), vi (((gtD l) (Int.toNat x10)).2.2.2)]) (bx := (ν7 0)) (cx := 1) (Tx := 82) 0 hS (.tmp 18) (.tmp 20) 75 rfl rfl (by decide) Tryd.underlying75 hi_ hz_ hs_ (by omega) rfl (by decide) 1 rfl rfl (by (have := List.length_filter_le (cAt a) (l.take (Int.toNat x10)); rw [← i1] at this; simp at this; omega)) fun ac wd v2_ F5 hB6 hS => ?_
   obtain ⟨xo3, xc4, rfl⟩ := hB6.slice
   replace hS := hS.to (hS.mem.grTell (m := (lq.length + 1)) 0 (chV (gtD (lq ++ [(((gtD l) (Int.toNat x10)).1, ((gtD l) (Int.toNat x10)).2.1, ((gtD l) (Int.toNat x10)).2.2.1, ((gtD l) (Int.toNat x10)).2.2.2)])) 0) (chV_app lq (((gtD l) (Int.toNat x10)).1) (((gtD l) (Int.toNat x10)).2.1) (((gtD l) (Int.toNat x10)).2.2.1) (((gtD l) (Int.toNat x10)).2.2.2)))
   have hm_ : lq.length + 1 = ((lq ++ [(((gtD l) (Int.toNat x10)).1, ((gtD l) (Int.toNat x10)).2.1, ((gtD l) (Int.toNat x10)).2.2.1, ((gtD l) (Int.toNat x10)).2.2.2)])).length := by simp
   replace hS := hS.to (hS.mem.grRe (v := .slice xo3 (lq.length + 1) xc4) (v' := .slice xo3 (((lq ++ [(((gtD l) (Int.toNat x10)).1, ((gtD l) (Int.toNat x10)).2.1, ((gtD l) (Int.toNat x10)).2.2.1, ((gtD l) (Int.toNat x10)).2.2.2)])).length) xc4) (m := (lq.length + 1)) (m' := ((lq ++ [(((gtD l) (Int.toNat x10)).1, ((gtD l) (Int.toNat x10)).2.1, ((gtD l) (Int.toNat x10)).2.2.1, ((gtD l) (Int.toNat x10)).2.2.2)])).length) (f := (chV (gtD (lq ++ [(((gtD l) (Int.toNat x10)).1, ((gtD l) (Int.toNat x10)).2.1, ((gtD l) (Int.toNat x10)).2.2.1, ((gtD l) (Int.toNat x10)).2.2.2)])) 0)) 0 (by rw [hm_]) hm_)
   replace hS := hS.fix 21 (.slice xo3 (((lq ++ [(((gtD l) (Int.toNat x10)).1, ((gtD l) (Int.toNat x10)).2.1, ((gtD l) (Int.toNat x10)).2.2.1, ((gtD l) (Int.toNat x10)).2.2.2)])).length) xc4) (show (.slice xo3 (lq.length + 1) xc4 : Value) = .slice xo3 (((lq ++ [(((gtD l) (Int.toNat x10)).1, ((gtD l) (Int.toNat x10)).2.1, ((gtD l) (Int.toNat x10)).2.2.1, ((gtD l) (Int.toNat x10)).2.2.2)])).length) xc4 by rw [hm_])
   refine hS.opsC 1 [0] [1, 8, 9, 10] fun _ => seg [(5, .slice xo3 (((lq ++ [(((gtD l) (Int.toNat x10)).1, ((gtD l) (Int.toNat x10)).2.1, ((gtD l) (Int.toNat x10)).2.2.1, ((gtD l) (Int.toNat x10)).2.2.2)])).length) xc4)] [(0, none)] [] trivial fun ac wd hS => ?_
   refine list_nil ?_
   refine pop_block ?_
   refine pop_then ?_
   refine hS.regC [20, 0] [1, 5, 8, 9] fun _ => seg [(10, vi (x10 + 1))] [(0, none)] [.p (fit .i64 (x10 + 1))] ⟨fit_i64 (by omega), trivial⟩ fun ac wd hS => ?_
   exact pop_then (hS.next ((x10 + 1), xo3, xc4, F5, (lq ++ [(((gtD l) (Int.toNat x10)).1, ((gtD l) (Int.toNat x10)).2.1, ((gtD l) (Int.toNat x10)).2.2.1, ((gtD l) (Int.toNat x10)).2.2.2)])) ⟨(by first | omega | assumption | (simp; done) | (simp; omega)), (by first | exact flt_yes i1 i0.1 (by omega) hn | exact flt_no i1 i0.1 (by omega) hn), trivial⟩ (by dsimp only; omega))
  ·
   have hn : cAt a (gtD l (Int.toNat x10)) = false := hb2o
   refine wp_skip ?_
   refine pop_block ?_
   refine pop_then ?_
   refine hS.regC [20, 0] [1, 5, 8, 9] fun _ => seg [(10, vi (x10 + 1))] [(0, none)] [.p (fit .i64 (x10 + 1))] ⟨fit_i64 (by omega), trivial⟩ fun ac wd hS => ?_
   exact pop_then (hS.next ((x10 + 1), aoq, cq, Fq, lq) ⟨(by first | omega | assumption | (simp; done) | (simp; omega)), (by first | exact flt_yes i1 i0.1 (by omega) hn | exact flt_no i1 i0.1 (by omega) hn), trivial⟩ (by dsimp only; omega))
 ·
  refine wp_exit ?_
  refine pop_then_exit ?_
  refine pop_then_exit ?_
  refine pop_block_hit ?_
  refine pop_then ?_
  refine hS.regS [0, 0] [] fun _ => seg [(4, .slice aoq lq.length cq)] [] [] trivial fun ac wd hS => ?_
  refine wp_ret ?_
  have hq_ : (cWo l a) = lq := (show lq = (cWo l a) by rw [i1, List.take_of_length_le (by omega)]; rfl).symm
  subst hq_
  refine St.retC 0 hS (.slice aoq ((cWo l a).length) cq) [] trivial fun hw => ?_
  refine ⟨aoq, cq, Fq, retd rfl, (hw.res 0), hw.frA⟩

set_option maxRecDepth 100000 in
set_option maxHeartbeats 1000000 in
theorem r10_Read (g : Nat) (u : Nat) (n : Nat) (cp : Nat) (rf : Int) (ao1 : Option Addr) (c1 : Nat) (g1 : Nat) (o1 : Nat) (l : List (Int × Int × Int × Int)) (a : Int) (S : Nat → ByteArray) (M : AM) (w : World) (hh0 : HE.holds w g (.fn u (u + n) (strs S u))) (hh1 : HE.holds w g1 (.fn o1 (o1 + l.length * 4) (chV (gtD l) o1))) (hv1 : (l.length = 0 ∨ ao1 = some ⟨g1, o1, none⟩)) (hn : n ≤ 1048576) (hT : ∀ x y, thr (amS S n) x y = thr M x y) (hl : l.length ≤ 4294967200) :
    Calls Tryd.prog 42 #[.agg #[sc g u n cp, vi rf], .slice ao1 l.length c1, vi a] w fun e w' => e = .returned (.tuple #[.agg #[vi (((crV M l a)).1), vi (((crV M l a)).2.1), vu (((crV M l a)).2.2.1), vi (((crV M l a)).2.2.2)], vi (crE M l a)]) ∧ Fr w w' no no := by
 refine enter (args := [.agg #[sc g u n cp, vi rf], .slice ao1 l.length c1, vi a]) (D := no) (A := []) Tryd.func42 rfl 28 rfl [(g, .fn u (u + n) (strs S u)), (g1, .fn o1 (o1 + l.length * 4) (chV (gtD l) o1))] (WS.startL ⟨⟨rfl, hh0⟩, ⟨rfl, hh1⟩, trivial⟩) fun ac hS => ?_
 refine hS.regS [0, 0, 0] [1, 2] fun ν1 => seg [(3, pt (ν1 0) 0), (6, pt (ν1 1) 0)] [(0, none), (1, none), (2, some ((ν1 0), .cells [sc g u n cp, vi rf] 66)), (3, some ((ν1 1), .cells [vi 0, vi 0, vu 0, vi 0] 82))] [] trivial fun ac wd hS => ?_
 refine wp_seq ?_
 refine wp_region_seq ?_
 refine hS.opsC 2 [200, 0] [1, 2, 6] fun _ => seg [(10, .agg #[sc g u n cp, vi rf]), (11, vi a)] [(0, none), (1, none), (3, none)] [.e (ν1 0), .e (ν1 0)] trivial fun ac wd hS => ?_
 refine hS.call0 121 #[.agg #[sc g u n cp, vi rf], vi a, vi 32] 12 (ref03_There g u n cp rf a 32 S _ (hS.mem.get 0 g (.fn u (u + n) (strs S u))) (by first | assumption | omega | (simp_all; done) | (simp_all; omega))) fun ac wd hS => ?_
 refine hS.opsC 1 [0] [1, 2, 6] fun _ => seg [(13, vb (!(thr (amS S n) a 32)))] [(1, none), (2, none)] [] trivial fun ac wd hS => ?_
 refine list_nil_seq ?_
 refine hS.condC (!(thr (amS S n) a 32)) (fun hb1o hb1 => ?_) (fun hb1o hb1 => ?_)
 ·
  have hq : thr M a 32 = false := by rw [← hT]; simpa using hb1
  refine hS.regS [0, 100, 0] [6] fun _ => seg [(7, vi 3)] [(1, none)] [.e (ν1 1), .e (ν1 1), .e (ν1 1), .e (ν1 1)] trivial fun ac wd hS => ?_
  refine wp_ret ?_
  refine pop_then_ret ?_
  refine St.retC 0 hS (.tuple #[.agg #[vi 0, vi 0, vu 0, vi 0], vi 3]) [.e (ν1 1), .e (ν1 1), .e (ν1 1), .e (ν1 1)] trivial fun hw => ?_
  refine ⟨retd (tuple2 (agg4 (vint ?_) (vint ?_) (vint ?_) (vint ?_)) (vint ?_)), hw.fr0⟩
  all_goals (first | (rw [← (cr_1 hq).1]; done) | exact (cr_1 hq).2 | (have hx := fIx_none i1 (by omega); first | (rw [← (cr_2 hq hx).1]; done) | exact (cr_2 hq hx).2) | (have hx := fIx_at i1 i0.1 (by omega) hn9; first | (rw [← (cr_3 hq hx i0.1).1]; done) | exact (cr_3 hq hx i0.1).2))
 ·
  have hq : thr M a 32 = true := by rw [← hT]; simpa using hb1
  refine wp_skip ?_
  refine pop_then ?_
  refine wp_seq ?_
  refine hS.regS [0, 0, 0] [2, 6] fun _ => seg [(15, .slice ao1 l.length c1), (16, vi ((l.length : Nat) : Int)), (17, vi 0)] [(0, none), (1, none)] [] trivial fun ac wd hS => ?_
  refine wp_block ?_
  refine St.loopC (σ := Int) (fun (x17 : Int) => ⟨[(2, [], vi a), (6, [], pt (ν1 1) 0), (15, [], .slice ao1 l.length c1), (16, [], vi ((l.length : Nat) : Int)), (17, [], vi x17)], [(g1, .fn o1 (o1 + l.length * 4) (chV (gtD l) o1)), ((ν1 1), .cells [vi 0, vi 0, vu 0, vi 0] 82)], [], (0 ≤ x17 ∧ x17 ≤ (l.length : Int)) ∧ (NoUp (cIs2 l a) x17) ∧ True, l.length - Int.toNat x17⟩) 0 ⟨(by first | omega | exact noUp_zero _), (by first | omega | exact noUp_zero _), trivial⟩ hS ?_
  clear hS
  rintro x17 ⟨i0, i1, -⟩ ac wd hS
  replace i0 : 0 ≤ x17 ∧ x17 ≤ (l.length : Int) := i0
  replace i1 : NoUp (cIs2 l a) x17 := i1
  refine hS.regS [0] [2, 6, 15, 16, 17] fun _ => seg [(18, vb (decide ((x17 : Int) < ((l.length : Nat) : Int))))] [(0, none), (1, none)] [] trivial fun ac wd hS => ?_
  refine wp_seq ?_
  refine hS.condC (decide ((x17 : Int) < ((l.length : Nat) : Int))) (fun hb2o hb2 => ?_) (fun hb2o hb2 => ?_)
  ·
   refine wp_skip ?_
   refine pop_then ?_
   refine wp_seq ?_
   refine wp_block ?_
   obtain rfl : ao1 = some ⟨g1, o1, none⟩ := Or.resolve_left hv1 (by omega)
   refine hS.regS [20, fx 0 (.agg #[vi (((gtD l) (Int.toNat x17)).1), vi (((gtD l) (Int.toNat x17)).2.1), vu (((gtD l) (Int.toNat x17)).2.2.1), vi (((gtD l) (Int.toNat x17)).2.2.2)]), 0, 200] [2, 6, 15, 16, 17] fun ν7 => seg [(9, pt (ν7 0) 0)] [(0, none), (1, none), (2, some ((ν7 0), .cells [vi (((gtD l) (Int.toNat x17)).1), vi (((gtD l) (Int.toNat x17)).2.1), vu (((gtD l) (Int.toNat x17)).2.2.1), vi (((gtD l) (Int.toNat x17)).2.2.2)] 82))] [.e (ν7 0), .e (ν7 0), .e (ν7 0), .e (ν7 0), .p ((.agg #[((chV (gtD l) o1) (o1 + Int.toNat x17 * 4)), ((chV (gtD l) o1) (o1 + Int.toNat x17 * 4 + 1)), ((chV (gtD l) o1) (o1 + Int.toNat x17 * 4 + 2)), ((chV (gtD l) o1) (o1 + Int.toNat x17 * 4 + 3))] : Value) = .agg #[vi (((gtD l) (Int.toNat x17)).1), vi (((gtD l) (Int.toNat x17)).2.1), vu (((gtD l) (Int.toNat x17)).2.2.1), vi (((gtD l) (Int.toNat x17)).2.2.2)]), .e g1, .p (o1 ≤ o1 + Int.toNat x17 * 4 + 3 ∧ o1 + Int.toNat x17 * 4 + 3 < (o1 + l.length * 4)), .e g1, .p (o1 ≤ o1 + Int.toNat x17 * 4 + 2 ∧ o1 + Int.toNat x17 * 4 + 2 < (o1 + l.length * 4)), .e g1, .p (o1 ≤ o1 + Int.toNat x17 * 4 + 1 ∧ o1 + Int.toNat x17 * 4 + 1 < (o1 + l.length * 4)), .e g1, .p (o1 ≤ o1 + Int.toNat x17 * 4 ∧ o1 + Int.toNat x17 * 4 < (o1 + l.length * 4)), .p ((0 : Int) ≤ x17 ∧ (x17 : Int) < ((l.length : Nat) : Int))] ⟨(agg4 (chV_0 (gtD l) o1 (Int.toNat x17)) (chV_1 (gtD l) o1 (Int.toNat x17)) (chV_2 (gtD l) o1 (Int.toNat x17)) (chV_3 (gtD l) o1 (Int.toNat x17))), (by omega), (by omega), (by omega), (by omega), (by omega), trivial⟩ fun ac wd hS => ?_
   refine hS.regS [0, 200, 0, 0] [2, 6, 9, 15, 16, 17] fun _ => seg [(24, vb ((((gtD l) (Int.toNat x17)).1 : Int) == a))] [(0, none), (1, none), (2, none)] [.e (ν7 0)] trivial fun ac wd hS => ?_
   refine hS.condC ((((gtD l) (Int.toNat x17)).1 : Int) == a) (fun hb3o hb3 => ?_) (fun hb3o hb3 => ?_)
   ·
    have hn9 : cIs2 l a (Int.toNat x17) = true := hb3o
    refine hS.regS [200, 100, 0] [6] fun _ => seg [(7, vi 0)] [(1, some ((ν1 1), .cells [vi (((gtD l) (Int.toNat x17)).1), vi (((gtD l) (Int.toNat x17)).2.1), vu (((gtD l) (Int.toNat x17)).2.2.1), vi (((gtD l) (Int.toNat x17)).2.2.2)] 82))] [.e (ν1 1), .e (ν1 1), .e (ν1 1), .e (ν1 1), .e (ν7 0), .e (ν7 0), .e (ν7 0), .e (ν7 0)] trivial fun ac wd hS => ?_
    refine wp_ret ?_
    refine pop_block_ret ?_
    refine pop_then_ret ?_
    refine pop_then_ret ?_
    refine pop_block_ret ?_
    refine pop_then_ret ?_
    refine St.retC 0 hS (.tuple #[.agg #[vi (((gtD l) (Int.toNat x17)).1), vi (((gtD l) (Int.toNat x17)).2.1), vu (((gtD l) (Int.toNat x17)).2.2.1), vi (((gtD l) (Int.toNat x17)).2.2.2)], vi 0]) [.e (ν1 1), .e (ν1 1), .e (ν1 1), .e (ν1 1)] trivial fun hw => ?_
    refine ⟨retd (tuple2 (agg4 (vint ?_) (vint ?_) (vint ?_) (vint ?_)) (vint ?_)), hw.fr0⟩
    all_goals (first | (rw [← (cr_1 hq).1]; done) | exact (cr_1 hq).2 | (have hx := fIx_none i1 (by omega); first | (rw [← (cr_2 hq hx).1]; done) | exact (cr_2 hq hx).2) | (have hx := fIx_at i1 i0.1 (by omega) hn9; first | (rw [← (cr_3 hq hx i0.1).1]; done) | exact (cr_3 hq hx i0.1).2))
   ·
    have hn9 : cIs2 l a (Int.toNat x17) = false := hb3o
    refine wp_skip ?_
    refine pop_block ?_
    refine pop_then ?_
    refine hS.regC [20, 0] [2, 6, 15, 16] fun _ => seg [(17, vi (x17 + 1))] [(0, none), (1, none)] [.p (fit .i64 (x17 + 1))] ⟨fit_i64 (by omega), trivial⟩ fun ac wd hS => ?_
    exact pop_then (hS.next (x17 + 1) ⟨(by first | omega | assumption | (simp; done) | (simp; omega)), (by exact noUp_step i1 i0.1 hn9), trivial⟩ (by dsimp only; omega))
  ·
   refine wp_exit ?_
   refine pop_then_exit ?_
   refine pop_then_exit ?_
   refine pop_block_hit ?_
   refine pop_then ?_
   refine hS.regS [0, 100, 0] [6] fun _ => seg [(7, vi 7)] [(1, none)] [.e (ν1 1), .e (ν1 1), .e (ν1 1), .e (ν1 1)] trivial fun ac wd hS => ?_
   refine wp_ret ?_
   refine St.retC 0 hS (.tuple #[.agg #[vi 0, vi 0, vu 0, vi 0], vi 7]) [.e (ν1 1), .e (ν1 1), .e (ν1 1), .e (ν1 1)] trivial fun hw => ?_
   refine ⟨retd (tuple2 (agg4 (vint ?_) (vint ?_) (vint ?_) (vint ?_)) (vint ?_)), hw.fr0⟩
   all_goals (first | (rw [← (cr_1 hq).1]; done) | exact (cr_1 hq).2 | (have hx := fIx_none i1 (by omega); first | (rw [← (cr_2 hq hx).1]; done) | exact (cr_2 hq hx).2) | (have hx := fIx_at i1 i0.1 (by omega) hn9; first | (rw [← (cr_3 hq hx i0.1).1]; done) | exact (cr_3 hq hx i0.1).2))

set_option maxRecDepth 100000 in
set_option maxHeartbeats 1000000 in
theorem r10_Write (g : Nat) (u : Nat) (n : Nat) (cp : Nat) (rf : Int) (ao1 : Option Addr) (c1 : Nat) (g1 : Nat) (o1 : Nat) (l : List (Int × Int × Int × Int)) (a : Int) (ord : Int) (own : Int) (nx : Int) (S : Nat → ByteArray) (M : AM) (w : World) (hh0 : HE.holds w 1 (.fn 0 64 dbT)) (hh1 : HE.holds w g (.fn u (u + n) (strs S u))) (hh2 : HE.holds w g1 (.fn o1 (o1 + l.length * 4) (chV (gtD l) o1))) (hv1 : (l.length = 0 ∨ ao1 = some ⟨g1, o1, none⟩)) (hn : n ≤ 1048576) (hT : ∀ x y, thr (amS S n) x y = thr M x y) (hl : l.length ≤ 4294967100) :
    Calls Tryd.prog 45 #[.agg #[sc g u n cp, vi rf], .slice ao1 l.length c1, .agg #[vi a, vi ord, vu own, vi nx]] w fun e w' => ∃ (ao2 : Option Addr) (c2 : Nat) (g2 : Nat) (o2 : Nat), e = .returned (.tuple #[.slice ao2 ((cwH M l a ord own nx).length) c2, vi (cwE M a ord nx)]) ∧ ((cwH M l a ord own nx).length = 0 ∨ ao2 = some ⟨g2, o2, none⟩) ∧ (g2 = g1 ∨ g2 = 1 ∨ w.heap.size ≤ g2) ∧ HE.holds w' g2 (.fn o2 (o2 + (cwH M l a ord own nx).length * 4) (chV (gtD (cwH M l a ord own nx)) o2)) ∧ Fr w w' no no := by
 have hwl := cWo_len l a
 have hsp := spanV_bd ord
 refine enter (args := [.agg #[sc g u n cp, vi rf], .slice ao1 l.length c1, .agg #[vi a, vi ord, vu own, vi nx]]) (D := no) (A := []) Tryd.func45 rfl 42 rfl [(1, .fn 0 64 dbT), (g, .fn u (u + n) (strs S u)), (g1, .fn o1 (o1 + l.length * 4) (chV (gtD l) o1))] (WS.startL ⟨⟨rfl, hh0⟩, ⟨rfl, hh1⟩, ⟨rfl, hh2⟩, trivial⟩) fun ac hS => ?_
 refine hS.regS [0, 0, 0, 0] [1] fun ν1 => seg [(3, pt (ν1 0) 0), (5, pt (ν1 1) 0)] [(0, none), (1, none), (2, none), (3, some ((ν1 0), .cells [sc g u n cp, vi rf] 66)), (4, some ((ν1 1), .cells [vi a, vi ord, vu own, vi nx] 82))] [] trivial fun ac wd hS => ?_
 refine wp_seq ?_
 refine wp_region_seq ?_
 refine hS.opsC 15 [0, 400, 0, 0, 3, 403, 23, 3, 80, 0, 3, 403, 3, 80, 0] [1, 3, 5] fun _ => seg [(22, vb (((decide ((a : Int) < 0)) || (((a % 4096) : Int) != 0)) || (decide ((nx : Int) < 0))))] [(0, none), (1, none), (2, none), (3, none), (4, none)] [.p (((((decide ((a : Int) < 0)) || (((a % 4096) : Int) != 0)) = false) ∧ True) → AllP [((ν1 1) : Nat) = (ν1 1)]), .p ((((decide ((a : Int) < 0)) = false) ∧ True) → AllP [(4096 : Int) ≠ 0 ∧ Int.tmod a 4096 = a % 4096]), .p ((((decide ((a : Int) < 0)) = false) ∧ True) → AllP [((ν1 1) : Nat) = (ν1 1)]), .e (ν1 1)] ⟨(fun ⟨hc0, _⟩ => by replace hc0 := nrm hc0; exact ⟨rfl, trivial⟩), (fun ⟨hc0, _⟩ => by replace hc0 := nrm hc0; exact ⟨rem2 (by omega) (by omega), trivial⟩), (fun ⟨hc0, _⟩ => by replace hc0 := nrm hc0; exact ⟨rfl, trivial⟩), trivial⟩ fun ac wd hS => ?_
 rcases Bool.eq_false_or_eq_true (((decide ((a : Int) < 0)) || (((a % 4096) : Int) != 0)) || (decide ((nx : Int) < 0))) with hg1o | hg1o
 ·
  have hg1 := nrm hg1o
  have hbd : badC a ord nx = true := by unfold badC; simp_all
  obtain ⟨hD, hE⟩ := cw_1 (M := M) (h := l) (own := own) hbd
  replace hS := hS.fix 22 (vb true) (congrArg Value.bool hg1o)
  refine hS.opsC 5 [2, 2, 2, 2, 70] [1, 3, 5] fun _ => seg [(27, vb true)] [(0, none), (1, none), (2, none), (3, none), (4, none)] [.t true, .t true, .t true, .t true, .t true] trivial fun ac wd hS => ?_
  refine list_nil_seq ?_
  refine hS.condT ?_
  refine hS.regS [0, 0, 0] [] fun _ => seg [(6, .slice ao1 l.length c1), (7, vi 2)] [(0, none), (2, none)] [] trivial fun ac wd hS => ?_
  refine wp_ret ?_
  refine pop_then_ret ?_
  refine St.retC 0 hS (.tuple #[.slice ao1 l.length c1, vi 2]) [] trivial fun hw => ?_
  refine ⟨ao1, c1, g1, o1, retd (tuple2 (slN ?_) (vint ?_)), (by first | exact hv1 | exact .inl hz_ | (rw [← hD]; exact hv1) | (exfalso; simp at hz_; done)), (by omega), (HE.fn_to (hw.get 1 g1 (.fn o1 (o1 + l.length * 4) (chV (gtD l) o1))) ?_ ?_), hw.fr0⟩
  all_goals (first | (first | rfl | (exfalso; simp at hz_; done) | (rw [← hD]; done) | (rw [← hD]; omega) | (intro x_ _ _; rw [← hD]; done) | (intro x_ _; rw [← hD]; done) | exact hE) | (intro x_ hx_; rfl) | (intro x_ hx_ hy_; rfl))
 ·
  have hg1 := nrm hg1o
  replace hS := hS.fix 22 (vb false) (congrArg Value.bool hg1o)
  refine hS.opsC 2 [1, 401] [1, 3, 5, 22] fun _ => seg [(24, vi ord)] [(0, none), (1, none), (2, none), (3, none), (4, none)] [.t false, .e (ν1 1), .t false] trivial fun ac wd hS => ?_
  refine hS.callG false 135 #[vi ord] (ref01_Span ord _  ) ?_
  rintro _ wd ⟨rfl, hF⟩
  refine ⟨vi (spanV ord), rfl, ?_⟩
  replace hS := (hS.to (hS.mem.keep0 hF)).put (d := 25) (v := vi (spanV ord)) (by decide)
  clear hF
  refine hS.opsC 2 [1, 60] [1, 3, 5] fun _ => seg [(27, vb (((spanV ord) : Int) == 0))] [(0, none), (1, none), (2, none), (3, none), (4, none)] [.t false, .t false] trivial fun ac wd hS => ?_
  refine list_nil_seq ?_
  refine hS.condC (((spanV ord) : Int) == 0) (fun hb2o hb2 => ?_) (fun hb2o hb2 => ?_)
  ·
   have hbd : badC a ord nx = true := by unfold badC; simp_all
   obtain ⟨hD, hE⟩ := cw_1 (M := M) (h := l) (own := own) hbd
   refine hS.regS [0, 0, 0] [] fun _ => seg [(6, .slice ao1 l.length c1), (7, vi 2)] [(0, none), (2, none)] [] trivial fun ac wd hS => ?_
   refine wp_ret ?_
   refine pop_then_ret ?_
   refine St.retC 0 hS (.tuple #[.slice ao1 l.length c1, vi 2]) [] trivial fun hw => ?_
   refine ⟨ao1, c1, g1, o1, retd (tuple2 (slN ?_) (vint ?_)), (by first | exact hv1 | exact .inl hz_ | (rw [← hD]; exact hv1) | (exfalso; simp at hz_; done)), (by omega), (HE.fn_to (hw.get 1 g1 (.fn o1 (o1 + l.length * 4) (chV (gtD l) o1))) ?_ ?_), hw.fr0⟩
   all_goals (first | (first | rfl | (exfalso; simp at hz_; done) | (rw [← hD]; done) | (rw [← hD]; omega) | (intro x_ _ _; rw [← hD]; done) | (intro x_ _; rw [← hD]; done) | exact hE) | (intro x_ hx_; rfl) | (intro x_ hx_ hy_; rfl))
  ·
   have hbd : badC a ord nx = false := by unfold badC; simp_all
   refine wp_skip ?_
   refine pop_then ?_
   refine wp_seq ?_
   refine wp_region_seq ?_
   refine hS.opsC 3 [300, 0, 400] [1, 5] fun _ => seg [(29, .agg #[sc g u n cp, vi rf]), (31, vi a)] [(0, none), (1, none), (2, none), (4, none)] [.e (ν1 1), .e (ν1 0), .e (ν1 0)] trivial fun ac wd hS => ?_
   refine hS.call0 121 #[.agg #[sc g u n cp, vi rf], vi a, vi 32] 32 (ref03_There g u n cp rf a 32 S _ (hS.mem.get 1 g (.fn u (u + n) (strs S u))) (by first | assumption | omega | (simp_all; done) | (simp_all; omega))) fun ac wd hS => ?_
   refine hS.opsC 1 [0] [1, 5] fun _ => seg [(33, vb (!(thr (amS S n) a 32)))] [(0, none), (2, none), (3, none)] [] trivial fun ac wd hS => ?_
   refine list_nil_seq ?_
   refine hS.condC (!(thr (amS S n) a 32)) (fun hb3o hb3 => ?_) (fun hb3o hb3 => ?_)
   ·
    have hq : thr M a 32 = false := by rw [← hT]; simpa using hb3
    obtain ⟨hD, hE⟩ := cw_2 (h := l) (own := own) hbd hq
    refine hS.regS [0, 0, 0] [] fun _ => seg [(6, .slice ao1 l.length c1), (7, vi 3)] [(0, none), (1, none)] [] trivial fun ac wd hS => ?_
    refine wp_ret ?_
    refine pop_then_ret ?_
    refine St.retC 0 hS (.tuple #[.slice ao1 l.length c1, vi 3]) [] trivial fun hw => ?_
    refine ⟨ao1, c1, g1, o1, retd (tuple2 (slN ?_) (vint ?_)), (by first | exact hv1 | exact .inl hz_ | (rw [← hD]; exact hv1) | (exfalso; simp at hz_; done)), (by omega), (HE.fn_to (hw.get 1 g1 (.fn o1 (o1 + l.length * 4) (chV (gtD l) o1))) ?_ ?_), hw.fr0⟩
    all_goals (first | (first | rfl | (exfalso; simp at hz_; done) | (rw [← hD]; done) | (rw [← hD]; omega) | (intro x_ _ _; rw [← hD]; done) | (intro x_ _; rw [← hD]; done) | exact hE) | (intro x_ hx_; rfl) | (intro x_ hx_ hy_; rfl))
   ·
    have hq : thr M a 32 = true := by rw [← hT]; simpa using hb3
    obtain ⟨hD, hE⟩ := cw_3 (h := l) (own := own) hbd hq
    refine wp_skip ?_
    refine pop_then ?_
    refine St.ordBeginTS [(0, 1), (1, 1), (2, 1), (4, 1), (3, 0), (5, 0), (6, 0), (7, 1), (8, 1)] (.two [(0, 1), (1, 1), (2, 1), (4, 1)] 3 (.lin [(5, 0), (6, 0), (7, 1), (8, 1)]) 5 (.lin [(3, 0), (6, 0), (7, 1), (8, 1)])) [(1, .fn 0 64 dbT), (g1, .fn o1 (o1 + l.length * 4) (chV (gtD l) o1)), ((ν1 1), .cells [vi a, vi ord, vu own, vi nx] 82)] [0, 1, 2] hS fun wd hS => ?_
    have hap := hS.mem.pairs (Hf := [(1, .fn 0 64 dbT), (g1, .fn o1 (o1 + l.length * 4) (chV (gtD l) o1)), ((ν1 1), .cells [vi a, vi ord, vu own, vi nx] 82)]) (l := [0, 1, 2])
    refine wpT_two ?_
    refine St.ordF [0, 0, 200, 200] [0, 1, 2, 4] [] (rest := []) hS hap <| segF [(35, .slice ao1 l.length c1), (37, vi a), (39, .agg #[vi a, vi ord, vu own, vi nx])] [.e (ν1 1), .e (ν1 1), .e (ν1 1), .e (ν1 1), .e (ν1 1)] trivial fun ac hS => ?_
    refine ord_nil ?_
    refine ⟨?_, ?_⟩
    ·
     refine hS.ordC 3 43 #[.slice ao1 l.length c1, vi a] (r10_Without ao1 c1 g1 o1 l a _ (hS.mem.get 1 g1 (.fn o1 (o1 + l.length * 4) (chV (gtD l) o1))) hv1 (by first | assumption | omega | (simp_all; done) | (simp_all; omega))) ?_
     rintro _ wd ⟨ao24, c25, F6, rfl, hN, hF⟩
     refine ⟨.slice ao24 ((cWo l a).length) c25, rfl, ?_⟩
     replace hS := (hS.to (hS.mem.newA hN hF)).put (d := 38) (v := .slice ao24 ((cWo l a).length) c25) (by decide)
     clear hF
     refine hS.ordV (l := [0, 1, 2]) ?_
     refine ord_nil ?_
     refine wpT_lin ?_
     refine St.ord1 5 [0] [38] [0, 1, 2] hS rfl fun ν11 => seg [(40, sc (ν11 0) 0 1 1)] [(0, none), (1, none), (2, none), (3, some ((ν11 0), .cells [vi a, vi ord, vu own, vi nx] 82))] [] trivial ⟨by as_aux_lemma => kernel_rfl, fun ac wd hS => ?_⟩
     refine Runs1.ord (i := 6) ?_
     obtain ⟨i_, hi_, hz_, hs_, hb_⟩ := info_get (P := Tryd.prog) (e := 82) (z := .agg #[vi 0, vi 0, vu 0, vi 0]) (s := 4) (b := 32) (by kernel_rfl)
     refine St.appV (m := ((cWo l a).length)) (f := (chV (gtD (cWo l a)) 0)) (news := [vi a, vi ord, vu own, vi nx]) (bx := (ν11 0)) (cx := 1) (Tx := 82) 0 hS (.tmp 38) (.tmp 40) 75 rfl rfl (by decide) Tryd.underlying75 hi_ hz_ hs_ (by omega) rfl (by decide) 3 rfl rfl (by omega) fun ac wd v2_ F9 hB10 hS => ?_
     obtain ⟨xo7, xc8, rfl⟩ := hB10.slice
     replace hS := hS.to (hS.mem.grTell (m := (((cWo l a).length) + 1)) 0 (chV (gtD ((cWo l a) ++ [(a, ord, own, nx)])) 0) (chV_app (cWo l a) a ord own nx))
     have hm_ : ((cWo l a).length) + 1 = (((cWo l a) ++ [(a, ord, own, nx)])).length := by simp
     replace hS := hS.to (hS.mem.grRe (v := .slice xo7 (((cWo l a).length) + 1) xc8) (v' := .slice xo7 ((((cWo l a) ++ [(a, ord, own, nx)])).length) xc8) (m := (((cWo l a).length) + 1)) (m' := (((cWo l a) ++ [(a, ord, own, nx)])).length) (f := (chV (gtD ((cWo l a) ++ [(a, ord, own, nx)])) 0)) 0 (by rw [hm_]) hm_)
     replace hS := hS.fix 41 (.slice xo7 ((((cWo l a) ++ [(a, ord, own, nx)])).length) xc8) (show (.slice xo7 (((cWo l a).length) + 1) xc8 : Value) = .slice xo7 ((((cWo l a) ++ [(a, ord, own, nx)])).length) xc8 by rw [hm_])
     refine hS.ordV (l := [0, 1, 2]) ?_
     refine St.ordF [0, 0] [7, 8] [] (rest := []) hS hap <| segF [(6, .slice xo7 ((((cWo l a) ++ [(a, ord, own, nx)])).length) xc8), (7, vi 0)] [] trivial fun ac hS => ?_
     refine ord_nil ?_
     refine wp_ret ?_
     rcases Nat.eq_zero_or_pos ((((cWo l a) ++ [(a, ord, own, nx)])).length) with hz_ | hz_
     ·
      have hm_ : (((cWo l a) ++ [(a, ord, own, nx)])).length = 0 := by exact hz_
      replace hS := hS.to (hS.mem.grRe (v := .slice xo7 ((((cWo l a) ++ [(a, ord, own, nx)])).length) xc8) (v' := .slice xo7 0 xc8) (m := ((((cWo l a) ++ [(a, ord, own, nx)])).length)) (m' := 0) (f := (chV (gtD ((cWo l a) ++ [(a, ord, own, nx)])) 0)) 0 (by rw [hm_]) hm_)
      replace hS := hS.fix 6 (.slice xo7 0 xc8) (show (.slice xo7 ((((cWo l a) ++ [(a, ord, own, nx)])).length) xc8 : Value) = .slice xo7 0 xc8 by rw [hm_])
      obtain ⟨hv_, hO⟩ := WS.grNil (e := 82) (sz := 4) (m := 0) (f := (chV (gtD ((cWo l a) ++ [(a, ord, own, nx)])) 0)) hS.mem (by omega)
      obtain ⟨rfl, rfl⟩ : (none : Option Addr) = xo7 ∧ 0 = xc8 := by cases hv_; exact ⟨rfl, rfl⟩
      clear hv_
      replace hS := hS.to hO
      clear hO
      refine St.retC 0 hS (.tuple #[vnil, vi 0]) [] trivial fun hw => ?_
      refine ⟨none, 0, 1, 0, retd (tuple2 (slN ?_) (vint ?_)), (by first | exact (.inl rfl) | exact .inl hz_ | (rw [← hD]; exact (.inl rfl)) | (exfalso; simp at hz_; done)), (by omega), (HE.fn_none (hw.get 0 1 (.fn 0 64 dbT)) ?_), hw.fr0⟩
      all_goals (first | (first | rfl | (exfalso; simp at hz_; done) | (rw [← hD]; done) | (rw [← hD]; omega) | (intro x_ _ _; rw [← hD]; done) | (intro x_ _; rw [← hD]; done) | exact hE) | (intro x_ hx_; rfl) | (intro x_ hx_ hy_; rfl))
     ·
      obtain ⟨gg11, cp12, hv_, hcp_, hO⟩ := WS.grOpen (e := 82) (sz := 4) (m := ((((cWo l a) ++ [(a, ord, own, nx)])).length)) (f := (chV (gtD ((cWo l a) ++ [(a, ord, own, nx)])) 0)) hS.mem (by omega)
      obtain ⟨rfl, rfl⟩ : some (⟨gg11, 0, none⟩ : Addr) = xo7 ∧ cp12 = xc8 := by cases hv_; exact ⟨rfl, rfl⟩
      clear hv_
      replace hS := hS.to hO
      clear hO
      refine St.retC 0 hS (.tuple #[sc gg11 0 ((((cWo l a) ++ [(a, ord, own, nx)])).length) cp12, vi 0]) [] trivial fun hw => ?_
      refine ⟨(some ⟨gg11, 0, none⟩), cp12, gg11, 0, retd (tuple2 (slN ?_) (vint ?_)), (by first | exact (.inr rfl) | exact .inl hz_ | (rw [← hD]; exact (.inr rfl)) | (exfalso; simp at hz_; done)), (by have hg_ : w.heap.size ≤ gg11 := (hw.getm 4 gg11 (.row 82 ((((cWo l a) ++ [(a, ord, own, nx)])).length * 4) (cp12 * 4) (chV (gtD ((cWo l a) ++ [(a, ord, own, nx)])) 0))).resolve_right (fun h => h); omega), (HE.row_to (hw.get 4 gg11 (.row 82 ((((cWo l a) ++ [(a, ord, own, nx)])).length * 4) (cp12 * 4) (chV (gtD ((cWo l a) ++ [(a, ord, own, nx)])) 0))) ?_ ?_), hw.fr0⟩
      all_goals (first | (first | rfl | (exfalso; simp at hz_; done) | (rw [← hD]; done) | (rw [← hD]; omega) | (intro x_ _ _; rw [← hD]; done) | (intro x_ _; rw [← hD]; done) | exact hE) | (intro x_ hx_; rfl) | (intro x_ hx_ hy_; rfl))
    ·
     refine St.ord1 5 [0] [35, 37] [0, 1, 2] hS rfl fun ν12 => seg [(40, sc (ν12 0) 0 1 1)] [(0, none), (1, none), (2, none), (3, some ((ν12 0), .cells [vi a, vi ord, vu own, vi nx] 82))] [] trivial ⟨by as_aux_lemma => kernel_rfl, fun ac wd hS => ?_⟩
     refine ord_nil ?_
     refine wpT_lin ?_
     refine hS.ordC 3 43 #[.slice ao1 l.length c1, vi a] (r10_Without ao1 c1 g1 o1 l a _ (hS.mem.get 1 g1 (.fn o1 (o1 + l.length * 4) (chV (gtD l) o1))) hv1 (by first | assumption | omega | (simp_all; done) | (simp_all; omega))) ?_
     rintro _ wd ⟨ao213, c214, F15, rfl, hN, hF⟩
     refine ⟨.slice ao213 ((cWo l a).length) c214, rfl, ?_⟩
     replace hS := (hS.to (hS.mem.newA hN hF)).put (d := 38) (v := .slice ao213 ((cWo l a).length) c214) (by decide)
     clear hF
     refine hS.ordV (l := [0, 1, 2]) ?_
     refine Runs1.ord (i := 6) ?_
     obtain ⟨i_, hi_, hz_, hs_, hb_⟩ := info_get (P := Tryd.prog) (e := 82) (z := .agg #[vi 0, vi 0, vu 0, vi 0]) (s := 4) (b := 32) (by kernel_rfl)
     refine St.appV (m := ((cWo l a).length)) (f := (chV (gtD (cWo l a)) 0)) (news := [vi a, vi ord, vu own, vi nx]) (bx := (ν12 0)) (cx := 1) (Tx := 82) 0 hS (.tmp 38) (.tmp 40) 75 rfl rfl (by decide) Tryd.underlying75 hi_ hz_ hs_ (by omega) rfl (by decide) 3 rfl rfl (by omega) fun ac wd v2_ F18 hB19 hS => ?_
     obtain ⟨xo16, xc17, rfl⟩ := hB19.slice
     replace hS := hS.to (hS.mem.grTell (m := (((cWo l a).length) + 1)) 0 (chV (gtD ((cWo l a) ++ [(a, ord, own, nx)])) 0) (chV_app (cWo l a) a ord own nx))
     have hm_ : ((cWo l a).length) + 1 = (((cWo l a) ++ [(a, ord, own, nx)])).length := by simp
     replace hS := hS.to (hS.mem.grRe (v := .slice xo16 (((cWo l a).length) + 1) xc17) (v' := .slice xo16 ((((cWo l a) ++ [(a, ord, own, nx)])).length) xc17) (m := (((cWo l a).length) + 1)) (m' := (((cWo l a) ++ [(a, ord, own, nx)])).length) (f := (chV (gtD ((cWo l a) ++ [(a, ord, own, nx)])) 0)) 0 (by rw [hm_]) hm_)
     replace hS := hS.fix 41 (.slice xo16 ((((cWo l a) ++ [(a, ord, own, nx)])).length) xc17) (show (.slice xo16 (((cWo l a).length) + 1) xc17 : Value) = .slice xo16 ((((cWo l a) ++ [(a, ord, own, nx)])).length) xc17 by rw [hm_])
     refine hS.ordV (l := [0, 1, 2]) ?_
     refine St.ordF [0, 0] [7, 8] [] (rest := []) hS hap <| segF [(6, .slice xo16 ((((cWo l a) ++ [(a, ord, own, nx)])).length) xc17), (7, vi 0)] [] trivial fun ac hS => ?_
     refine ord_nil ?_
     refine wp_ret ?_
     rcases Nat.eq_zero_or_pos ((((cWo l a) ++ [(a, ord, own, nx)])).length) with hz_ | hz_
     ·
      have hm_ : (((cWo l a) ++ [(a, ord, own, nx)])).length = 0 := by exact hz_
      replace hS := hS.to (hS.mem.grRe (v := .slice xo16 ((((cWo l a) ++ [(a, ord, own, nx)])).length) xc17) (v' := .slice xo16 0 xc17) (m := ((((cWo l a) ++ [(a, ord, own, nx)])).length)) (m' := 0) (f := (chV (gtD ((cWo l a) ++ [(a, ord, own, nx)])) 0)) 0 (by rw [hm_]) hm_)
      replace hS := hS.fix 6 (.slice xo16 0 xc17) (show (.slice xo16 ((((cWo l a) ++ [(a, ord, own, nx)])).length) xc17 : Value) = .slice xo16 0 xc17 by rw [hm_])
      obtain ⟨hv_, hO⟩ := WS.grNil (e := 82) (sz := 4) (m := 0) (f := (chV (gtD ((cWo l a) ++ [(a, ord, own, nx)])) 0)) hS.mem (by omega)
      obtain ⟨rfl, rfl⟩ : (none : Option Addr) = xo16 ∧ 0 = xc17 := by cases hv_; exact ⟨rfl, rfl⟩
      clear hv_
      replace hS := hS.to hO
      clear hO
      refine St.retC 0 hS (.tuple #[vnil, vi 0]) [] trivial fun hw => ?_
      refine ⟨none, 0, 1, 0, retd (tuple2 (slN ?_) (vint ?_)), (by first | exact (.inl rfl) | exact .inl hz_ | (rw [← hD]; exact (.inl rfl)) | (exfalso; simp at hz_; done)), (by omega), (HE.fn_none (hw.get 0 1 (.fn 0 64 dbT)) ?_), hw.fr0⟩
      all_goals (first | (first | rfl | (exfalso; simp at hz_; done) | (rw [← hD]; done) | (rw [← hD]; omega) | (intro x_ _ _; rw [← hD]; done) | (intro x_ _; rw [← hD]; done) | exact hE) | (intro x_ hx_; rfl) | (intro x_ hx_ hy_; rfl))
     ·
      obtain ⟨gg20, cp21, hv_, hcp_, hO⟩ := WS.grOpen (e := 82) (sz := 4) (m := ((((cWo l a) ++ [(a, ord, own, nx)])).length)) (f := (chV (gtD ((cWo l a) ++ [(a, ord, own, nx)])) 0)) hS.mem (by omega)
      obtain ⟨rfl, rfl⟩ : some (⟨gg20, 0, none⟩ : Addr) = xo16 ∧ cp21 = xc17 := by cases hv_; exact ⟨rfl, rfl⟩
      clear hv_
      replace hS := hS.to hO
      clear hO
      refine St.retC 0 hS (.tuple #[sc gg20 0 ((((cWo l a) ++ [(a, ord, own, nx)])).length) cp21, vi 0]) [] trivial fun hw => ?_
      refine ⟨(some ⟨gg20, 0, none⟩), cp21, gg20, 0, retd (tuple2 (slN ?_) (vint ?_)), (by first | exact (.inr rfl) | exact .inl hz_ | (rw [← hD]; exact (.inr rfl)) | (exfalso; simp at hz_; done)), (by have hg_ : w.heap.size ≤ gg20 := (hw.getm 4 gg20 (.row 82 ((((cWo l a) ++ [(a, ord, own, nx)])).length * 4) (cp21 * 4) (chV (gtD ((cWo l a) ++ [(a, ord, own, nx)])) 0))).resolve_right (fun h => h); omega), (HE.row_to (hw.get 4 gg20 (.row 82 ((((cWo l a) ++ [(a, ord, own, nx)])).length * 4) (cp21 * 4) (chV (gtD ((cWo l a) ++ [(a, ord, own, nx)])) 0))) ?_ ?_), hw.fr0⟩
      all_goals (first | (first | rfl | (exfalso; simp at hz_; done) | (rw [← hD]; done) | (rw [← hD]; omega) | (intro x_ _ _; rw [← hD]; done) | (intro x_ _; rw [← hD]; done) | exact hE) | (intro x_ hx_; rfl) | (intro x_ hx_ hy_; rfl))

end Go.Proofs.YtindbpffbjhfaaaDoor.K
