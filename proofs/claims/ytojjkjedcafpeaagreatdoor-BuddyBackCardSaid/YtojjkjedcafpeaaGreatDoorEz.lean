/-
  Walks, printed by w2.py.
-/
import Derived.Test.YtojjkjedcafpeaaGreatDoorM7
import Derived.Test.YtojjkjedcafpeaaGreatDoorM6
import Derived.Test.YtojjkjedcafpeaaGreatDoorLm
import Derived.Test.YtojjkjedcafpeaaGreatDoorProg
namespace Go.Proofs.YtojjkjedcafpeaaGreatDoor.K
set_option linter.unusedVariables false
set_option linter.unusedSimpArgs false

set_option maxRecDepth 100000 in
set_option maxHeartbeats 1000000 in
theorem l08_Pick (b : Nat) (F : Nat → Prop) (m : AM) (bb : Nat) (N : Nat) (n : Int) (g : Nat) (r : Int) (q : List Tg) (Q : Nat → List Int) (w : World) (hr : (arR b F m).R w) (hh0 : HE.holds w 1 (.fn 0 64 dbT)) (hh1 : HE.holds w bb (.fn 0 12 (roF [pt b 0, vi 1, vi ((N : Nat) : Int), pt b 0, vi 0, vi 256, pt b 0, vi 0, vi 88, pt b 0, vi 257, vi ((N : Nat) : Int)]))) (hB : Bdy m N g r q Q) (hfl : FullG g q) :
    Calls Tryz.prog 26 #[pt bb 0, vi n] w fun e w' => e = .returned (vi (pkA (rnTo q g) n)) ∧ Fr w w' no no := by
 have hcn := hB.bm.cn
 have hnb := hB.bm.nb
 have hrl := rnTo_len q g
 have htl := tkL_len (rnTo q g)
 have him := imax_0 n
 refine enter (args := [pt bb 0, vi n]) (D := no) (A := []) Tryz.func26 rfl 34 rfl [(1, .fn 0 64 dbT), (bb, .fn 0 12 (roF [pt b 0, vi 1, vi ((N : Nat) : Int), pt b 0, vi 0, vi 256, pt b 0, vi 0, vi 88, pt b 0, vi 257, vi ((N : Nat) : Int)]))] (WS.startL ⟨⟨rfl, hh0⟩, ⟨rfl, hh1⟩, trivial⟩) fun ac hS => ?_
 refine hS.regS [0] [0, 1] fun _ => seg [] [(0, none), (1, none)] [] trivial fun ac wd hS => ?_
 refine hS.regS [0] [0, 1] fun _ => seg [(5, vnil)] [(0, none), (1, none)] [] trivial fun ac wd hS => ?_
 refine wp_seq ?_
 replace hS := hS.to (hS.mem.grNew 3 1 (ints ([] : List (Int)) 0))
 refine wp_region_seq ?_
 refine hS.opsC 1 [0] [1, 5] fun _ => seg [(8, pt bb 0)] [(0, none), (1, none)] [] trivial fun ac wd hS => ?_
 refine hS.callC 17 #[pt bb 0] (bu_Runs b F m bb N g r q Q _ (Res.keep hr hS.mem.fr) (hS.mem.get 0 1 (.fn 0 64 dbT)) (hS.mem.get 1 bb (.fn 0 12 (roF [pt b 0, vi 1, vi ((N : Nat) : Int), pt b 0, vi 0, vi 256, pt b 0, vi 0, vi 88, pt b 0, vi 257, vi ((N : Nat) : Int)]))) (by exact hB) (by exact hfl)) ?_
 rintro _ wd ⟨ao21, c22, g23, o24, rfl, hv25, hog0, hoh0, hF⟩
 have ho6 : g23 = 1 ∨ w.heap.size ≤ g23 := by have := hS.mem.fr.size; have : w.heap.size ≤ _ := this; omega
 refine ⟨.slice ao21 ((rnTo q g).length) c22, rfl, ?_⟩
 replace hS := (hS.to (hS.mem.outs hF [(g23, .fn o24 (o24 + (rnTo q g).length * 3) (rnV (gtD (rnTo q g)) o24))] ⟨⟨rfl, hoh0, (fun q_ => q_.elim (fun e => .inl ⟨0, .fn 0 64 dbT, by rw [e]; as_aux_lemma => kernel_rfl, rfl⟩) (fun q_ => .inr q_)) hog0⟩, trivial⟩)).put (d := 9) (v := .slice ao21 ((rnTo q g).length) c22) (by decide)
 clear hF
 refine hS.opsC 2 [0, 0] [1, 5, 9] fun _ => seg [(10, vi (((rnTo q g).length : Nat) : Int)), (11, vi 0)] [(0, none), (2, none)] [] trivial fun ac wd hS => ?_
 refine list_nil_seq ?_
 refine wp_block ?_
 refine St.loopC (σ := Int × Option Addr × Nat × (Nat → Prop) × List (Int)) (fun (x : Int × Option Addr × Nat × (Nat → Prop) × List (Int)) => match x with | (x11, aoq, cq, Fq, lq) => ⟨[(1, [], vi n), (5, [], .slice aoq lq.length cq), (9, [], .slice ao21 ((rnTo q g).length) c22), (10, [], vi (((rnTo q g).length : Nat) : Int)), (11, [], vi x11)], [(1, .fn 0 64 dbT), (g23, .fn o24 (o24 + (rnTo q g).length * 3) (rnV (gtD (rnTo q g)) o24))], [grR 3 1 (.slice aoq lq.length cq) Fq (lq.length, (ints lq 0))], (0 ≤ x11 ∧ x11 ≤ ((rnTo q g).length : Int)) ∧ (lq = tkLst ((rnTo q g).take (Int.toNat x11))) ∧ True, (rnTo q g).length - Int.toNat x11⟩) (0, none, 0, no, ([] : List (Int))) ⟨(by first | omega | rfl), (by first | omega | rfl), trivial⟩ hS ?_
 clear hS
 rintro ⟨x11, aoq, cq, Fq, lq⟩ ⟨i0, i1, -⟩ ac wd hS
 replace i0 : 0 ≤ x11 ∧ x11 ≤ ((rnTo q g).length : Int) := i0
 replace i1 : lq = tkLst ((rnTo q g).take (Int.toNat x11)) := i1
 refine hS.regS [0] [1, 5, 9, 10, 11] fun _ => seg [(12, vb (decide ((x11 : Int) < (((rnTo q g).length : Nat) : Int))))] [(0, none), (1, none)] [] trivial fun ac wd hS => ?_
 refine wp_seq ?_
 refine hS.condC (decide ((x11 : Int) < (((rnTo q g).length : Nat) : Int))) (fun hb7o hb7 => ?_) (fun hb7o hb7 => ?_)
 ·
  refine wp_skip ?_
  refine pop_then ?_
  refine wp_seq ?_
  refine wp_block ?_
  obtain rfl : ao21 = some ⟨g23, o24, none⟩ := Or.resolve_left hv25 (by omega)
  refine hS.regS [20, fx 100 (.agg #[vi (((gtD (rnTo q g)) (Int.toNat x11)).1), vi (((gtD (rnTo q g)) (Int.toNat x11)).2.1), vb (((gtD (rnTo q g)) (Int.toNat x11)).2.2)]), 0, 200] [1, 5, 9, 10, 11] fun ν6 => seg [(7, pt (ν6 0) 0)] [(0, none), (1, none), (2, some ((ν6 0), .cells [vi (((gtD (rnTo q g)) (Int.toNat x11)).1), vi (((gtD (rnTo q g)) (Int.toNat x11)).2.1), vb (((gtD (rnTo q g)) (Int.toNat x11)).2.2)] 41))] [.e (ν6 0), .e (ν6 0), .e (ν6 0), .p ((.agg #[((rnV (gtD (rnTo q g)) o24) (o24 + Int.toNat x11 * 3)), ((rnV (gtD (rnTo q g)) o24) (o24 + Int.toNat x11 * 3 + 1)), ((rnV (gtD (rnTo q g)) o24) (o24 + Int.toNat x11 * 3 + 2))] : Value) = .agg #[vi (((gtD (rnTo q g)) (Int.toNat x11)).1), vi (((gtD (rnTo q g)) (Int.toNat x11)).2.1), vb (((gtD (rnTo q g)) (Int.toNat x11)).2.2)]), .e g23, .p (o24 ≤ o24 + Int.toNat x11 * 3 + 2 ∧ o24 + Int.toNat x11 * 3 + 2 < (o24 + (rnTo q g).length * 3)), .e g23, .p (o24 ≤ o24 + Int.toNat x11 * 3 + 1 ∧ o24 + Int.toNat x11 * 3 + 1 < (o24 + (rnTo q g).length * 3)), .e g23, .p (o24 ≤ o24 + Int.toNat x11 * 3 ∧ o24 + Int.toNat x11 * 3 < (o24 + (rnTo q g).length * 3)), .p ((0 : Int) ≤ x11 ∧ (x11 : Int) < (((rnTo q g).length : Nat) : Int))] ⟨(agg3 (rnV_0 (gtD (rnTo q g)) o24 (Int.toNat x11)) (rnV_1 (gtD (rnTo q g)) o24 (Int.toNat x11)) (rnV_2 (gtD (rnTo q g)) o24 (Int.toNat x11))), (by omega), (by omega), (by omega), (by omega), trivial⟩ fun ac wd hS => ?_
  refine hS.regS [0, 200] [1, 5, 7, 9, 10, 11] fun _ => seg [(16, vb (((gtD (rnTo q g)) (Int.toNat x11)).2.2))] [(0, none), (1, none), (2, none)] [.e (ν6 0)] trivial fun ac wd hS => ?_
  refine hS.condC (((gtD (rnTo q g)) (Int.toNat x11)).2.2) (fun hb8o hb8 => ?_) (fun hb8o hb8 => ?_)
  ·
   have hn : (gtD (rnTo q g) (Int.toNat x11)).2.2 = true := hb8o
   refine wp_region_lit ?_
   refine hS.opsC 4 [0, 0, 200, 0] [1, 5, 9, 10, 11] fun ν8 => seg [(17, .slice aoq lq.length cq), (20, sc (ν8 0) 0 1 1)] [(0, none), (1, none), (3, some ((ν8 0), .cells [vi (((gtD (rnTo q g)) (Int.toNat x11)).1)] 3))] [.e (ν6 0)] trivial fun ac wd hS => ?_
   obtain ⟨i_, hi_, hz_, hs_, hb_⟩ := info_get (P := Tryz.prog) (e := 3) (z := vi 0) (s := 1) (b := 8) (by kernel_rfl)
   refine Runs1.list ?_
   refine St.appV (m := lq.length) (f := (ints lq 0)) (news := [vi (((gtD (rnTo q g)) (Int.toNat x11)).1)]) (bx := (ν8 0)) (cx := 1) (Tx := 3) 0 hS (.tmp 17) (.tmp 20) 119 rfl rfl (by decide) Tryz.underlying119 hi_ hz_ hs_ (by omega) rfl (by decide) 2 rfl rfl (by (have := tkL_lenT (rnTo q g) (Int.toNat x11); rw [← i1] at this; omega)) fun ac wd v2_ F11 hB12 hS => ?_
   obtain ⟨xo9, xc10, rfl⟩ := hB12.slice
   replace hS := hS.to (hS.mem.grTell (m := (lq.length + 1)) 0 (ints (lq ++ [((gtD (rnTo q g)) (Int.toNat x11)).1]) 0) (ints_app1 lq (((gtD (rnTo q g)) (Int.toNat x11)).1)))
   have hm_ : lq.length + 1 = ((lq ++ [((gtD (rnTo q g)) (Int.toNat x11)).1])).length := by simp
   replace hS := hS.to (hS.mem.grRe (v := .slice xo9 (lq.length + 1) xc10) (v' := .slice xo9 (((lq ++ [((gtD (rnTo q g)) (Int.toNat x11)).1])).length) xc10) (m := (lq.length + 1)) (m' := ((lq ++ [((gtD (rnTo q g)) (Int.toNat x11)).1])).length) (f := (ints (lq ++ [((gtD (rnTo q g)) (Int.toNat x11)).1]) 0)) 0 (by rw [hm_]) hm_)
   replace hS := hS.fix 21 (.slice xo9 (((lq ++ [((gtD (rnTo q g)) (Int.toNat x11)).1])).length) xc10) (show (.slice xo9 (lq.length + 1) xc10 : Value) = .slice xo9 (((lq ++ [((gtD (rnTo q g)) (Int.toNat x11)).1])).length) xc10 by rw [hm_])
   refine hS.opsC 1 [0] [1, 9, 10, 11] fun _ => seg [(5, .slice xo9 (((lq ++ [((gtD (rnTo q g)) (Int.toNat x11)).1])).length) xc10)] [(0, none), (1, none)] [] trivial fun ac wd hS => ?_
   refine list_nil ?_
   refine pop_block ?_
   refine pop_then ?_
   refine hS.regC [20, 0] [1, 5, 9, 10] fun _ => seg [(11, vi (x11 + 1))] [(0, none), (1, none)] [.p (fit .i64 (x11 + 1))] ⟨fit_i64 (by omega), trivial⟩ fun ac wd hS => ?_
   exact pop_then (hS.next ((x11 + 1), xo9, xc10, F11, (lq ++ [((gtD (rnTo q g)) (Int.toNat x11)).1])) ⟨(by first | omega | assumption | (simp; done) | (simp; omega)), (by first | exact tkL_yes i1 i0.1 (by omega) hn | exact tkL_no i1 i0.1 (by omega) hn), trivial⟩ (by dsimp only; omega))
  ·
   have hn : (gtD (rnTo q g) (Int.toNat x11)).2.2 = false := hb8o
   refine wp_skip ?_
   refine pop_block ?_
   refine pop_then ?_
   refine hS.regC [20, 0] [1, 5, 9, 10] fun _ => seg [(11, vi (x11 + 1))] [(0, none), (1, none)] [.p (fit .i64 (x11 + 1))] ⟨fit_i64 (by omega), trivial⟩ fun ac wd hS => ?_
   exact pop_then (hS.next ((x11 + 1), aoq, cq, Fq, lq) ⟨(by first | omega | assumption | (simp; done) | (simp; omega)), (by first | exact tkL_yes i1 i0.1 (by omega) hn | exact tkL_no i1 i0.1 (by omega) hn), trivial⟩ (by dsimp only; omega))
 ·
  refine wp_exit ?_
  refine pop_then_exit ?_
  refine pop_then_exit ?_
  refine pop_block_hit ?_
  refine pop_then ?_
  refine wp_seq ?_
  have hq_ : (tkLst (rnTo q g)) = lq := (show lq = (tkLst (rnTo q g)) by rw [i1, List.take_of_length_le (by omega)]).symm
  subst hq_
  by_cases hz9 : (tkLst (rnTo q g)).length = 0
  ·
   have hm_ : (tkLst (rnTo q g)).length = 0 := by exact hz9
   replace hS := hS.to (hS.mem.grRe (v := .slice aoq ((tkLst (rnTo q g)).length) cq) (v' := .slice aoq 0 cq) (m := ((tkLst (rnTo q g)).length)) (m' := 0) (f := (ints (tkLst (rnTo q g)) 0)) 0 (by rw [hm_]) hm_)
   replace hS := hS.fix 5 (.slice aoq 0 cq) (show (.slice aoq ((tkLst (rnTo q g)).length) cq : Value) = .slice aoq 0 cq by rw [hm_])
   obtain ⟨hv_, hO⟩ := WS.grNil (e := 3) (sz := 1) (m := 0) (f := (ints (tkLst (rnTo q g)) 0)) hS.mem (by first | omega | rfl)
   obtain ⟨rfl, rfl⟩ : (none : Option Addr) = aoq ∧ 0 = cq := by cases hv_; exact ⟨rfl, rfl⟩
   clear hv_
   replace hS := hS.to hO
   clear hO
   refine hS.regS [0, 0, 0] [1, 5] fun _ => seg [(25, vb true)] [(0, none)] [] trivial fun ac wd hS => ?_
   refine hS.condT ?_
   refine hS.regS [0] [] fun _ => seg [(4, vi 0)] [(0, none)] [] trivial fun ac wd hS => ?_
   refine wp_ret ?_
   refine pop_then_ret ?_
   refine St.retC 0 hS (vi 0) [] trivial fun hw => ?_
   refine ⟨retd (vint ?_), hw.fr0⟩
   all_goals (first | rfl | exact pk_0 hz9 | exact pk_1 hz9)
  ·
   have hmd := pk_md hz9 n
   obtain ⟨gg13, cp14, hv_, hcp_, hO⟩ := WS.grOpen (e := 3) (sz := 1) (m := ((tkLst (rnTo q g)).length)) (f := (ints (tkLst (rnTo q g)) 0)) hS.mem (by omega)
   simp only [Nat.mul_one] at hO
   obtain ⟨rfl, rfl⟩ : some (⟨gg13, 0, none⟩ : Addr) = aoq ∧ cp14 = cq := by cases hv_; exact ⟨rfl, rfl⟩
   clear hv_
   replace hS := hS.to hO
   clear hO
   refine hS.regS [0, 0, 0] [1, 5] fun _ => seg [(25, vb (((((tkLst (rnTo q g)).length : Nat) : Int) : Int) == 0))] [(0, none), (2, none)] [] trivial fun ac wd hS => ?_
   refine hS.condK (((((tkLst (rnTo q g)).length : Nat) : Int) : Int) == 0) false (by exact beq_eq_false_iff_ne.2 (by omega)) ?_
   show Code.wp _ _ _ _ _
   refine wp_skip ?_
   refine pop_then ?_
   refine hS.regS [0, 0, 0, 0, 0, 20, 10, fx 100 (vi (List.getD (tkLst (rnTo q g)) (Int.toNat ((imax 0 n) % (((tkLst (rnTo q g)).length : Nat) : Int))) 0)), 0] [] fun _ => seg [(4, vi (List.getD (tkLst (rnTo q g)) (Int.toNat ((imax 0 n) % (((tkLst (rnTo q g)).length : Nat) : Int))) 0))] [(0, none)] [.p ((((ints (tkLst (rnTo q g)) 0) (Int.toNat ((imax 0 n) % (((tkLst (rnTo q g)).length : Nat) : Int)))) : Value) = vi (List.getD (tkLst (rnTo q g)) (Int.toNat ((imax 0 n) % (((tkLst (rnTo q g)).length : Nat) : Int))) 0)), .e gg13, .p (Int.toNat ((imax 0 n) % (((tkLst (rnTo q g)).length : Nat) : Int)) < ((tkLst (rnTo q g)).length)), .p ((0 : Int) ≤ ((imax 0 n) % (((tkLst (rnTo q g)).length : Nat) : Int)) ∧ (((imax 0 n) % (((tkLst (rnTo q g)).length : Nat) : Int)) : Int) < (((tkLst (rnTo q g)).length : Nat) : Int)), .p (((((tkLst (rnTo q g)).length : Nat) : Int) : Int) ≠ 0 ∧ Int.tmod (imax 0 n) (((tkLst (rnTo q g)).length : Nat) : Int) = (imax 0 n) % (((tkLst (rnTo q g)).length : Nat) : Int))] ⟨(ints_abs (tkLst (rnTo q g)) (Int.toNat ((imax 0 n) % (((tkLst (rnTo q g)).length : Nat) : Int)))), (by omega), (by omega), rem2 (by omega) (by omega), trivial⟩ fun ac wd hS => ?_
   refine wp_ret ?_
   refine St.retC 0 hS (vi (List.getD (tkLst (rnTo q g)) (Int.toNat ((imax 0 n) % (((tkLst (rnTo q g)).length : Nat) : Int))) 0)) [] trivial fun hw => ?_
   refine ⟨retd (vint ?_), hw.fr0⟩
   all_goals (first | rfl | exact pk_0 hz9 | exact pk_1 hz9)

set_option maxRecDepth 100000 in
set_option maxHeartbeats 1000000 in
theorem eq_runs (ao1 : Option Addr) (c1 : Nat) (g1 : Nat) (o1 : Nat) (l : List (Int × Int × Bool)) (ao2 : Option Addr) (c2 : Nat) (g2 : Nat) (o2 : Nat) (w : World) (hh0 : HE.holds w g1 (.fn o1 (o1 + l.length * 3) (rnV (gtD l) o1))) (hh1 : HE.holds w g2 (.fn o2 (o2 + l.length * 3) (rnV (gtD l) o2))) (hv1 : (l.length = 0 ∨ ao1 = some ⟨g1, o1, none⟩)) (hv2 : (l.length = 0 ∨ ao2 = some ⟨g2, o2, none⟩)) (hl : l.length ≤ 4294967295) :
    Calls Tryz.prog 20 #[.slice ao1 l.length c1, .slice ao2 l.length c2] w fun e w' => e = .returned (vb true) ∧ Fr w w' no no := by
 refine enter (args := [.slice ao1 l.length c1, .slice ao2 l.length c2]) (D := no) (A := []) Tryz.func20 rfl 26 rfl [(g1, .fn o1 (o1 + l.length * 3) (rnV (gtD l) o1)), (g2, .fn o2 (o2 + l.length * 3) (rnV (gtD l) o2))] (WS.startL ⟨⟨rfl, hh0⟩, ⟨rfl, hh1⟩, trivial⟩) fun ac hS => ?_
 refine hS.regS [0] [0, 1] fun _ => seg [] [(0, none), (1, none)] [] trivial fun ac wd hS => ?_
 refine wp_seq ?_
 refine hS.regS [0, 0, 0, 0, fx 0 (vb false)] [0, 1] fun _ => seg [(10, vb false)] [(0, none), (1, none)] [.p ((vb ((((l.length : Nat) : Int) : Int) != ((l.length : Nat) : Int)) : Value) = vb false)] ⟨(congrArg Value.bool (bne_self_eq_false _)), trivial⟩ fun ac wd hS => ?_
 refine hS.condF ?_
 refine wp_skip ?_
 refine pop_then ?_
 refine wp_seq ?_
 refine hS.regS [0, 0, 0] [0, 1] fun _ => seg [(12, vi ((l.length : Nat) : Int)), (13, vi 0)] [(0, none), (1, none)] [] trivial fun ac wd hS => ?_
 refine wp_block ?_
 refine St.loopC (σ := Int) (fun (x13 : Int) => ⟨[(0, [], .slice ao1 l.length c1), (1, [], .slice ao2 l.length c2), (12, [], vi ((l.length : Nat) : Int)), (13, [], vi x13)], [(g1, .fn o1 (o1 + l.length * 3) (rnV (gtD l) o1)), (g2, .fn o2 (o2 + l.length * 3) (rnV (gtD l) o2))], [], (0 ≤ x13 ∧ x13 ≤ (l.length : Int)) ∧ True, l.length - Int.toNat x13⟩) 0 ⟨(by omega), trivial⟩ hS ?_
 clear hS
 rintro x13 ⟨i0, -⟩ ac wd hS
 replace i0 : 0 ≤ x13 ∧ x13 ≤ (l.length : Int) := i0
 refine hS.regS [0] [0, 1, 12, 13] fun _ => seg [(14, vb (decide ((x13 : Int) < ((l.length : Nat) : Int))))] [(0, none), (1, none)] [] trivial fun ac wd hS => ?_
 refine wp_seq ?_
 refine hS.condC (decide ((x13 : Int) < ((l.length : Nat) : Int))) (fun hb1o hb1 => ?_) (fun hb1o hb1 => ?_)
 ·
  refine wp_skip ?_
  refine pop_then ?_
  refine wp_seq ?_
  refine wp_block ?_
  refine hS.regS [0, 0] [0, 1, 12, 13] fun _ => seg [(5, vi x13)] [(0, none), (1, none)] [] trivial fun ac wd hS => ?_
  obtain rfl : ao1 = some ⟨g1, o1, none⟩ := Or.resolve_left hv1 (by omega)
  obtain rfl : ao2 = some ⟨g2, o2, none⟩ := Or.resolve_left hv2 (by omega)
  refine St.ordBeginS [(0, 1), (1, 1), (2, 1), (3, 1), (4, 1), (5, 1), (6, 1), (7, 1), (8, 0)] [(g1, .fn o1 (o1 + l.length * 3) (rnV (gtD l) o1)), (g2, .fn o2 (o2 + l.length * 3) (rnV (gtD l) o2))] [0, 1] hS fun wd hS => ?_
  have hap := hS.mem.pairs (Hf := [(g1, .fn o1 (o1 + l.length * 3) (rnV (gtD l) o1)), (g2, .fn o2 (o2 + l.length * 3) (rnV (gtD l) o2))]) (l := [0, 1])
  refine St.ordF [0, 0, 20, fx 0 (.agg #[vi (((gtD l) (Int.toNat x13)).1), vi (((gtD l) (Int.toNat x13)).2.1), vb (((gtD l) (Int.toNat x13)).2.2)]), 0, 0, 20, fx 100 (.agg #[vi (((gtD l) (Int.toNat x13)).1), vi (((gtD l) (Int.toNat x13)).2.1), vb (((gtD l) (Int.toNat x13)).2.2)])] [0, 1, 2, 3, 4, 5, 6, 7] [0, 1, 12, 13] (rest := [(8, 0)]) hS hap <| segF [(19, .agg #[vi (((gtD l) (Int.toNat x13)).1), vi (((gtD l) (Int.toNat x13)).2.1), vb (((gtD l) (Int.toNat x13)).2.2)]), (23, .agg #[vi (((gtD l) (Int.toNat x13)).1), vi (((gtD l) (Int.toNat x13)).2.1), vb (((gtD l) (Int.toNat x13)).2.2)])] [.p ((.agg #[((rnV (gtD l) o2) (o2 + Int.toNat x13 * 3)), ((rnV (gtD l) o2) (o2 + Int.toNat x13 * 3 + 1)), ((rnV (gtD l) o2) (o2 + Int.toNat x13 * 3 + 2))] : Value) = .agg #[vi (((gtD l) (Int.toNat x13)).1), vi (((gtD l) (Int.toNat x13)).2.1), vb (((gtD l) (Int.toNat x13)).2.2)]), .e g2, .p (o2 ≤ o2 + Int.toNat x13 * 3 + 2 ∧ o2 + Int.toNat x13 * 3 + 2 < (o2 + l.length * 3)), .e g2, .p (o2 ≤ o2 + Int.toNat x13 * 3 + 1 ∧ o2 + Int.toNat x13 * 3 + 1 < (o2 + l.length * 3)), .e g2, .p (o2 ≤ o2 + Int.toNat x13 * 3 ∧ o2 + Int.toNat x13 * 3 < (o2 + l.length * 3)), .p ((0 : Int) ≤ x13 ∧ (x13 : Int) < ((l.length : Nat) : Int)), .p ((.agg #[((rnV (gtD l) o1) (o1 + Int.toNat x13 * 3)), ((rnV (gtD l) o1) (o1 + Int.toNat x13 * 3 + 1)), ((rnV (gtD l) o1) (o1 + Int.toNat x13 * 3 + 2))] : Value) = .agg #[vi (((gtD l) (Int.toNat x13)).1), vi (((gtD l) (Int.toNat x13)).2.1), vb (((gtD l) (Int.toNat x13)).2.2)]), .e g1, .p (o1 ≤ o1 + Int.toNat x13 * 3 + 2 ∧ o1 + Int.toNat x13 * 3 + 2 < (o1 + l.length * 3)), .e g1, .p (o1 ≤ o1 + Int.toNat x13 * 3 + 1 ∧ o1 + Int.toNat x13 * 3 + 1 < (o1 + l.length * 3)), .e g1, .p (o1 ≤ o1 + Int.toNat x13 * 3 ∧ o1 + Int.toNat x13 * 3 < (o1 + l.length * 3)), .p ((0 : Int) ≤ x13 ∧ (x13 : Int) < ((l.length : Nat) : Int))] ⟨(agg3 (rnV_0 (gtD l) o2 (Int.toNat x13)) (rnV_1 (gtD l) o2 (Int.toNat x13)) (rnV_2 (gtD l) o2 (Int.toNat x13))), (by omega), (by omega), (by omega), (by omega), (agg3 (rnV_0 (gtD l) o1 (Int.toNat x13)) (rnV_1 (gtD l) o1 (Int.toNat x13)) (rnV_2 (gtD l) o1 (Int.toNat x13))), (by omega), (by omega), (by omega), (by omega), trivial⟩ fun ac hS => ?_
  refine Runs1.ord (i := 8) ?_
  refine St.binS hS .neq (.tmp 19) (.tmp 23) 41 41 rfl rfl (by decide) (xs := #[vi (((gtD l) (Int.toNat x13)).1), vi (((gtD l) (Int.toNat x13)).2.1), vb (((gtD l) (Int.toNat x13)).2.2)]) (ys := #[vi (((gtD l) (Int.toNat x13)).1), vi (((gtD l) (Int.toNat x13)).2.1), vb (((gtD l) (Int.toNat x13)).2.2)]) (r := vb false) (fun w => run_neSameB w (by as_aux_lemma => kernel_rfl) (by as_aux_lemma => kernel_rfl) (by as_aux_lemma => kernel_rfl)) (by as_aux_lemma => kernel_rfl) fun ac hS => ?_
  refine hS.ordV (l := [0, 1]) ?_
  refine ord_nil ?_
  refine hS.condF ?_
  refine wp_skip ?_
  refine pop_block ?_
  refine pop_then ?_
  refine hS.regC [20, 0] [0, 1, 12] fun _ => seg [(13, vi (x13 + 1))] [(0, none), (1, none)] [.p (fit .i64 (x13 + 1))] ⟨fit_i64 (by omega), trivial⟩ fun ac wd hS => ?_
  exact pop_then (hS.next (x13 + 1) ⟨(by first | omega | assumption | (simp; done) | (simp; omega)), trivial⟩ (by dsimp only; omega))
 ·
  refine wp_exit ?_
  refine pop_then_exit ?_
  refine pop_then_exit ?_
  refine pop_block_hit ?_
  refine pop_then ?_
  refine hS.regS [0] [] fun _ => seg [(4, vb true)] [] [] trivial fun ac wd hS => ?_
  refine wp_ret ?_
  refine St.retC 0 hS (vb true) [] trivial fun hw => ?_
  refine ⟨retd rfl, hw.fr0⟩

end Go.Proofs.YtojjkjedcafpeaaGreatDoor.K
