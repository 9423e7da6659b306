/-
  Walks, printed by w2.py.
-/
import Derived.Test.YtdjhdcaanmkblaaDoorBn
import Derived.Test.YtdjhdcaanmkblaaDoorJh
import Derived.Test.YtdjhdcaanmkblaaDoorOz
import Derived.Test.YtdjhdcaanmkblaaDoorProg
namespace Go.Proofs.YtdjhdcaanmkblaaDoor.K
set_option linter.unusedVariables false
set_option linter.unusedSimpArgs false

set_option maxRecDepth 100000 in
set_option maxHeartbeats 1000000 in
theorem eq_ints (ao1 : Option Addr) (c1 : Nat) (g1 : Nat) (o1 : Nat) (l : List (Int)) (ao2 : Option Addr) (c2 : Nat) (g2 : Nat) (o2 : Nat) (w : World) (hh0 : HE.holds w g1 (.fn o1 (o1 + l.length) (ints l o1))) (hh1 : HE.holds w g2 (.fn o2 (o2 + l.length) (ints l o2))) (hv1 : (l.length = 0 ∨ ao1 = some ⟨g1, o1, none⟩)) (hv2 : (l.length = 0 ∨ ao2 = some ⟨g2, o2, none⟩)) (hl : l.length ≤ 4294967295) :
    Calls Tryd.prog 94 #[.slice ao1 l.length c1, .slice ao2 l.length c2] w fun e w' => e = .returned (vb true) ∧ Fr w w' no no := by
 refine enter (args := [.slice ao1 l.length c1, .slice ao2 l.length c2]) (D := no) (A := []) Tryd.func94 rfl 26 rfl [(g1, .fn o1 (o1 + l.length) (ints l o1)), (g2, .fn o2 (o2 + l.length) (ints l o2))] (WS.startL ⟨⟨rfl, hh0⟩, ⟨rfl, hh1⟩, trivial⟩) fun ac hS => ?_
 refine hS.regS [0] [0, 1] fun _ => seg [] [(0, none), (1, none)] [] trivial fun ac wd hS => ?_
 refine wp_seq ?_
 refine hS.regS [0, 0, 0, 0, fx 0 (vb false)] [0, 1] fun _ => seg [(10, vb false)] [(0, none), (1, none)] [.p ((vb ((((l.length : Nat) : Int) : Int) != ((l.length : Nat) : Int)) : Value) = vb false)] ⟨(congrArg Value.bool (bne_self_eq_false _)), trivial⟩ fun ac wd hS => ?_
 refine hS.condF ?_
 refine wp_skip ?_
 refine pop_then ?_
 refine wp_seq ?_
 refine hS.regS [0, 0, 0] [0, 1] fun _ => seg [(12, vi ((l.length : Nat) : Int)), (13, vi 0)] [(0, none), (1, none)] [] trivial fun ac wd hS => ?_
 refine wp_block ?_
 refine St.loopC (σ := Int) (fun (x13 : Int) => ⟨[(0, [], .slice ao1 l.length c1), (1, [], .slice ao2 l.length c2), (12, [], vi ((l.length : Nat) : Int)), (13, [], vi x13)], [(g1, .fn o1 (o1 + l.length) (ints l o1)), (g2, .fn o2 (o2 + l.length) (ints l o2))], [], (0 ≤ x13 ∧ x13 ≤ (l.length : Int)) ∧ True, l.length - Int.toNat x13⟩) 0 ⟨(by omega), trivial⟩ hS ?_
 clear hS
 rintro x13 ⟨i0, -⟩ ac wd hS
 replace i0 : 0 ≤ x13 ∧ x13 ≤ (l.length : Int) := i0
 refine hS.regS [0] [0, 1, 12, 13] fun _ => seg [(14, vb (decide ((x13 : Int) < ((l.length : Nat) : Int))))] [(0, none), (1, none)] [] trivial fun ac wd hS => ?_
 refine wp_seq ?_
 refine hS.condC (decide ((x13 : Int) < ((l.length : Nat) : Int))) (fun hb1o hb1 => ?_) (fun hb1o hb1 => ?_)
 ·
  refine wp_skip ?_
  refine pop_then ?_
  refine wp_seq ?_
  refine wp_block ?_
  refine hS.regS [0, 0] [0, 1, 12, 13] fun _ => seg [(5, vi x13)] [(0, none), (1, none)] [] trivial fun ac wd hS => ?_
  obtain rfl : ao1 = some ⟨g1, o1, none⟩ := Or.resolve_left hv1 (by omega)
  obtain rfl : ao2 = some ⟨g2, o2, none⟩ := Or.resolve_left hv2 (by omega)
  refine hS.drawS [0, 0, 20, fx 0 (vi (List.getD l (Int.toNat x13) 0)), 0, 0, 20, fx 100 (vi (List.getD l (Int.toNat x13) 0)), fx 0 (vb false)] [0, 1, 12, 13] <| seg [(24, vb false)] [(0, none), (1, none)] [.p ((vb (((List.getD l (Int.toNat x13) 0) : Int) != (List.getD l (Int.toNat x13) 0)) : Value) = vb false), .p ((((ints l o2) (o2 + Int.toNat x13 * 1)) : Value) = vi (List.getD l (Int.toNat x13) 0)), .e g2, .p (o2 ≤ o2 + Int.toNat x13 * 1 ∧ o2 + Int.toNat x13 * 1 < (o2 + l.length)), .p ((0 : Int) ≤ x13 ∧ (x13 : Int) < ((l.length : Nat) : Int)), .p ((((ints l o1) (o1 + Int.toNat x13 * 1)) : Value) = vi (List.getD l (Int.toNat x13) 0)), .e g1, .p (o1 ≤ o1 + Int.toNat x13 * 1 ∧ o1 + Int.toNat x13 * 1 < (o1 + l.length)), .p ((0 : Int) ≤ x13 ∧ (x13 : Int) < ((l.length : Nat) : Int))] ⟨(congrArg Value.bool (bne_self_eq_false _)), (ints_rel l o2 (Int.toNat x13)), (by omega), (by omega), (ints_rel l o1 (Int.toNat x13)), (by omega), (by omega), trivial⟩ fun ac wd hS => ?_
  refine hS.condF ?_
  refine wp_skip ?_
  refine pop_block ?_
  refine pop_then ?_
  refine hS.regC [20, 0] [0, 1, 12] fun _ => seg [(13, vi (x13 + 1))] [(0, none), (1, none)] [.p (fit .i64 (x13 + 1))] ⟨fit_i64 (by omega), trivial⟩ fun ac wd hS => ?_
  exact pop_then (hS.next (x13 + 1) ⟨(by first | omega | assumption | (simp; done) | (simp; omega)), trivial⟩ (by dsimp only; omega))
 ·
  refine wp_exit ?_
  refine pop_then_exit ?_
  refine pop_then_exit ?_
  refine pop_block_hit ?_
  refine pop_then ?_
  refine hS.regS [0] [] fun _ => seg [(4, vb true)] [] [] trivial fun ac wd hS => ?_
  refine wp_ret ?_
  refine St.retC 0 hS (vb true) [] trivial fun hw => ?_
  refine ⟨retd rfl, hw.fr0⟩

set_option maxRecDepth 100000 in
set_option maxHeartbeats 1000000 in
theorem b_AllQ (b : Nat) (F : Nat → Prop) (m : AM) (o_ : Int) (z : Int) (k : Int) (L : List Int) (w : World) (hr : (arR b F m).R w) (hh0 : HE.holds w 0 (.fn 0 64 dbT)) (ho : 0 ≤ o_ ∧ 0 ≤ z ∧ o_ + z ≤ 4294967296) (hch : ChB m k (bnN m o_ z k) L) (hlL : L.length ≤ 1000) :
    Calls Tryd.prog 95 #[.agg #[pt b 0, vi o_, vi z], vi k] w fun e w' => ∃ (ao2 : Option Addr) (c2 : Nat) (g2 : Nat) (o2 : Nat), e = .returned (.slice ao2 L.length c2) ∧ (L.length = 0 ∨ ao2 = some ⟨g2, o2, none⟩) ∧ (g2 = 0 ∨ w.heap.size ≤ g2) ∧ HE.holds w' g2 (.fn o2 (o2 + L.length) (ints L o2)) ∧ Fr w w' no no := by
 refine enter (args := [.agg #[pt b 0, vi o_, vi z], vi k]) (D := no) (A := []) Tryd.func95 rfl 29 rfl [(0, .fn 0 64 dbT)] (WS.startL ⟨⟨rfl, hh0⟩, trivial⟩) fun ac hS => ?_
 refine hS.regS [0, 0] [1] fun ν1 => seg [(2, pt (ν1 0) 0)] [(0, none), (1, some ((ν1 0), .cells [pt b 0, vi o_, vi z] 67))] [] trivial fun ac wd hS => ?_
 refine hS.regS [0] [1, 2] fun _ => seg [(5, vnil)] [(0, none), (1, none)] [] trivial fun ac wd hS => ?_
 refine wp_seq ?_
 replace hS := hS.to (hS.mem.grNew 3 1 (ints ([] : List (Int)) 0))
 refine wp_region_seq ?_
 refine hS.opsC 2 [100, 0] [2, 5] fun _ => seg [(9, .agg #[pt b 0, vi o_, vi z]), (10, vi k)] [(0, none), (1, none)] [.e (ν1 0), .e (ν1 0), .e (ν1 0)] trivial fun ac wd hS => ?_
 refine hS.call0 88 #[.agg #[pt b 0, vi o_, vi z], vi k] 11 (b_newest b F m o_ z k _ (Res.keep hr hS.mem.fr) (by first | assumption | omega | (simp_all; done) | (simp_all; omega))) fun ac wd hS => ?_
 refine hS.opsC 1 [0] [2, 5] fun _ => seg [(6, vi (bnN m o_ z k))] [(0, none), (1, none)] [] trivial fun ac wd hS => ?_
 refine list_nil_seq ?_
 refine wp_block ?_
 refine St.loopC (σ := Int × List Int × Option Addr × Nat × (Nat → Prop) × List (Int)) (fun (x : Int × List Int × Option Addr × Nat × (Nat → Prop) × List (Int)) => match x with | (x6, yl, aoq, cq, Fq, lq) => ⟨[(2, [], pt (ν1 0) 0), (5, [], .slice aoq lq.length cq), (6, [], vi x6)], [(0, .fn 0 64 dbT), ((ν1 0), .cells [pt b 0, vi o_, vi z] 67)], [grR 3 1 (.slice aoq lq.length cq) Fq (lq.length, (ints lq 0))], (L = lq ++ yl) ∧ (ChB m k x6 yl) ∧ True, yl.length⟩) ((bnN m o_ z k), L, none, 0, no, ([] : List (Int))) ⟨(by first | rfl | assumption | (simp; done)), (by first | rfl | assumption | (simp; done)), trivial⟩ hS ?_
 clear hS
 rintro ⟨x6, yl, aoq, cq, Fq, lq⟩ ⟨i1, i2, -⟩ ac wd hS
 replace i1 : L = lq ++ yl := i1
 replace i2 : ChB m k x6 yl := i2
 refine wp_seq ?_
 refine hS.regS [0, 0] [2, 5, 6] fun _ => seg [(13, vb ((x6 : Int) != 0))] [(0, none), (1, none)] [] trivial fun ac wd hS => ?_
 refine hS.condC ((x6 : Int) != 0) (fun hb1o hb1 => ?_) (fun hb1o hb1 => ?_)
 ·
  have hxn := hb1
  obtain ⟨hy1, hy2, hy3, hy4⟩ := chB_ne i2 hxn
  refine wp_skip ?_
  refine pop_then ?_
  refine wp_block ?_
  refine wp_region_seq ?_
  refine hS.opsC 3 [0, 0, 0] [2, 5, 6] fun ν6 => seg [(14, .slice aoq lq.length cq), (16, sc (ν6 0) 0 1 1)] [(0, none), (1, none), (2, some ((ν6 0), .cells [vi x6] 3))] [] trivial fun ac wd hS => ?_
  obtain ⟨i_, hi_, hz_, hs_, hb_⟩ := info_get (P := Tryd.prog) (e := 3) (z := vi 0) (s := 1) (b := 8) (by kernel_rfl)
  refine Runs1.list ?_
  refine St.appV (m := lq.length) (f := (ints lq 0)) (news := [vi x6]) (bx := (ν6 0)) (cx := 1) (Tx := 3) 0 hS (.tmp 14) (.tmp 16) 70 rfl rfl (by decide) Tryd.underlying70 hi_ hz_ hs_ (by omega) rfl (by decide) 2 rfl rfl (by (have h9_ := congrArg List.length i1; rw [List.length_append] at h9_; omega)) fun ac wd v2_ F4 hB5 hS => ?_
  obtain ⟨xo2, xc3, rfl⟩ := hB5.slice
  replace hS := hS.to (hS.mem.grTell (m := (lq.length + 1)) 0 (ints (lq ++ [x6]) 0) (ints_app1 lq x6))
  have hm_ : lq.length + 1 = ((lq ++ [x6])).length := by simp
  replace hS := hS.to (hS.mem.grRe (v := .slice xo2 (lq.length + 1) xc3) (v' := .slice xo2 (((lq ++ [x6])).length) xc3) (m := (lq.length + 1)) (m' := ((lq ++ [x6])).length) (f := (ints (lq ++ [x6]) 0)) 0 (by rw [hm_]) hm_)
  replace hS := hS.fix 17 (.slice xo2 (((lq ++ [x6])).length) xc3) (show (.slice xo2 (lq.length + 1) xc3 : Value) = .slice xo2 (((lq ++ [x6])).length) xc3 by rw [hm_])
  refine hS.opsC 1 [0] [2, 6] fun _ => seg [(5, .slice xo2 (((lq ++ [x6])).length) xc3)] [(0, none), (1, none)] [] trivial fun ac wd hS => ?_
  refine list_nil_seq ?_
  refine wp_region_seq ?_
  refine hS.opsC 4 [0, 0, 100, 0] [2, 5] fun _ => seg [(21, pt b 0), (22, vi x6)] [(0, none), (1, none)] [.e (ν1 0)] trivial fun ac wd hS => ?_
  refine hS.call0 34 #[pt b 0, vi x6] 23 (chunk_Read b F m x6 _ (Res.keep hr hS.mem.fr) ) fun ac wd hS => ?_
  refine hS.opsC 6 [0, 0, 0, 0, 200, 0] [2, 5] fun ν9 => seg [(7, pt (ν9 0) 0)] [(0, none), (1, none), (2, some ((ν9 0), .cells [vi (rdAt m x6), vi (rdOrd m x6), vu (rdOwn m x6), vi (rdNx m x6)] 76))] [.e (ν9 0), .e (ν9 0), .e (ν9 0), .e (ν9 0)] trivial fun ac wd hS => ?_
  refine list_nil_seq ?_
  refine hS.regC [0, 200, 0] [2, 5] fun _ => seg [(6, vi (rdNx m x6))] [(0, none), (1, none)] [.e (ν9 0)] trivial fun ac wd hS => ?_
  refine pop_block ?_
  exact pop_then (hS.next ((rdNx m x6), yl.tail, xo2, xc3, F4, (lq ++ [x6])) ⟨(by (rw [List.append_assoc]; exact i1.trans (congrArg (lq ++ ·) hy1))), (by exact hy2), trivial⟩ (by (dsimp only; rw [List.length_tail]; have h9_ := congrArg List.length hy1; simp only [List.length_cons] at h9_; omega)))
 ·
  have hx0 := hb1
  refine wp_exit ?_
  refine pop_then_exit ?_
  refine pop_then_exit ?_
  refine pop_block_hit ?_
  refine pop_then ?_
  refine hS.regS [0, 0] [] fun _ => seg [(4, .slice aoq lq.length cq)] [(0, none)] [] trivial fun ac wd hS => ?_
  refine wp_ret ?_
  have hq_ : L = lq := (show lq = L by (have h9_ := chB_0 (m := m) (k := k) (L := yl) (by rw [← hx0]; exact i2); rw [h9_, List.append_nil] at i1; exact i1.symm)).symm
  subst hq_
  rcases Nat.eq_zero_or_pos L.length with hz_ | hz_
  ·
   have hm_ : L.length = 0 := by exact hz_
   replace hS := hS.to (hS.mem.grRe (v := .slice aoq L.length cq) (v' := .slice aoq 0 cq) (m := L.length) (m' := 0) (f := (ints L 0)) 0 (by rw [hm_]) hm_)
   replace hS := hS.fix 4 (.slice aoq 0 cq) (show (.slice aoq L.length cq : Value) = .slice aoq 0 cq by rw [hm_])
   obtain ⟨hv_, hO⟩ := WS.grNil (e := 3) (sz := 1) (m := 0) (f := (ints L 0)) hS.mem (by first | omega | rfl)
   obtain ⟨rfl, rfl⟩ : (none : Option Addr) = aoq ∧ 0 = cq := by cases hv_; exact ⟨rfl, rfl⟩
   clear hv_
   replace hS := hS.to hO
   clear hO
   refine St.retC 0 hS (vnil) [] trivial fun hw => ?_
   refine ⟨none, 0, 0, 0, retd (slN ?_), (by first | exact (.inl rfl) | exact .inl hz_ | (rw [← hD]; exact (.inl rfl)) | (rw [← hD]; exact .inl hz_)), (by omega), (HE.fn_none (hw.get 0 0 (.fn 0 64 dbT)) ?_), hw.fr0⟩
   all_goals (first | (first | omega | rfl) | (intro x_ hx_; rfl) | (intro x_ hx_ hy_; rfl))
  ·
   obtain ⟨gg6, cp7, hv_, hcp_, hO⟩ := WS.grOpen (e := 3) (sz := 1) (m := L.length) (f := (ints L 0)) hS.mem (by omega)
   simp only [Nat.mul_one] at hO
   obtain ⟨rfl, rfl⟩ : some (⟨gg6, 0, none⟩ : Addr) = aoq ∧ cp7 = cq := by cases hv_; exact ⟨rfl, rfl⟩
   clear hv_
   replace hS := hS.to hO
   clear hO
   refine St.retC 0 hS (sc gg6 0 L.length cp7) [] trivial fun hw => ?_
   refine ⟨(some ⟨gg6, 0, none⟩), cp7, gg6, 0, retd rfl, (by first | exact (.inr rfl) | exact .inl hz_ | (rw [← hD]; exact (.inr rfl)) | (rw [← hD]; exact .inl hz_)), (by have hg_ : w.heap.size ≤ gg6 := (hw.getm 1 gg6 (.row 3 L.length cp7 (ints L 0))).resolve_right (fun h => h); omega), (HE.row_to (hw.get 1 gg6 (.row 3 L.length cp7 (ints L 0))) ?_ ?_), hw.fr0⟩
   all_goals (first | (first | omega | rfl) | (intro x_ hx_; rfl) | (intro x_ hx_ hy_; rfl))

set_option maxRecDepth 100000 in
set_option maxHeartbeats 1000000 in
theorem b_LeastQ (b : Nat) (F : Nat → Prop) (m : AM) (o_ : Int) (z : Int) (k : Int) (Q : Nat → List Int) (w : World) (hr : (arR b F m).R w) (ho : 0 ≤ o_ ∧ 0 ≤ z ∧ o_ + z ≤ 4294967296) (hch : ∀ j : Nat, j < 5 → ChB m (j : Int) (bnN m o_ z (j : Int)) (Q j)) :
    Calls Tryd.prog 96 #[.agg #[pt b 0, vi o_, vi z], vi k] w fun e w' => e = .returned (.tuple #[vi ((lstB Q k).1), vb ((lstB Q k).2)]) ∧ Fr w w' no no := by
 refine enter (args := [.agg #[pt b 0, vi o_, vi z], vi k]) (D := no) (A := []) Tryd.func96 rfl 18 rfl [] (WS.startL trivial) fun ac hS => ?_
 refine hS.regS [0, 0, 0] [1] fun ν1 => seg [(2, pt (ν1 0) 0)] [(0, some ((ν1 0), .cells [pt b 0, vi o_, vi z] 67))] [] trivial fun ac wd hS => ?_
 refine wp_seq ?_
 refine hS.regS [0, 0, 0] [2] fun _ => seg [(6, vi (imax 0 k))] [(0, none)] [] trivial fun ac wd hS => ?_
 refine wp_block ?_
 refine St.loopC (σ := Int) (fun (x6 : Int) => ⟨[(2, [], pt (ν1 0) 0), (6, [], vi x6)], [((ν1 0), .cells [pt b 0, vi o_, vi z] 67)], [], (0 ≤ x6 ∧ k ≤ x6) ∧ (∀ j : Nat, (j : Int) < x6 → k ≤ (j : Int) → (Q j).length = 0) ∧ True, Int.toNat (5 - x6)⟩) (imax 0 k) ⟨(by (unfold imax; split <;> omega)), (by (intro j h1 h2; exfalso; revert h1; unfold imax; split <;> omega)), trivial⟩ hS ?_
 clear hS
 rintro x6 ⟨i0, i1, -⟩ ac wd hS
 replace i0 : 0 ≤ x6 ∧ k ≤ x6 := i0
 replace i1 : ∀ j : Nat, (j : Int) < x6 → k ≤ (j : Int) → (Q j).length = 0 := i1
 refine wp_seq ?_
 refine hS.regS [0, 0] [2, 6] fun _ => seg [(10, vb (decide ((x6 : Int) ≤ 4)))] [(0, none)] [] trivial fun ac wd hS => ?_
 refine hS.condC (decide ((x6 : Int) ≤ 4)) (fun hb1o hb1 => ?_) (fun hb1o hb1 => ?_)
 ·
  refine wp_skip ?_
  refine pop_then ?_
  refine wp_seq ?_
  refine wp_block ?_
  refine wp_region_seq ?_
  refine hS.opsC 2 [0, 0] [2, 6] fun _ => seg [(13, .agg #[pt b 0, vi o_, vi z]), (14, vi x6)] [(0, none)] [.e (ν1 0), .e (ν1 0), .e (ν1 0)] trivial fun ac wd hS => ?_
  refine hS.call0 88 #[.agg #[pt b 0, vi o_, vi z], vi x6] 15 (b_newest b F m o_ z x6 _ (Res.keep hr hS.mem.fr) (by first | assumption | omega | (simp_all; done) | (simp_all; omega))) fun ac wd hS => ?_
  refine hS.opsC 1 [0] [2, 6] fun _ => seg [(16, vb (((bnN m o_ z x6) : Int) != 0))] [(0, none)] [] trivial fun ac wd hS => ?_
  refine list_nil_seq ?_
  refine hS.condC (((bnN m o_ z x6) : Int) != 0) (fun hb2o hb2 => ?_) (fun hb2o hb2 => ?_)
  ·
   have hLy := least_yes hch i1 i0.1 (by omega) i0.2 hb2
   refine hS.regS [0, 0, 0] [] fun _ => seg [(4, vi x6), (5, vb true)] [] [] trivial fun ac wd hS => ?_
   refine wp_ret ?_
   refine pop_block_ret ?_
   refine pop_then_ret ?_
   refine pop_then_ret ?_
   refine pop_block_ret ?_
   refine pop_then_ret ?_
   refine St.retC 0 hS (.tuple #[vi x6, vb true]) [] trivial fun hw => ?_
   refine ⟨retd (tuple2 (vint ?_) (vbool ?_)), hw.fr0⟩
   all_goals (first | rfl | (rw [hLy]) | (rw [hLn]))
  ·
   have hb0 := hb2
   refine wp_skip ?_
   refine pop_block ?_
   refine pop_then ?_
   refine hS.regC [0, 20, 0] [2] fun _ => seg [(6, vi (x6 + 1))] [(0, none)] [.p (fit .i64 (x6 + 1))] ⟨fit_i64 (by omega), trivial⟩ fun ac wd hS => ?_
   exact pop_then (hS.next (x6 + 1) ⟨(by omega), (by exact least_up hch i1 i0.1 (by omega) hb0), trivial⟩ (by dsimp only; omega))
 ·
  refine wp_exit ?_
  refine pop_then_exit ?_
  refine pop_then_exit ?_
  refine pop_block_hit ?_
  refine pop_then ?_
  have hLn : lstB Q k = (0, false) := lstB_no (fun j h1 h2 => i1 j (by omega) h2)
  refine hS.regS [0, 0] [] fun _ => seg [(4, vi 0), (5, vb false)] [] [] trivial fun ac wd hS => ?_
  refine wp_ret ?_
  refine St.retC 0 hS (.tuple #[vi 0, vb false]) [] trivial fun hw => ?_
  refine ⟨retd (tuple2 (vint ?_) (vbool ?_)), hw.fr0⟩
  all_goals (first | rfl | (rw [hLy]) | (rw [hLn]))

set_option maxRecDepth 100000 in
set_option maxHeartbeats 1000000 in
theorem b_CountQ (b : Nat) (F : Nat → Prop) (m : AM) (o_ : Int) (z : Int) (Q : Nat → List Int) (w : World) (hr : (arR b F m).R w) (hh0 : HE.holds w 0 (.fn 0 64 dbT)) (ho : 0 ≤ o_ ∧ 0 ≤ z ∧ o_ + z ≤ 4294967296) (hch : ∀ j : Nat, j < 5 → ChB m (j : Int) (bnN m o_ z (j : Int)) (Q j)) (hlQ : ∀ j, j < 5 → (Q j).length ≤ 1000) :
    Calls Tryd.prog 98 #[.agg #[pt b 0, vi o_, vi z]] w fun e w' => e = .returned (vi (cntB Q)) ∧ Fr w w' no no := by
 have b0 := hlQ 0 (by decide)
 have b1 := hlQ 1 (by decide)
 have b2 := hlQ 2 (by decide)
 have b3 := hlQ 3 (by decide)
 have b4 := hlQ 4 (by decide)
 refine enter (args := [.agg #[pt b 0, vi o_, vi z]]) (D := no) (A := []) Tryd.func98 rfl 18 rfl [(0, .fn 0 64 dbT)] (WS.startL ⟨⟨rfl, hh0⟩, trivial⟩) fun ac hS => ?_
 refine hS.regS [0, 0] [] fun ν1 => seg [(1, pt (ν1 0) 0)] [(0, none), (1, some ((ν1 0), .cells [pt b 0, vi o_, vi z] 67))] [] trivial fun ac wd hS => ?_
 refine hS.regS [0] [1] fun _ => seg [(3, vi 0)] [(0, none), (1, none)] [] trivial fun ac wd hS => ?_
 refine wp_seq ?_
 refine hS.regS [0] [1, 3] fun _ => seg [(5, vi 0)] [(0, none), (1, none)] [] trivial fun ac wd hS => ?_
 refine wp_block ?_
 refine wp_loop_rounds 6 ?_
 refine rounds_in ?_
 refine hS.regS [0] [1, 3, 5] fun _ => seg [(6, vb true)] [(0, none), (1, none)] [] trivial fun ac wd hS => ?_
 refine wp_seq ?_
 refine hS.condT ?_
 refine wp_skip ?_
 refine pop_then ?_
 refine wp_seq ?_
 refine wp_block ?_
 refine hS.regS [0, 0] [1, 3, 5] fun _ => seg [(4, vi 0)] [(0, none), (1, none)] [] trivial fun ac wd hS => ?_
 refine wp_region_lit ?_
 refine hS.opsC 3 [0, 100, 0] [1, 3, 4, 5] fun _ => seg [(8, vi 0), (9, .agg #[pt b 0, vi o_, vi z]), (10, vi 0)] [(0, none), (1, none)] [.e (ν1 0), .e (ν1 0), .e (ν1 0)] trivial fun ac wd hS => ?_
 refine hS.callC 95 #[.agg #[pt b 0, vi o_, vi z], vi 0] (b_AllQ b F m o_ z 0 (Q 0) _ (Res.keep hr hS.mem.fr) (hS.mem.get 0 0 (.fn 0 64 dbT)) (by first | assumption | omega | (simp_all; done) | (simp_all; omega)) (by first | exact hch 0 (by decide) | exact hch 1 (by decide) | exact hch 2 (by decide) | exact hch 3 (by decide) | exact hch 4 (by decide)) (by first | assumption | omega | (simp_all; done) | (simp_all; omega))) ?_
 rintro _ wd ⟨ao21, c22, g23, o24, rfl, hv25, hog0, hoh0, hF⟩
 have ho6 : g23 = 0 ∨ w.heap.size ≤ g23 := by have := hS.mem.fr.size; have : w.heap.size ≤ _ := this; omega
 refine ⟨.slice ao21 ((Q 0).length) c22, rfl, ?_⟩
 replace hS := (hS.to (hS.mem.outs hF [(g23, .fn o24 (o24 + (Q 0).length) (ints (Q 0) o24))] ⟨⟨rfl, hoh0, (fun q_ => q_.elim (fun e => .inl ⟨0, .fn 0 64 dbT, by rw [e]; as_aux_lemma => kernel_rfl, rfl⟩) (fun q_ => .inr q_)) hog0⟩, trivial⟩)).put (d := 11) (v := .slice ao21 ((Q 0).length) c22) (by decide)
 clear hF
 refine hS.opsC 5 [0, 0, 20, 20, 0] [1, 5] fun _ => seg [(3, vi (0 + ((((Q 0).length : Nat) : Int) * 1)))] [(0, none), (1, none)] [.p (fit .i64 (0 + ((((Q 0).length : Nat) : Int) * 1))), .p ((0 : Int) ≤ 0 ∧ IntKind.i64.wrap ((((Q 0).length : Nat) : Int) * 2 ^ (min (Int.toNat 0) 64)) = ((((Q 0).length : Nat) : Int) * 1))] ⟨fit_i64 (by omega), ⟨by decide, by first | exact (congrArg (fun q_ : Int => IntKind.i64.wrap (_ * q_)) (show (2 : Int) ^ (min (Int.toNat 0) 64) = 1 by decide)).trans (i64_in (by omega)) | exact (congrArg (fun q_ : Int => IntKind.i64.wrap (_ * q_)) (show (2 : Int) ^ (min (Int.toNat 1) 64) = 2 by decide)).trans (i64_in (by omega)) | exact (congrArg (fun q_ : Int => IntKind.i64.wrap (_ * q_)) (show (2 : Int) ^ (min (Int.toNat 2) 64) = 4 by decide)).trans (i64_in (by omega)) | exact (congrArg (fun q_ : Int => IntKind.i64.wrap (_ * q_)) (show (2 : Int) ^ (min (Int.toNat 3) 64) = 8 by decide)).trans (i64_in (by omega)) | exact (congrArg (fun q_ : Int => IntKind.i64.wrap (_ * q_)) (show (2 : Int) ^ (min (Int.toNat 4) 64) = 16 by decide)).trans (i64_in (by omega))⟩, trivial⟩ fun ac wd hS => ?_
 refine list_nil ?_
 refine pop_block ?_
 refine pop_then ?_
 refine hS.regC [0, 0] [1, 3] fun _ => seg [(5, vi 1)] [(0, none), (1, none)] [] trivial fun ac wd hS => ?_
 refine pop_then ?_
 refine rounds_in ?_
 refine hS.regS [0] [1, 3, 5] fun _ => seg [(6, vb true)] [(0, none), (1, none)] [] trivial fun ac wd hS => ?_
 refine wp_seq ?_
 refine hS.condT ?_
 refine wp_skip ?_
 refine pop_then ?_
 refine wp_seq ?_
 refine wp_block ?_
 refine hS.regS [0, 0] [1, 3, 5] fun _ => seg [(4, vi 1)] [(0, none), (1, none)] [] trivial fun ac wd hS => ?_
 refine wp_region_lit ?_
 refine hS.opsC 3 [0, 100, 0] [1, 3, 4, 5] fun _ => seg [(8, vi (0 + ((((Q 0).length : Nat) : Int) * 1))), (9, .agg #[pt b 0, vi o_, vi z]), (10, vi 1)] [(0, none), (1, none)] [.e (ν1 0), .e (ν1 0), .e (ν1 0)] trivial fun ac wd hS => ?_
 refine hS.callC 95 #[.agg #[pt b 0, vi o_, vi z], vi 1] (b_AllQ b F m o_ z 1 (Q 1) _ (Res.keep hr hS.mem.fr) (hS.mem.get 0 0 (.fn 0 64 dbT)) (by first | assumption | omega | (simp_all; done) | (simp_all; omega)) (by first | exact hch 0 (by decide) | exact hch 1 (by decide) | exact hch 2 (by decide) | exact hch 3 (by decide) | exact hch 4 (by decide)) (by first | assumption | omega | (simp_all; done) | (simp_all; omega))) ?_
 rintro _ wd ⟨ao27, c28, g29, o210, rfl, hv211, hog0, hoh0, hF⟩
 have ho12 : g29 = 0 ∨ w.heap.size ≤ g29 := by have := hS.mem.fr.size; have : w.heap.size ≤ _ := this; omega
 refine ⟨.slice ao27 ((Q 1).length) c28, rfl, ?_⟩
 replace hS := (hS.to (hS.mem.outs hF [(g29, .fn o210 (o210 + (Q 1).length) (ints (Q 1) o210))] ⟨⟨rfl, hoh0, (fun q_ => q_.elim (fun e => .inl ⟨0, .fn 0 64 dbT, by rw [e]; as_aux_lemma => kernel_rfl, rfl⟩) (fun q_ => .inr q_)) hog0⟩, trivial⟩)).put (d := 11) (v := .slice ao27 ((Q 1).length) c28) (by decide)
 clear hF
 refine hS.opsC 5 [0, 0, 20, 20, 0] [1, 5] fun _ => seg [(3, vi ((0 + ((((Q 0).length : Nat) : Int) * 1)) + ((((Q 1).length : Nat) : Int) * 2)))] [(0, none), (1, none)] [.p (fit .i64 ((0 + ((((Q 0).length : Nat) : Int) * 1)) + ((((Q 1).length : Nat) : Int) * 2))), .p ((0 : Int) ≤ 1 ∧ IntKind.i64.wrap ((((Q 1).length : Nat) : Int) * 2 ^ (min (Int.toNat 1) 64)) = ((((Q 1).length : Nat) : Int) * 2))] ⟨fit_i64 (by omega), ⟨by decide, by first | exact (congrArg (fun q_ : Int => IntKind.i64.wrap (_ * q_)) (show (2 : Int) ^ (min (Int.toNat 0) 64) = 1 by decide)).trans (i64_in (by omega)) | exact (congrArg (fun q_ : Int => IntKind.i64.wrap (_ * q_)) (show (2 : Int) ^ (min (Int.toNat 1) 64) = 2 by decide)).trans (i64_in (by omega)) | exact (congrArg (fun q_ : Int => IntKind.i64.wrap (_ * q_)) (show (2 : Int) ^ (min (Int.toNat 2) 64) = 4 by decide)).trans (i64_in (by omega)) | exact (congrArg (fun q_ : Int => IntKind.i64.wrap (_ * q_)) (show (2 : Int) ^ (min (Int.toNat 3) 64) = 8 by decide)).trans (i64_in (by omega)) | exact (congrArg (fun q_ : Int => IntKind.i64.wrap (_ * q_)) (show (2 : Int) ^ (min (Int.toNat 4) 64) = 16 by decide)).trans (i64_in (by omega))⟩, trivial⟩ fun ac wd hS => ?_
 refine list_nil ?_
 refine pop_block ?_
 refine pop_then ?_
 refine hS.regC [0, 0] [1, 3] fun _ => seg [(5, vi 2)] [(0, none), (1, none)] [] trivial fun ac wd hS => ?_
 refine pop_then ?_
 refine rounds_in ?_
 refine hS.regS [0] [1, 3, 5] fun _ => seg [(6, vb true)] [(0, none), (1, none)] [] trivial fun ac wd hS => ?_
 refine wp_seq ?_
 refine hS.condT ?_
 refine wp_skip ?_
 refine pop_then ?_
 refine wp_seq ?_
 refine wp_block ?_
 refine hS.regS [0, 0] [1, 3, 5] fun _ => seg [(4, vi 2)] [(0, none), (1, none)] [] trivial fun ac wd hS => ?_
 refine wp_region_lit ?_
 refine hS.opsC 3 [0, 100, 0] [1, 3, 4, 5] fun _ => seg [(8, vi ((0 + ((((Q 0).length : Nat) : Int) * 1)) + ((((Q 1).length : Nat) : Int) * 2))), (9, .agg #[pt b 0, vi o_, vi z]), (10, vi 2)] [(0, none), (1, none)] [.e (ν1 0), .e (ν1 0), .e (ν1 0)] trivial fun ac wd hS => ?_
 refine hS.callC 95 #[.agg #[pt b 0, vi o_, vi z], vi 2] (b_AllQ b F m o_ z 2 (Q 2) _ (Res.keep hr hS.mem.fr) (hS.mem.get 0 0 (.fn 0 64 dbT)) (by first | assumption | omega | (simp_all; done) | (simp_all; omega)) (by first | exact hch 0 (by decide) | exact hch 1 (by decide) | exact hch 2 (by decide) | exact hch 3 (by decide) | exact hch 4 (by decide)) (by first | assumption | omega | (simp_all; done) | (simp_all; omega))) ?_
 rintro _ wd ⟨ao213, c214, g215, o216, rfl, hv217, hog0, hoh0, hF⟩
 have ho18 : g215 = 0 ∨ w.heap.size ≤ g215 := by have := hS.mem.fr.size; have : w.heap.size ≤ _ := this; omega
 refine ⟨.slice ao213 ((Q 2).length) c214, rfl, ?_⟩
 replace hS := (hS.to (hS.mem.outs hF [(g215, .fn o216 (o216 + (Q 2).length) (ints (Q 2) o216))] ⟨⟨rfl, hoh0, (fun q_ => q_.elim (fun e => .inl ⟨0, .fn 0 64 dbT, by rw [e]; as_aux_lemma => kernel_rfl, rfl⟩) (fun q_ => .inr q_)) hog0⟩, trivial⟩)).put (d := 11) (v := .slice ao213 ((Q 2).length) c214) (by decide)
 clear hF
 refine hS.opsC 5 [0, 0, 20, 20, 0] [1, 5] fun _ => seg [(3, vi (((0 + ((((Q 0).length : Nat) : Int) * 1)) + ((((Q 1).length : Nat) : Int) * 2)) + ((((Q 2).length : Nat) : Int) * 4)))] [(0, none), (1, none)] [.p (fit .i64 (((0 + ((((Q 0).length : Nat) : Int) * 1)) + ((((Q 1).length : Nat) : Int) * 2)) + ((((Q 2).length : Nat) : Int) * 4))), .p ((0 : Int) ≤ 2 ∧ IntKind.i64.wrap ((((Q 2).length : Nat) : Int) * 2 ^ (min (Int.toNat 2) 64)) = ((((Q 2).length : Nat) : Int) * 4))] ⟨fit_i64 (by omega), ⟨by decide, by first | exact (congrArg (fun q_ : Int => IntKind.i64.wrap (_ * q_)) (show (2 : Int) ^ (min (Int.toNat 0) 64) = 1 by decide)).trans (i64_in (by omega)) | exact (congrArg (fun q_ : Int => IntKind.i64.wrap (_ * q_)) (show (2 : Int) ^ (min (Int.toNat 1) 64) = 2 by decide)).trans (i64_in (by omega)) | exact (congrArg (fun q_ : Int => IntKind.i64.wrap (_ * q_)) (show (2 : Int) ^ (min (Int.toNat 2) 64) = 4 by decide)).trans (i64_in (by omega)) | exact (congrArg (fun q_ : Int => IntKind.i64.wrap (_ * q_)) (show (2 : Int) ^ (min (Int.toNat 3) 64) = 8 by decide)).trans (i64_in (by omega)) | exact (congrArg (fun q_ : Int => IntKind.i64.wrap (_ * q_)) (show (2 : Int) ^ (min (Int.toNat 4) 64) = 16 by decide)).trans (i64_in (by omega))⟩, trivial⟩ fun ac wd hS => ?_
 refine list_nil ?_
 refine pop_block ?_
 refine pop_then ?_
 refine hS.regC [0, 0] [1, 3] fun _ => seg [(5, vi 3)] [(0, none), (1, none)] [] trivial fun ac wd hS => ?_
 refine pop_then ?_
 refine rounds_in ?_
 refine hS.regS [0] [1, 3, 5] fun _ => seg [(6, vb true)] [(0, none), (1, none)] [] trivial fun ac wd hS => ?_
 refine wp_seq ?_
 refine hS.condT ?_
 refine wp_skip ?_
 refine pop_then ?_
 refine wp_seq ?_
 refine wp_block ?_
 refine hS.regS [0, 0] [1, 3, 5] fun _ => seg [(4, vi 3)] [(0, none), (1, none)] [] trivial fun ac wd hS => ?_
 refine wp_region_lit ?_
 refine hS.opsC 3 [0, 100, 0] [1, 3, 4, 5] fun _ => seg [(8, vi (((0 + ((((Q 0).length : Nat) : Int) * 1)) + ((((Q 1).length : Nat) : Int) * 2)) + ((((Q 2).length : Nat) : Int) * 4))), (9, .agg #[pt b 0, vi o_, vi z]), (10, vi 3)] [(0, none), (1, none)] [.e (ν1 0), .e (ν1 0), .e (ν1 0)] trivial fun ac wd hS => ?_
 refine hS.callC 95 #[.agg #[pt b 0, vi o_, vi z], vi 3] (b_AllQ b F m o_ z 3 (Q 3) _ (Res.keep hr hS.mem.fr) (hS.mem.get 0 0 (.fn 0 64 dbT)) (by first | assumption | omega | (simp_all; done) | (simp_all; omega)) (by first | exact hch 0 (by decide) | exact hch 1 (by decide) | exact hch 2 (by decide) | exact hch 3 (by decide) | exact hch 4 (by decide)) (by first | assumption | omega | (simp_all; done) | (simp_all; omega))) ?_
 rintro _ wd ⟨ao219, c220, g221, o222, rfl, hv223, hog0, hoh0, hF⟩
 have ho24 : g221 = 0 ∨ w.heap.size ≤ g221 := by have := hS.mem.fr.size; have : w.heap.size ≤ _ := this; omega
 refine ⟨.slice ao219 ((Q 3).length) c220, rfl, ?_⟩
 replace hS := (hS.to (hS.mem.outs hF [(g221, .fn o222 (o222 + (Q 3).length) (ints (Q 3) o222))] ⟨⟨rfl, hoh0, (fun q_ => q_.elim (fun e => .inl ⟨0, .fn 0 64 dbT, by rw [e]; as_aux_lemma => kernel_rfl, rfl⟩) (fun q_ => .inr q_)) hog0⟩, trivial⟩)).put (d := 11) (v := .slice ao219 ((Q 3).length) c220) (by decide)
 clear hF
 refine hS.opsC 5 [0, 0, 20, 20, 0] [1, 5] fun _ => seg [(3, vi ((((0 + ((((Q 0).length : Nat) : Int) * 1)) + ((((Q 1).length : Nat) : Int) * 2)) + ((((Q 2).length : Nat) : Int) * 4)) + ((((Q 3).length : Nat) : Int) * 8)))] [(0, none), (1, none)] [.p (fit .i64 ((((0 + ((((Q 0).length : Nat) : Int) * 1)) + ((((Q 1).length : Nat) : Int) * 2)) + ((((Q 2).length : Nat) : Int) * 4)) + ((((Q 3).length : Nat) : Int) * 8))), .p ((0 : Int) ≤ 3 ∧ IntKind.i64.wrap ((((Q 3).length : Nat) : Int) * 2 ^ (min (Int.toNat 3) 64)) = ((((Q 3).length : Nat) : Int) * 8))] ⟨fit_i64 (by omega), ⟨by decide, by first | exact (congrArg (fun q_ : Int => IntKind.i64.wrap (_ * q_)) (show (2 : Int) ^ (min (Int.toNat 0) 64) = 1 by decide)).trans (i64_in (by omega)) | exact (congrArg (fun q_ : Int => IntKind.i64.wrap (_ * q_)) (show (2 : Int) ^ (min (Int.toNat 1) 64) = 2 by decide)).trans (i64_in (by omega)) | exact (congrArg (fun q_ : Int => IntKind.i64.wrap (_ * q_)) (show (2 : Int) ^ (min (Int.toNat 2) 64) = 4 by decide)).trans (i64_in (by omega)) | exact (congrArg (fun q_ : Int => IntKind.i64.wrap (_ * q_)) (show (2 : Int) ^ (min (Int.toNat 3) 64) = 8 by decide)).trans (i64_in (by omega)) | exact (congrArg (fun q_ : Int => IntKind.i64.wrap (_ * q_)) (show (2 : Int) ^ (min (Int.toNat 4) 64) = 16 by decide)).trans (i64_in (by omega))⟩, trivial⟩ fun ac wd hS => ?_
 refine list_nil ?_
 refine pop_block ?_
 refine pop_then ?_
 refine hS.regC [0, 0] [1, 3] fun _ => seg [(5, vi 4)] [(0, none), (1, none)] [] trivial fun ac wd hS => ?_
 refine pop_then ?_
 refine rounds_in ?_
 refine hS.regS [0] [1, 3, 5] fun _ => seg [(6, vb true)] [(0, none), (1, none)] [] trivial fun ac wd hS => ?_
 refine wp_seq ?_
 refine hS.condT ?_
 refine wp_skip ?_
 refine pop_then ?_
 refine wp_seq ?_
 refine wp_block ?_
 refine hS.regS [0, 0] [1, 3, 5] fun _ => seg [(4, vi 4)] [(0, none), (1, none)] [] trivial fun ac wd hS => ?_
 refine wp_region_lit ?_
 refine hS.opsC 3 [0, 100, 0] [1, 3, 4, 5] fun _ => seg [(8, vi ((((0 + ((((Q 0).length : Nat) : Int) * 1)) + ((((Q 1).length : Nat) : Int) * 2)) + ((((Q 2).length : Nat) : Int) * 4)) + ((((Q 3).length : Nat) : Int) * 8))), (9, .agg #[pt b 0, vi o_, vi z]), (10, vi 4)] [(0, none), (1, none)] [.e (ν1 0), .e (ν1 0), .e (ν1 0)] trivial fun ac wd hS => ?_
 refine hS.callC 95 #[.agg #[pt b 0, vi o_, vi z], vi 4] (b_AllQ b F m o_ z 4 (Q 4) _ (Res.keep hr hS.mem.fr) (hS.mem.get 0 0 (.fn 0 64 dbT)) (by first | assumption | omega | (simp_all; done) | (simp_all; omega)) (by first | exact hch 0 (by decide) | exact hch 1 (by decide) | exact hch 2 (by decide) | exact hch 3 (by decide) | exact hch 4 (by decide)) (by first | assumption | omega | (simp_all; done) | (simp_all; omega))) ?_
 rintro _ wd ⟨ao225, c226, g227, o228, rfl, hv229, hog0, hoh0, hF⟩
 have ho30 : g227 = 0 ∨ w.heap.size ≤ g227 := by have := hS.mem.fr.size; have : w.heap.size ≤ _ := this; omega
 refine ⟨.slice ao225 ((Q 4).length) c226, rfl, ?_⟩
 replace hS := (hS.to (hS.mem.outs hF [(g227, .fn o228 (o228 + (Q 4).length) (ints (Q 4) o228))] ⟨⟨rfl, hoh0, (fun q_ => q_.elim (fun e => .inl ⟨0, .fn 0 64 dbT, by rw [e]; as_aux_lemma => kernel_rfl, rfl⟩) (fun q_ => .inr q_)) hog0⟩, trivial⟩)).put (d := 11) (v := .slice ao225 ((Q 4).length) c226) (by decide)
 clear hF
 refine hS.opsC 5 [0, 0, 20, 20, 0] [1, 5] fun _ => seg [(3, vi (((((0 + ((((Q 0).length : Nat) : Int) * 1)) + ((((Q 1).length : Nat) : Int) * 2)) + ((((Q 2).length : Nat) : Int) * 4)) + ((((Q 3).length : Nat) : Int) * 8)) + ((((Q 4).length : Nat) : Int) * 16)))] [(0, none), (1, none)] [.p (fit .i64 (((((0 + ((((Q 0).length : Nat) : Int) * 1)) + ((((Q 1).length : Nat) : Int) * 2)) + ((((Q 2).length : Nat) : Int) * 4)) + ((((Q 3).length : Nat) : Int) * 8)) + ((((Q 4).length : Nat) : Int) * 16))), .p ((0 : Int) ≤ 4 ∧ IntKind.i64.wrap ((((Q 4).length : Nat) : Int) * 2 ^ (min (Int.toNat 4) 64)) = ((((Q 4).length : Nat) : Int) * 16))] ⟨fit_i64 (by omega), ⟨by decide, by first | exact (congrArg (fun q_ : Int => IntKind.i64.wrap (_ * q_)) (show (2 : Int) ^ (min (Int.toNat 0) 64) = 1 by decide)).trans (i64_in (by omega)) | exact (congrArg (fun q_ : Int => IntKind.i64.wrap (_ * q_)) (show (2 : Int) ^ (min (Int.toNat 1) 64) = 2 by decide)).trans (i64_in (by omega)) | exact (congrArg (fun q_ : Int => IntKind.i64.wrap (_ * q_)) (show (2 : Int) ^ (min (Int.toNat 2) 64) = 4 by decide)).trans (i64_in (by omega)) | exact (congrArg (fun q_ : Int => IntKind.i64.wrap (_ * q_)) (show (2 : Int) ^ (min (Int.toNat 3) 64) = 8 by decide)).trans (i64_in (by omega)) | exact (congrArg (fun q_ : Int => IntKind.i64.wrap (_ * q_)) (show (2 : Int) ^ (min (Int.toNat 4) 64) = 16 by decide)).trans (i64_in (by omega))⟩, trivial⟩ fun ac wd hS => ?_
 refine list_nil ?_
 refine pop_block ?_
 refine pop_then ?_
 refine hS.regC [0, 0] [1, 3] fun _ => seg [(5, vi 5)] [(0, none), (1, none)] [] trivial fun ac wd hS => ?_
 refine pop_then ?_
 refine rounds_in ?_
 refine hS.regS [0] [1, 3, 5] fun _ => seg [(6, vb false)] [(0, none), (1, none)] [] trivial fun ac wd hS => ?_
 refine wp_seq ?_
 refine hS.condF ?_
 refine wp_exit ?_
 refine pop_then_exit ?_
 refine pop_then_exit ?_
 refine pop_block_hit ?_
 refine pop_then ?_
 refine hS.regS [0, 0] [] fun _ => seg [(2, vi (((((0 + ((((Q 0).length : Nat) : Int) * 1)) + ((((Q 1).length : Nat) : Int) * 2)) + ((((Q 2).length : Nat) : Int) * 4)) + ((((Q 3).length : Nat) : Int) * 8)) + ((((Q 4).length : Nat) : Int) * 16)))] [(0, none)] [] trivial fun ac wd hS => ?_
 refine wp_ret ?_
 refine St.retC 0 hS (vi (((((0 + ((((Q 0).length : Nat) : Int) * 1)) + ((((Q 1).length : Nat) : Int) * 2)) + ((((Q 2).length : Nat) : Int) * 4)) + ((((Q 3).length : Nat) : Int) * 8)) + ((((Q 4).length : Nat) : Int) * 16))) [] trivial fun hw => ?_
 refine ⟨retd (vint ?_), hw.fr0⟩
 all_goals ((unfold cntB; omega))

set_option maxRecDepth 100000 in
set_option maxHeartbeats 1000000 in
theorem law11_told (b : Nat) (F : Nat → Prop) (m : AM) (E : Nat → HdI) (k : Int) (N : Nat) (w : World) (hr : (arR b F m).R w) (hh0 : HE.holds w 0 (.fn 0 64 dbT)) (hQ : ∀ i, i < 5 → rgH w (E i)) (hT : BSQ m E N) (hN : N ≤ 1000) :
    Calls Tryd.prog 37 #[.agg #[pt b 0, vi 100, vi 44], .agg #[.slice ((E 0).1) ((E 0).2.2.length) ((E 0).2.1), .slice ((E 1).1) ((E 1).2.2.length) ((E 1).2.1), .slice ((E 2).1) ((E 2).2.2.length) ((E 2).2.1), .slice ((E 3).1) ((E 3).2.2.length) ((E 3).2.1), .slice ((E 4).1) ((E 4).2.2.length) ((E 4).2.1)], vi k] w fun e w' => e = .returned (vb true) ∧ Fr w w' no no := by
 have hB : ∀ i, i < 5 → (E i).2.2.length ≤ 1000 := fun i hi => Nat.le_trans (hT.len i hi) hN
 refine enter (args := [.agg #[pt b 0, vi 100, vi 44], .agg #[.slice ((E 0).1) ((E 0).2.2.length) ((E 0).2.1), .slice ((E 1).1) ((E 1).2.2.length) ((E 1).2.1), .slice ((E 2).1) ((E 2).2.2.length) ((E 2).2.1), .slice ((E 3).1) ((E 3).2.2.length) ((E 3).2.1), .slice ((E 4).1) ((E 4).2.2.length) ((E 4).2.1)], vi k]) (D := no) (A := []) Tryd.func37 rfl 59 rfl [(0, .fn 0 64 dbT)] (WS.startL ⟨⟨rfl, hh0⟩, trivial⟩) fun ac hS => ?_
 refine hS.regS [0, 0, 0] [2] fun ν1 => seg [(3, pt (ν1 0) 0), (4, pt (ν1 1) 0)] [(0, none), (1, some ((ν1 0), .cells [pt b 0, vi 100, vi 44] 67)), (2, some ((ν1 1), .cells [.slice ((E 0).1) ((E 0).2.2.length) ((E 0).2.1), .slice ((E 1).1) ((E 1).2.2.length) ((E 1).2.1), .slice ((E 2).1) ((E 2).2.2.length) ((E 2).2.1), .slice ((E 3).1) ((E 3).2.2.length) ((E 3).2.1), .slice ((E 4).1) ((E 4).2.2.length) ((E 4).2.1)] 72))] [] trivial fun ac wd hS => ?_
 refine wp_seq ?_
 replace hS := hS.to (hS.mem.tell 2 (b := (ν1 1)) (x := (.cells [.slice ((E 0).1) ((E 0).2.2.length) ((E 0).2.1), .slice ((E 1).1) ((E 1).2.2.length) ((E 1).2.1), .slice ((E 2).1) ((E 2).2.2.length) ((E 2).2.1), .slice ((E 3).1) ((E 3).2.2.length) ((E 3).2.1), .slice ((E 4).1) ((E 4).2.2.length) ((E 4).2.1)] 72)) (.row 72 5 5 (hdV E 0)) (hh := fun h_ => HE.row5 h_))
 refine hS.regS [0] [2, 3, 4] fun _ => seg [(7, vi (-1))] [(0, none), (1, none), (2, none)] [] trivial fun ac wd hS => ?_
 refine wp_block ?_
 refine St.loopC (σ := Int) (fun (x7 : Int) => ⟨[(2, [], vi k), (3, [], pt (ν1 0) 0), (4, [], pt (ν1 1) 0), (7, [], vi x7)], [(0, .fn 0 64 dbT), ((ν1 0), .cells [pt b 0, vi 100, vi 44] 67), ((ν1 1), .row 72 5 5 (hdV E 0))], [], (-1 ≤ x7 ∧ x7 ≤ 6) ∧ True, Int.toNat (6 - x7)⟩) (-1) ⟨(by omega), trivial⟩ hS ?_
 clear hS
 rintro x7 ⟨i0, -⟩ ac wd hS
 replace i0 : -1 ≤ x7 ∧ x7 ≤ 6 := i0
 refine wp_seq ?_
 refine hS.regS [0, 0] [2, 3, 4, 7] fun _ => seg [(14, vb (decide ((x7 : Int) ≤ 5)))] [(0, none), (1, none), (2, none)] [] trivial fun ac wd hS => ?_
 refine hS.condC (decide ((x7 : Int) ≤ 5)) (fun hb1o hb1 => ?_) (fun hb1o hb1 => ?_)
 ·
  refine wp_skip ?_
  refine pop_then ?_
  refine wp_seq ?_
  refine wp_block ?_
  refine hS.regS [0] [2, 3, 4, 7] fun _ => seg [(8, vnil)] [(0, none), (1, none), (2, none)] [] trivial fun ac wd hS => ?_
  refine wp_seq ?_
  refine hS.regS [0, 0, 0, 3, 3, 80] [2, 3, 4, 7, 8] fun _ => seg [(22, vb ((decide ((0 : Int) ≤ x7)) && (decide ((x7 : Int) ≤ 4))))] [(0, none), (1, none), (2, none)] [] trivial fun ac wd hS => ?_
  refine hS.condC ((decide ((0 : Int) ≤ x7)) && (decide ((x7 : Int) ≤ 4))) (fun hb2o hb2 => ?_) (fun hb2o hb2 => ?_)
  ·
   refine hS.regC [0, 30, fx 200 (.slice ((E (Int.toNat x7)).1) ((E (Int.toNat x7)).2.2.length) ((E (Int.toNat x7)).2.1)), 0] [2, 3, 4, 7] fun _ => seg [(8, .slice ((E (Int.toNat x7)).1) ((E (Int.toNat x7)).2.2.length) ((E (Int.toNat x7)).2.1))] [(0, none), (1, none), (2, none)] [.p ((((hdV E 0) (0 + Int.toNat x7 * 1)) : Value) = .slice ((E (Int.toNat x7)).1) ((E (Int.toNat x7)).2.2.length) ((E (Int.toNat x7)).2.1)), .e (ν1 1), .p (0 + Int.toNat x7 * 1 < 5), .p (0 ≤ x7 ∧ x7 < ((5 : Nat) : Int))] ⟨((hdV_0 E 0 (Int.toNat x7))), (by omega), (by omega), trivial⟩ fun ac wd hS => ?_
   refine pop_then ?_
   obtain ⟨⟨ya, yc, yL⟩, hy⟩ : ∃ q_ : HdI, q_ = E (Int.toNat x7) := ⟨_, rfl⟩
   have hyr := hQ (Int.toNat x7) (by omega)
   rw [← hy] at hyr
   have hyl := hB (Int.toNat x7) (by omega)
   rw [← hy] at hyl
   replace hyl : yL.length ≤ 1000 := hyl
   have hyq : (E (Int.toNat x7)).2.2 = yL := by rw [← hy]
   have hch9 : ChB m x7 (bnN m 100 44 x7) yL := by rw [← hyq]; exact hT.at_ (by omega) (by omega)
   obtain ⟨yg, yo, hyv, hyh⟩ : ∃ g o, (yL.length = 0 ∨ ya = some ⟨g, o, none⟩) ∧ HE.holds w g (.fn o (o + yL.length) (ints yL o)) := hyr.open hh0
   replace hS := hS.fix 8 (.slice ya yL.length yc) (show (.slice ((E (Int.toNat x7)).1) ((E (Int.toNat x7)).2.2.length) ((E (Int.toNat x7)).2.1) : Value) = .slice ya yL.length yc by rw [← hy])
   replace hS := hS.to (hS.mem.acq (g := yg) (lo := yo) (hi := yo + yL.length) (f := ints yL yo) hyh (fun h_ => h_))
   refine wp_region_seq ?_
   refine hS.opsC 2 [100, 0] [2, 3, 4, 7, 8] fun _ => seg [(26, .agg #[pt b 0, vi 100, vi 44]), (27, vi x7)] [(0, none), (1, none), (2, none), (3, none)] [.e (ν1 0), .e (ν1 0), .e (ν1 0)] trivial fun ac wd hS => ?_
   refine hS.callC 95 #[.agg #[pt b 0, vi 100, vi 44], vi x7] (b_AllQ b F m 100 44 x7 yL _ (Res.keep hr hS.mem.fr) (hS.mem.get 0 0 (.fn 0 64 dbT)) (by first | assumption | omega | (simp_all; done) | (simp_all; omega)) (by exact hch9) (by first | exact hyl | decide)) ?_
   rintro _ wd ⟨ao23, c24, g25, o26, rfl, hv27, hog0, hoh0, hF⟩
   have ho8 : g25 = 0 ∨ w.heap.size ≤ g25 := by have := hS.mem.fr.size; have : w.heap.size ≤ _ := this; omega
   refine ⟨.slice ao23 yL.length c24, rfl, ?_⟩
   replace hS := (hS.to (hS.mem.outs hF [(g25, .fn o26 (o26 + yL.length) (ints yL o26))] ⟨⟨rfl, hoh0, (fun q_ => q_.elim (fun e => .inl ⟨0, .fn 0 64 dbT, by rw [e]; as_aux_lemma => kernel_rfl, rfl⟩) (fun q_ => .inr q_)) hog0⟩, trivial⟩)).put (d := 28) (v := .slice ao23 yL.length c24) (by decide)
   clear hF
   refine hS.opsC 1 [0] [2, 3, 4, 7, 28] fun _ => seg [(29, .slice ya yL.length yc)] [(0, none), (1, none), (2, none), (3, none), (4, none)] [] trivial fun ac wd hS => ?_
   refine hS.call0 94 #[.slice ao23 yL.length c24, .slice ya yL.length yc] 30 (eq_ints ao23 c24 g25 o26 yL ya yc yg yo _ (hS.mem.get 4 g25 (.fn o26 (o26 + yL.length) (ints yL o26))) (hS.mem.get 3 yg (.fn yo (yo + yL.length) (ints yL yo))) hv27 hyv (by first | omega | (simp; done))) fun ac wd hS => ?_
   refine hS.opsC 1 [0] [2, 3, 4, 7] fun _ => seg [(31, vb false)] [(0, none), (1, none), (2, none)] [] trivial fun ac wd hS => ?_
   refine list_nil_seq ?_
   refine hS.condF ?_
   refine wp_skip ?_
   refine pop_block ?_
   refine pop_then ?_
   refine hS.regC [0, 20, 0] [2, 3, 4] fun _ => seg [(7, vi (x7 + 1))] [(0, none), (1, none), (2, none)] [.p (fit .i64 (x7 + 1))] ⟨fit_i64 (by omega), trivial⟩ fun ac wd hS => ?_
   exact pop_then (hS.next (x7 + 1) ⟨(by first | omega | assumption | (simp; done) | (simp; omega)), trivial⟩ (by dsimp only; omega))
  ·
   refine wp_skip ?_
   refine pop_then ?_
   replace hS := hS.fix 8 (.slice none (([] : List Int).length) 0) (show (vnil : Value) = .slice none (([] : List Int).length) 0 from rfl)
   have hch9 : ChB m x7 (bnN m 100 44 x7) ([] : List Int) := hT.out (by first | omega | (simp_all; omega))
   refine wp_region_seq ?_
   refine hS.opsC 2 [100, 0] [2, 3, 4, 7, 8] fun _ => seg [(26, .agg #[pt b 0, vi 100, vi 44]), (27, vi x7)] [(0, none), (1, none), (2, none)] [.e (ν1 0), .e (ν1 0), .e (ν1 0)] trivial fun ac wd hS => ?_
   refine hS.callC 95 #[.agg #[pt b 0, vi 100, vi 44], vi x7] (b_AllQ b F m 100 44 x7 ([] : List Int) _ (Res.keep hr hS.mem.fr) (hS.mem.get 0 0 (.fn 0 64 dbT)) (by first | assumption | omega | (simp_all; done) | (simp_all; omega)) (by exact hch9) (by first | exact hyl | decide)) ?_
   rintro _ wd ⟨ao29, c210, g211, o212, rfl, hv213, hog0, hoh0, hF⟩
   have ho14 : g211 = 0 ∨ w.heap.size ≤ g211 := by have := hS.mem.fr.size; have : w.heap.size ≤ _ := this; omega
   refine ⟨.slice ao29 (([] : List Int).length) c210, rfl, ?_⟩
   replace hS := (hS.to (hS.mem.outs hF [(g211, .fn o212 (o212 + ([] : List Int).length) (ints ([] : List Int) o212))] ⟨⟨rfl, hoh0, (fun q_ => q_.elim (fun e => .inl ⟨0, .fn 0 64 dbT, by rw [e]; as_aux_lemma => kernel_rfl, rfl⟩) (fun q_ => .inr q_)) hog0⟩, trivial⟩)).put (d := 28) (v := .slice ao29 (([] : List Int).length) c210) (by decide)
   clear hF
   refine hS.opsC 1 [0] [2, 3, 4, 7, 28] fun _ => seg [(29, .slice none (([] : List Int).length) 0)] [(0, none), (1, none), (2, none), (3, none)] [] trivial fun ac wd hS => ?_
   refine hS.call0 94 #[.slice ao29 (([] : List Int).length) c210, .slice none (([] : List Int).length) 0] 30 (eq_ints ao29 c210 g211 o212 ([] : List Int) none 0 0 0 _ (hS.mem.get 3 g211 (.fn o212 (o212 + ([] : List Int).length) (ints ([] : List Int) o212))) (HE.fn_none (hS.mem.get 0 0 (.fn 0 64 dbT)) rfl) hv213 (.inl rfl) (by first | omega | (simp; done))) fun ac wd hS => ?_
   refine hS.opsC 1 [0] [2, 3, 4, 7] fun _ => seg [(31, vb false)] [(0, none), (1, none), (2, none)] [] trivial fun ac wd hS => ?_
   refine list_nil_seq ?_
   refine hS.condF ?_
   refine wp_skip ?_
   refine pop_block ?_
   refine pop_then ?_
   refine hS.regC [0, 20, 0] [2, 3, 4] fun _ => seg [(7, vi (x7 + 1))] [(0, none), (1, none), (2, none)] [.p (fit .i64 (x7 + 1))] ⟨fit_i64 (by omega), trivial⟩ fun ac wd hS => ?_
   exact pop_then (hS.next (x7 + 1) ⟨(by first | omega | assumption | (simp; done) | (simp; omega)), trivial⟩ (by dsimp only; omega))
 ·
  refine wp_exit ?_
  refine pop_then_exit ?_
  refine pop_then_exit ?_
  refine pop_block_hit ?_
  refine pop_then ?_
  refine wp_region_seq ?_
  refine hS.opsC 2 [100, 0] [2, 3, 4] fun _ => seg [(33, .agg #[pt b 0, vi 100, vi 44]), (34, vi k)] [(0, none), (1, none), (2, none)] [.e (ν1 0), .e (ν1 0), .e (ν1 0)] trivial fun ac wd hS => ?_
  refine hS.call0 96 #[.agg #[pt b 0, vi 100, vi 44], vi k] 35 (b_LeastQ b F m 100 44 k (fun j_ => (E j_).2.2) _ (Res.keep hr hS.mem.fr) (by first | assumption | omega | (simp_all; done) | (simp_all; omega)) (by exact hT.ch)) fun ac wd hS => ?_
  refine hS.opsC 5 [0, 0, 0, 0, 0] [2, 3, 4] fun _ => seg [(9, vi ((lstB (fun j_ => (E j_).2.2) k).1)), (10, vb ((lstB (fun j_ => (E j_).2.2) k).2))] [(0, none), (1, none), (2, none)] [] trivial fun ac wd hS => ?_
  refine list_nil_seq ?_
  refine wp_region_seq ?_
  refine hS.opsC 2 [fx 200 (.agg #[.slice ((E 0).1) ((E 0).2.2.length) ((E 0).2.1), .slice ((E 1).1) ((E 1).2.2.length) ((E 1).2.1), .slice ((E 2).1) ((E 2).2.2.length) ((E 2).2.1), .slice ((E 3).1) ((E 3).2.2.length) ((E 3).2.1), .slice ((E 4).1) ((E 4).2.2.length) ((E 4).2.1)]), 0] [3, 4, 9, 10] fun _ => seg [(39, .agg #[.slice ((E 0).1) ((E 0).2.2.length) ((E 0).2.1), .slice ((E 1).1) ((E 1).2.2.length) ((E 1).2.1), .slice ((E 2).1) ((E 2).2.2.length) ((E 2).2.1), .slice ((E 3).1) ((E 3).2.2.length) ((E 3).2.1), .slice ((E 4).1) ((E 4).2.2.length) ((E 4).2.1)]), (40, vi k)] [(0, none), (1, none), (2, none)] [.p ((.agg #[((hdV E 0) 0), ((hdV E 0) 1), ((hdV E 0) 2), ((hdV E 0) 3), ((hdV E 0) 4)] : Value) = .agg #[.slice ((E 0).1) ((E 0).2.2.length) ((E 0).2.1), .slice ((E 1).1) ((E 1).2.2.length) ((E 1).2.1), .slice ((E 2).1) ((E 2).2.2.length) ((E 2).2.1), .slice ((E 3).1) ((E 3).2.2.length) ((E 3).2.1), .slice ((E 4).1) ((E 4).2.2.length) ((E 4).2.1)]), .e (ν1 1), .p (4 < 5), .e (ν1 1), .p (3 < 5), .e (ν1 1), .p (2 < 5), .e (ν1 1), .p (1 < 5), .e (ν1 1), .p (0 < 5)] ⟨(agg5 (hdV_a E 0 0) (hdV_a E 0 1) (hdV_a E 0 2) (hdV_a E 0 3) (hdV_a E 0 4)), (by omega), (by omega), (by omega), (by omega), (by omega), trivial⟩ fun ac wd hS => ?_
  refine hS.call0 97 #[.agg #[.slice ((E 0).1) ((E 0).2.2.length) ((E 0).2.1), .slice ((E 1).1) ((E 1).2.2.length) ((E 1).2.1), .slice ((E 2).1) ((E 2).2.2.length) ((E 2).2.1), .slice ((E 3).1) ((E 3).2.2.length) ((E 3).2.1), .slice ((E 4).1) ((E 4).2.2.length) ((E 4).2.1)], vi k] 41 (r11_Least E k _  ) fun ac wd hS => ?_
  refine hS.opsC 5 [0, 0, 0, 0, 0] [3, 4, 9, 10] fun _ => seg [(11, vi ((lstB (fun j_ => (E j_).2.2) k).1)), (12, vb ((lstB (fun j_ => (E j_).2.2) k).2))] [(0, none), (1, none), (2, none)] [] trivial fun ac wd hS => ?_
  refine list_nil_seq ?_
  refine St.ordBeginS [(0, 1), (1, 1), (2, 1), (3, 1), (4, 1), (5, 1), (6, 1), (7, 1), (8, 1), (9, 1), (11, 1), (10, 0), (12, 0), (13, 1), (14, 1), (15, 1)] [(0, .fn 0 64 dbT), ((ν1 0), .cells [pt b 0, vi 100, vi 44] 67), ((ν1 1), .row 72 5 5 (hdV E 0))] [0, 1, 2] hS fun wd hS => ?_
  have hap := hS.mem.pairs (Hf := [(0, .fn 0 64 dbT), ((ν1 0), .cells [pt b 0, vi 100, vi 44] 67), ((ν1 1), .row 72 5 5 (hdV E 0))]) (l := [0, 1, 2])
  refine St.ordF [0, 0, fx 0 (vb true), 0, 1, 1, fx 1 (vb true), 70, 0, 101, fx 201 (.agg #[.slice ((E 0).1) ((E 0).2.2.length) ((E 0).2.1), .slice ((E 1).1) ((E 1).2.2.length) ((E 1).2.1), .slice ((E 2).1) ((E 2).2.2.length) ((E 2).2.1), .slice ((E 3).1) ((E 3).2.2.length) ((E 3).2.1), .slice ((E 4).1) ((E 4).2.2.length) ((E 4).2.1)])] [0, 1, 2, 3, 4, 5, 6, 7, 8, 9, 11] [] (rest := [(10, 0), (12, 0), (13, 1), (14, 1), (15, 1)]) hS hap <| segF [(52, vb true), (53, .agg #[pt b 0, vi 100, vi 44]), (55, .agg #[.slice ((E 0).1) ((E 0).2.2.length) ((E 0).2.1), .slice ((E 1).1) ((E 1).2.2.length) ((E 1).2.1), .slice ((E 2).1) ((E 2).2.2.length) ((E 2).2.1), .slice ((E 3).1) ((E 3).2.2.length) ((E 3).2.1), .slice ((E 4).1) ((E 4).2.2.length) ((E 4).2.1)])] [.t true, .p ((.agg #[((hdV E 0) 0), ((hdV E 0) 1), ((hdV E 0) 2), ((hdV E 0) 3), ((hdV E 0) 4)] : Value) = .agg #[.slice ((E 0).1) ((E 0).2.2.length) ((E 0).2.1), .slice ((E 1).1) ((E 1).2.2.length) ((E 1).2.1), .slice ((E 2).1) ((E 2).2.2.length) ((E 2).2.1), .slice ((E 3).1) ((E 3).2.2.length) ((E 3).2.1), .slice ((E 4).1) ((E 4).2.2.length) ((E 4).2.1)]), .e (ν1 1), .p (4 < 5), .e (ν1 1), .p (3 < 5), .e (ν1 1), .p (2 < 5), .e (ν1 1), .p (1 < 5), .e (ν1 1), .p (0 < 5), .t true, .e (ν1 0), .e (ν1 0), .e (ν1 0), .t true, .t true, .p ((vb (((lstB (fun j_ => (E j_).2.2) k).2) == ((lstB (fun j_ => (E j_).2.2) k).2)) : Value) = vb true), .t true, .t true, .p ((vb (((lstB (fun j_ => (E j_).2.2) k).1 : Int) == ((lstB (fun j_ => (E j_).2.2) k).1)) : Value) = vb true)] ⟨(agg5 (hdV_a E 0 0) (hdV_a E 0 1) (hdV_a E 0 2) (hdV_a E 0 3) (hdV_a E 0 4)), (by omega), (by omega), (by omega), (by omega), (by omega), (congrArg Value.bool (by simp)), (congrArg Value.bool (beq_self_eq_true _)), trivial⟩ fun ac hS => ?_
  refine hS.ordCG 10 true 98 #[.agg #[pt b 0, vi 100, vi 44]] (b_CountQ b F m 100 44 (fun j_ => (E j_).2.2) _ (Res.keep hr hS.mem.fr) (hS.mem.get 0 0 (.fn 0 64 dbT)) (by first | assumption | omega | (simp_all; done) | (simp_all; omega)) (by exact hT.ch) (by exact hB)) ?_
  rintro _ wd ⟨rfl, hF⟩
  refine ⟨vi (cntB (fun j_ => (E j_).2.2)), rfl, ?_⟩
  replace hS := (hS.to (hS.mem.keep0 hF)).put (d := 54) (v := vi (cntB (fun j_ => (E j_).2.2))) (by decide)
  clear hF
  refine hS.ordV (l := [0, 1, 2]) ?_
  refine hS.ordCG 12 true 99 #[.agg #[.slice ((E 0).1) ((E 0).2.2.length) ((E 0).2.1), .slice ((E 1).1) ((E 1).2.2.length) ((E 1).2.1), .slice ((E 2).1) ((E 2).2.2.length) ((E 2).2.1), .slice ((E 3).1) ((E 3).2.2.length) ((E 3).2.1), .slice ((E 4).1) ((E 4).2.2.length) ((E 4).2.1)]] (r11_Count E _  (by exact hB)) ?_
  rintro _ wd ⟨rfl, hF⟩
  refine ⟨vi (cntB (fun j_ => (E j_).2.2)), rfl, ?_⟩
  replace hS := (hS.to (hS.mem.keep0 hF)).put (d := 56) (v := vi (cntB (fun j_ => (E j_).2.2))) (by decide)
  clear hF
  refine hS.ordV (l := [0, 1, 2]) ?_
  refine St.ordF [fx 1 (vb true), 70, 0] [13, 14, 15] [] (rest := []) hS hap <| segF [(6, vb true)] [.t true, .t true, .p ((vb (((cntB (fun j_ => (E j_).2.2)) : Int) == (cntB (fun j_ => (E j_).2.2))) : Value) = vb true)] ⟨(congrArg Value.bool (beq_self_eq_true _)), trivial⟩ fun ac hS => ?_
  refine ord_nil ?_
  refine wp_ret ?_
  refine St.retC 0 hS (vb true) [] trivial fun hw => ?_
  refine ⟨retd rfl, hw.fr0⟩

end Go.Proofs.YtdjhdcaanmkblaaDoor.K
