/-
  Walks, printed by w2.py.
-/
import Derived.Test.YtnbkafnikpbmbaaDoorLn
import Derived.Test.YtnbkafnikpbmbaaDoorOz
import Derived.Test.YtnbkafnikpbmbaaDoorProg
namespace Go.Proofs.YtnbkafnikpbmbaaDoor.K
set_option linter.unusedVariables false
set_option linter.unusedSimpArgs false

theorem ls_AddQ (b : Nat) (F : Nat → Prop) (m : AM) (o_ : Int) (z : Int) (k : Int) (a : Int) (l : List HdI) (bb : Nat) (w : World) (hr : (arR b F m).R w) (ho : 0 ≤ o_ ∧ 0 ≤ z ∧ o_ + z ≤ 4294967296) (h64 : o_ = 64) (hT : LsT m z l bb) (ha : a ≤ 4611686018427387904) :
    Calls Tryd.prog 48 #[.agg #[pt b 0, vi o_, vi z], vi k, vi a] w fun e w' => ∃ (F' : Nat → Prop), e = .returned (vi (qAddE m z l k a)) ∧ (arR b F' (qAddM m z l k a)).R w' ∧ Fr w w' F F' := by
 subst h64
 by_cases hc : lchE z k = 0
 · obtain ⟨hi, hk⟩ := hT.hki hc
   have e0 : (qAddE m z l k a) = lsaE m (Qf l (Int.toNat k)) a := (by unfold qAddE; rw [if_pos hc]); have e1 : (qAddM m z l k a) = lsaM m 64 z k (Qf l (Int.toNat k)) a := (by unfold qAddM; rw [if_pos hc]); rw [e0, e1]
   exact ls_Add b F m 64 z k a (Qf l (Int.toNat k)) w hr ho hk (hT.ch hi) (hT.ps k) ha
 · have e0 : (qAddE m z l k a) = lchE z k := (by unfold qAddE; rw [if_neg hc]); have e1 : (qAddM m z l k a) = m := (by unfold qAddM; rw [if_neg hc]); rw [e0, e1]
   exact ls_Add_no b F m 64 z k a w hr ho hc

theorem ls_RemQ (b : Nat) (F : Nat → Prop) (m : AM) (o_ : Int) (z : Int) (k : Int) (a : Int) (l : List HdI) (bb : Nat) (w : World) (hr : (arR b F m).R w) (ho : 0 ≤ o_ ∧ 0 ≤ z ∧ o_ + z ≤ 4294967296) (h64 : o_ = 64) (hT : LsT m z l bb) :
    Calls Tryd.prog 46 #[.agg #[pt b 0, vi o_, vi z], vi k, vi a] w fun e w' => ∃ (F' : Nat → Prop), e = .returned (vi (qRemE z l k a)) ∧ (arR b F' (qRemM m z l k a)).R w' ∧ Fr w w' F F' := by
 subst h64
 by_cases hc : lchE z k = 0
 · obtain ⟨hi, hk⟩ := hT.hki hc
   have e0 : (qRemE z l k a) = lsrE (Qf l (Int.toNat k)) a := (by unfold qRemE; rw [if_pos hc]); have e1 : (qRemM m z l k a) = lsrM m 64 z k (Qf l (Int.toNat k)) a := (by unfold qRemM; rw [if_pos hc]); rw [e0, e1]
   exact ls_Remove b F m 64 z k a (Qf l (Int.toNat k)) w hr ho hk (hT.ch hi) (hT.ps k)
 · have e0 : (qRemE z l k a) = lchE z k := (by unfold qRemE; rw [if_neg hc]); have e1 : (qRemM m z l k a) = m := (by unfold qRemM; rw [if_neg hc]); rw [e0, e1]
   exact ls_Remove_no b F m 64 z k a w hr ho hc

theorem ls_HasQ (b : Nat) (F : Nat → Prop) (m : AM) (o_ : Int) (z : Int) (k : Int) (a : Int) (l : List HdI) (bb : Nat) (w : World) (hr : (arR b F m).R w) (ho : 0 ≤ o_ ∧ 0 ≤ z ∧ o_ + z ≤ 4294967296) (h64 : o_ = 64) (hT : LsT m z l bb) :
    Calls Tryd.prog 51 #[.agg #[pt b 0, vi o_, vi z], vi k, vi a] w fun e w' => e = .returned (vb (qHas z l k a)) ∧ Fr w w' no no := by
 subst h64
 by_cases hc : lchE z k = 0
 · obtain ⟨hi, hk⟩ := hT.hki hc
   have e0 : (qHas z l k a) = hasL (Qf l (Int.toNat k)) a := (by unfold qHas; rw [if_pos hc]); rw [e0]
   exact ls_Has b F m 64 z k a (Qf l (Int.toNat k)) w hr ho hk (hT.ch hi) (hT.ps k)
 · have e0 : (qHas z l k a) = false := (by unfold qHas; rw [if_neg hc]); rw [e0]
   exact ls_Has_no b 64 z k a w ho hc

theorem ls_FirstQ (b : Nat) (F : Nat → Prop) (m : AM) (o_ : Int) (z : Int) (k : Int) (l : List HdI) (bb : Nat) (w : World) (hr : (arR b F m).R w) (ho : 0 ≤ o_ ∧ 0 ≤ z ∧ o_ + z ≤ 4294967296) (h64 : o_ = 64) (hT : LsT m z l bb) :
    Calls Tryd.prog 123 #[.agg #[pt b 0, vi o_, vi z], vi k] w fun e w' => e = .returned (.tuple #[vi (List.getD (qL l k) 0 0), vb ((List.getD (qL l k) 0 0 : Int) != 0)]) ∧ Fr w w' no no := by
 subst h64
 by_cases hc : lchE z k = 0
 · obtain ⟨hi, hk⟩ := hT.hki hc
   rw [hT.qin hc]
   exact ls_First b F m 64 z k (Qf l (Int.toNat k)) w hr ho hk (hT.ch hi) (hT.ps k)
 · rw [hT.qout hc]
   exact ls_First_no b 64 z k w ho hc

theorem ls_AllQ (b : Nat) (F : Nat → Prop) (m : AM) (o_ : Int) (z : Int) (k : Int) (l : List HdI) (bb : Nat) (w : World) (hr : (arR b F m).R w) (hh0 : HE.holds w 0 (.fn 0 64 dbT)) (ho : 0 ≤ o_ ∧ 0 ≤ z ∧ o_ + z ≤ 4294967296) (h64 : o_ = 64) (hT : LsT m z l bb) (hbb : bb ≤ 1000) :
    Calls Tryd.prog 130 #[.agg #[pt b 0, vi o_, vi z], vi k] w fun e w' => ∃ (ao2 : Option Addr) (c2 : Nat) (g2 : Nat) (o2 : Nat), e = .returned (.slice ao2 ((qL l k).length) c2) ∧ ((qL l k).length = 0 ∨ ao2 = some ⟨g2, o2, none⟩) ∧ (g2 = 0 ∨ w.heap.size ≤ g2) ∧ HE.holds w' g2 (.fn o2 (o2 + (qL l k).length) (ints (qL l k) o2)) ∧ Fr w w' no no := by
 subst h64
 by_cases hc : lchE z k = 0
 · obtain ⟨hi, hk⟩ := hT.hki hc
   have hlq : (Qf l (Int.toNat k)).length ≤ 4294967296 := by have := hT.len (Int.toNat k); omega
   rw [hT.qin hc]
   rcases Nat.eq_zero_or_pos (Qf l (Int.toNat k)).length with h0 | h0
   · refine (ls_All_none b F m 64 z k (Qf l (Int.toNat k)) w hr ho hk (hT.ch hi) (hT.ps k) hlq h0).mono ?_
     rintro e w2 ⟨rfl, hf⟩
     exact ⟨none, 0, 0, 0, by rw [h0], .inl h0, .inl rfl, HE.fn_none (hh0.congr (hf.block _ hh0.lt (fun q => q))) h0, hf⟩
   · refine (ls_All_some b F m 64 z k (Qf l (Int.toNat k)) w hr ho hk (hT.ch hi) (hT.ps k) hlq h0).mono ?_
     rintro e w2 ⟨g2, c2, rfl, hg, hh, hf⟩
     exact ⟨_, c2, g2, 0, rfl, .inr rfl, .inr hg, hh, hf⟩
 · rw [hT.qout hc]
   refine (ls_All_no b 64 z k w ho hc).mono ?_
   rintro e w2 ⟨rfl, hf⟩
   exact ⟨none, 0, 0, 0, rfl, .inl rfl, .inl rfl, HE.fn_none (hh0.congr (hf.block _ hh0.lt (fun q => q))) rfl, hf⟩

set_option maxRecDepth 100000 in
set_option maxHeartbeats 1000000 in
theorem eq_ints (ao1 : Option Addr) (c1 : Nat) (g1 : Nat) (o1 : Nat) (l : List (Int)) (ao2 : Option Addr) (c2 : Nat) (g2 : Nat) (o2 : Nat) (w : World) (hh0 : HE.holds w g1 (.fn o1 (o1 + l.length) (ints l o1))) (hh1 : HE.holds w g2 (.fn o2 (o2 + l.length) (ints l o2))) (hv1 : (l.length = 0 ∨ ao1 = some ⟨g1, o1, none⟩)) (hv2 : (l.length = 0 ∨ ao2 = some ⟨g2, o2, none⟩)) (hl : l.length ≤ 4294967295) :
    Calls Tryd.prog 88 #[.slice ao1 l.length c1, .slice ao2 l.length c2] w fun e w' => e = .returned (vb true) ∧ Fr w w' no no := by
 refine enter (args := [.slice ao1 l.length c1, .slice ao2 l.length c2]) (D := no) (A := []) Tryd.func88 rfl 26 rfl [(g1, .fn o1 (o1 + l.length) (ints l o1)), (g2, .fn o2 (o2 + l.length) (ints l o2))] (WS.startL ⟨⟨rfl, hh0⟩, ⟨rfl, hh1⟩, trivial⟩) fun ac hS => ?_
 refine hS.regS [0] [0, 1] fun _ => seg [] [(0, none), (1, none)] [] trivial fun ac wd hS => ?_
 refine wp_seq ?_
 refine hS.regS [0, 0, 0, 0, fx 0 (vb false)] [0, 1] fun _ => seg [(10, vb false)] [(0, none), (1, none)] [.p ((vb ((((l.length : Nat) : Int) : Int) != ((l.length : Nat) : Int)) : Value) = vb false)] ⟨(congrArg Value.bool (bne_self_eq_false _)), trivial⟩ fun ac wd hS => ?_
 refine hS.condF ?_
 refine wp_skip ?_
 refine pop_then ?_
 refine wp_seq ?_
 refine hS.regS [0, 0, 0] [0, 1] fun _ => seg [(12, vi ((l.length : Nat) : Int)), (13, vi 0)] [(0, none), (1, none)] [] trivial fun ac wd hS => ?_
 refine wp_block ?_
 refine St.loopC (σ := Int) (fun (x13 : Int) => ⟨[(0, [], .slice ao1 l.length c1), (1, [], .slice ao2 l.length c2), (12, [], vi ((l.length : Nat) : Int)), (13, [], vi x13)], [(g1, .fn o1 (o1 + l.length) (ints l o1)), (g2, .fn o2 (o2 + l.length) (ints l o2))], [], (0 ≤ x13 ∧ x13 ≤ (l.length : Int)) ∧ True, l.length - Int.toNat x13⟩) 0 ⟨(by omega), trivial⟩ hS ?_
 clear hS
 rintro x13 ⟨i0, -⟩ ac wd hS
 replace i0 : 0 ≤ x13 ∧ x13 ≤ (l.length : Int) := i0
 refine hS.regS [0] [0, 1, 12, 13] fun _ => seg [(14, vb (decide ((x13 : Int) < ((l.length : Nat) : Int))))] [(0, none), (1, none)] [] trivial fun ac wd hS => ?_
 refine wp_seq ?_
 refine hS.condC (decide ((x13 : Int) < ((l.length : Nat) : Int))) (fun hb1o hb1 => ?_) (fun hb1o hb1 => ?_)
 ·
  refine wp_skip ?_
  refine pop_then ?_
  refine wp_seq ?_
  refine wp_block ?_
  refine hS.regS [0, 0] [0, 1, 12, 13] fun _ => seg [(5, vi x13)] [(0, none), (1, none)] [] trivial fun ac wd hS => ?_
  obtain rfl : ao1 = some ⟨g1, o1, none⟩ := Or.resolve_left hv1 (by omega)
  obtain rfl : ao2 = some ⟨g2, o2, none⟩ := Or.resolve_left hv2 (by omega)
  refine hS.drawS [0, 0, 20, fx 0 (vi (List.getD l (Int.toNat x13) 0)), 0, 0, 20, fx 100 (vi (List.getD l (Int.toNat x13) 0)), fx 0 (vb false)] [0, 1, 12, 13] <| seg [(24, vb false)] [(0, none), (1, none)] [.p ((vb (((List.getD l (Int.toNat x13) 0) : Int) != (List.getD l (Int.toNat x13) 0)) : Value) = vb false), .p ((((ints l o2) (o2 + Int.toNat x13 * 1)) : Value) = vi (List.getD l (Int.toNat x13) 0)), .e g2, .p (o2 ≤ o2 + Int.toNat x13 * 1 ∧ o2 + Int.toNat x13 * 1 < (o2 + l.length)), .p ((0 : Int) ≤ x13 ∧ (x13 : Int) < ((l.length : Nat) : Int)), .p ((((ints l o1) (o1 + Int.toNat x13 * 1)) : Value) = vi (List.getD l (Int.toNat x13) 0)), .e g1, .p (o1 ≤ o1 + Int.toNat x13 * 1 ∧ o1 + Int.toNat x13 * 1 < (o1 + l.length)), .p ((0 : Int) ≤ x13 ∧ (x13 : Int) < ((l.length : Nat) : Int))] ⟨(congrArg Value.bool (bne_self_eq_false _)), (ints_rel l o2 (Int.toNat x13)), (by omega), (by omega), (ints_rel l o1 (Int.toNat x13)), (by omega), (by omega), trivial⟩ fun ac wd hS => ?_
  refine hS.condF ?_
  refine wp_skip ?_
  refine pop_block ?_
  refine pop_then ?_
  refine hS.regC [20, 0] [0, 1, 12] fun _ => seg [(13, vi (x13 + 1))] [(0, none), (1, none)] [.p (fit .i64 (x13 + 1))] ⟨fit_i64 (by omega), trivial⟩ fun ac wd hS => ?_
  exact pop_then (hS.next (x13 + 1) ⟨(by first | omega | assumption | (simp; done) | (simp; omega)), trivial⟩ (by dsimp only; omega))
 ·
  refine wp_exit ?_
  refine pop_then_exit ?_
  refine pop_then_exit ?_
  refine pop_block_hit ?_
  refine pop_then ?_
  refine hS.regS [0] [] fun _ => seg [(4, vb true)] [] [] trivial fun ac wd hS => ?_
  refine wp_ret ?_
  refine St.retC 0 hS (vb true) [] trivial fun hw => ?_
  refine ⟨retd rfl, hw.fr0⟩

set_option maxRecDepth 100000 in
set_option maxHeartbeats 1000000 in
theorem law07_told (b : Nat) (F : Nat → Prop) (m : AM) (o_ : Int) (z : Int) (ao1 : Option Addr) (c1 : Nat) (g1 : Nat) (o1 : Nat) (l : List (HdI)) (bb : Nat) (w : World) (hr : (arR b F m).R w) (hh0 : HE.holds w 0 (.fn 0 64 dbT)) (hh1 : HE.holds w g1 (.fn o1 (o1 + l.length) (hdV (gtD l) o1))) (ho : 0 ≤ o_ ∧ 0 ≤ z ∧ o_ + z ≤ 4294967296) (h64 : o_ = 64) (hv1 : (l.length = 0 ∨ ao1 = some ⟨g1, o1, none⟩)) (hQ : ∀ i, i < l.length → rgH w (gtD l i)) (hT : LsT m z l bb) (hbb : bb ≤ 1000) :
    Calls Tryd.prog 50 #[.agg #[pt b 0, vi o_, vi z], .slice ao1 l.length c1] w fun e w' => e = .returned (vb true) ∧ Fr w w' no no := by
 have h12 := hT.n12
 have hz8 := hT.hz
 refine enter (args := [.agg #[pt b 0, vi o_, vi z], .slice ao1 l.length c1]) (D := no) (A := []) Tryd.func50 rfl 69 rfl [(0, .fn 0 64 dbT), (g1, .fn o1 (o1 + l.length) (hdV (gtD l) o1))] (WS.startL ⟨⟨rfl, hh0⟩, ⟨rfl, hh1⟩, trivial⟩) fun ac hS => ?_
 refine hS.regS [0, 0] [1] fun ν1 => seg [(2, pt (ν1 0) 0)] [(0, none), (1, none), (2, some ((ν1 0), .cells [pt b 0, vi o_, vi z] 89))] [] trivial fun ac wd hS => ?_
 refine wp_seq ?_
 refine hS.regS [0] [1, 2] fun _ => seg [(5, vi (-1))] [(0, none), (1, none), (2, none)] [] trivial fun ac wd hS => ?_
 refine wp_block ?_
 refine St.loopC (σ := Int) (fun (x5 : Int) => ⟨[(1, [], .slice ao1 l.length c1), (2, [], pt (ν1 0) 0), (5, [], vi x5)], [(0, .fn 0 64 dbT), (g1, .fn o1 (o1 + l.length) (hdV (gtD l) o1)), ((ν1 0), .cells [pt b 0, vi o_, vi z] 89)], [], (-1 ≤ x5 ∧ x5 ≤ ((l.length : Nat) : Int) + 1) ∧ True, Int.toNat (((l.length : Nat) : Int) + 1 - x5)⟩) (-1) ⟨(by omega), trivial⟩ hS ?_
 clear hS
 rintro x5 ⟨i0, -⟩ ac wd hS
 replace i0 : -1 ≤ x5 ∧ x5 ≤ ((l.length : Nat) : Int) + 1 := i0
 refine wp_seq ?_
 refine hS.regS [0, 0, 0, 0] [1, 2, 5] fun _ => seg [(12, vb (decide ((x5 : Int) ≤ ((l.length : Nat) : Int))))] [(0, none), (1, none), (2, none)] [] trivial fun ac wd hS => ?_
 refine hS.condC (decide ((x5 : Int) ≤ ((l.length : Nat) : Int))) (fun hb1o hb1 => ?_) (fun hb1o hb1 => ?_)
 ·
  refine wp_skip ?_
  refine pop_then ?_
  refine wp_seq ?_
  refine wp_block ?_
  refine hS.regS [0] [1, 2, 5] fun _ => seg [(6, vnil)] [(0, none), (1, none), (2, none)] [] trivial fun ac wd hS => ?_
  refine wp_seq ?_
  refine hS.regS [0, 0, 0, 3, 3, 3, 3, 80] [1, 2, 5, 6] fun _ => seg [(22, vb ((decide ((0 : Int) ≤ x5)) && (decide ((x5 : Int) < ((l.length : Nat) : Int)))))] [(0, none), (1, none), (2, none)] [] trivial fun ac wd hS => ?_
  refine hS.condC ((decide ((0 : Int) ≤ x5)) && (decide ((x5 : Int) < ((l.length : Nat) : Int)))) (fun hb2o hb2 => ?_) (fun hb2o hb2 => ?_)
  ·
   obtain rfl : ao1 = some ⟨g1, o1, none⟩ := Or.resolve_left hv1 (by omega)
   refine hS.regC [0, 0, 20, fx 100 (.slice (((gtD l) (Int.toNat x5)).1) (((gtD l) (Int.toNat x5)).2.2.length) (((gtD l) (Int.toNat x5)).2.1)), 0] [1, 2, 5] fun _ => seg [(6, .slice (((gtD l) (Int.toNat x5)).1) (((gtD l) (Int.toNat x5)).2.2.length) (((gtD l) (Int.toNat x5)).2.1))] [(0, none), (1, none), (2, none)] [.p ((((hdV (gtD l) o1) (o1 + Int.toNat x5 * 1)) : Value) = .slice (((gtD l) (Int.toNat x5)).1) (((gtD l) (Int.toNat x5)).2.2.length) (((gtD l) (Int.toNat x5)).2.1)), .e g1, .p (o1 ≤ o1 + Int.toNat x5 * 1 ∧ o1 + Int.toNat x5 * 1 < (o1 + l.length)), .p ((0 : Int) ≤ x5 ∧ (x5 : Int) < ((l.length : Nat) : Int))] ⟨((hdV_0 (gtD l) o1 (Int.toNat x5))), (by omega), (by omega), trivial⟩ fun ac wd hS => ?_
   refine pop_then ?_
   have hrk : rchk l x5 = 0 := by unfold rchk; rw [if_neg (by first | omega | (simp_all; omega))]
   have hqe : (gtD l (Int.toNat x5)).2.2 = qL l x5 := (qL_in hrk).symm
   have hyr := hQ _ (show Int.toNat x5 < l.length by have := rchk_in hrk; omega)
   obtain ⟨yg, yo, hyv, hyh⟩ := hyr.open hh0
   rw [hqe] at hyv hyh
   obtain ⟨ya, ya_e⟩ : ∃ q_ : Option Addr, q_ = (gtD l (Int.toNat x5)).1 := ⟨_, rfl⟩
   rw [← ya_e] at hyv
   replace hS := hS.fix 6 (.slice ya (qL l x5).length (((gtD l) (Int.toNat x5)).2.1)) (show (.slice (((gtD l) (Int.toNat x5)).1) (((gtD l) (Int.toNat x5)).2.2.length) (((gtD l) (Int.toNat x5)).2.1) : Value) = .slice ya (qL l x5).length (((gtD l) (Int.toNat x5)).2.1) by rw [hqe, ya_e])
   clear ya_e hyr
   replace hS := hS.to (hS.mem.acq (g := yg) (lo := yo) (hi := yo + (qL l x5).length) (f := ints (qL l x5) yo) hyh (fun h_ => h_))
   have hps5 := hT.psq x5
   have hlq5 := hT.lenq x5
   rcases Nat.eq_zero_or_pos (qL l x5).length with h0 | h0
   ·
    refine wp_region_seq ?_
    refine hS.opsC 2 [200, 0] [1, 2, 5, 6] fun _ => seg [(28, .agg #[pt b 0, vi o_, vi z]), (29, vi x5)] [(0, none), (1, none), (2, none), (3, none)] [.e (ν1 0), .e (ν1 0), .e (ν1 0)] trivial fun ac wd hS => ?_
    refine hS.call0 123 #[.agg #[pt b 0, vi o_, vi z], vi x5] 30 (ls_FirstQ b F m o_ z x5 l bb _ (Res.keep hr hS.mem.fr) (by first | assumption | omega | (simp_all; done) | (simp_all; omega)) (by exact h64) (by exact hT)) fun ac wd hS => ?_
    refine hS.opsC 5 [0, 0, 0, 0, 0] [1, 2, 5, 6] fun _ => seg [(7, vi (List.getD (qL l x5) 0 0)), (8, vb ((List.getD (qL l x5) 0 0 : Int) != 0))] [(0, none), (1, none), (2, none), (3, none)] [] trivial fun ac wd hS => ?_
    refine list_nil_seq ?_
    replace hS := hS.fix 8 (vb false) (show (vb ((List.getD (qL l x5) 0 0 : Int) != 0) : Value) = vb false from congrArg Value.bool (by rw [ok_len hps5]; exact decide_eq_false (by omega)))
    refine wp_region_seq ?_
    refine hS.opsC 2 [200, 0] [1, 2, 5, 6, 7, 8] fun _ => seg [(33, .agg #[pt b 0, vi o_, vi z]), (34, vi x5)] [(0, none), (1, none), (2, none), (3, none)] [.e (ν1 0), .e (ν1 0), .e (ν1 0)] trivial fun ac wd hS => ?_
    refine hS.callC 130 #[.agg #[pt b 0, vi o_, vi z], vi x5] (ls_AllQ b F m o_ z x5 l bb _ (Res.keep hr hS.mem.fr) (hS.mem.get 0 0 (.fn 0 64 dbT)) (by first | assumption | omega | (simp_all; done) | (simp_all; omega)) (by exact h64) (by exact hT) (by first | assumption | omega | (simp_all; done) | (simp_all; omega))) ?_
    rintro _ wd ⟨ao23, c24, g25, o26, rfl, hv27, hog0, hoh0, hF⟩
    have ho8 : g25 = 0 ∨ w.heap.size ≤ g25 := by have := hS.mem.fr.size; have : w.heap.size ≤ _ := this; omega
    refine ⟨.slice ao23 ((qL l x5).length) c24, rfl, ?_⟩
    replace hS := (hS.to (hS.mem.outs hF [(g25, .fn o26 (o26 + (qL l x5).length) (ints (qL l x5) o26))] ⟨⟨rfl, hoh0, (fun q_ => q_.elim (fun e => .inl ⟨0, .fn 0 64 dbT, by rw [e]; as_aux_lemma => kernel_rfl, rfl⟩) (fun q_ => .inr q_)) hog0⟩, trivial⟩)).put (d := 35) (v := .slice ao23 ((qL l x5).length) c24) (by decide)
    clear hF
    refine hS.opsC 1 [0] [1, 2, 5, 6, 7, 8, 35] fun _ => seg [(36, .slice ya ((qL l x5).length) (((gtD l) (Int.toNat x5)).2.1))] [(0, none), (1, none), (2, none), (3, none), (4, none)] [] trivial fun ac wd hS => ?_
    refine hS.call0 88 #[.slice ao23 ((qL l x5).length) c24, .slice ya ((qL l x5).length) (((gtD l) (Int.toNat x5)).2.1)] 37 (eq_ints ao23 c24 g25 o26 (qL l x5) ya (((gtD l) (Int.toNat x5)).2.1) yg yo _ (hS.mem.get 4 g25 (.fn o26 (o26 + (qL l x5).length) (ints (qL l x5) o26))) (hS.mem.get 3 yg (.fn yo (yo + (qL l x5).length) (ints (qL l x5) yo))) hv27 hyv (by omega)) fun ac wd hS => ?_
    refine hS.opsC 26 [0, 0, 1, 1, 1, fx 1 (vb false), 1, 60, 0, 1, 1, 2, 2, 2, 2, 2, 61, 60, 0, 1, 1, 1, 1, fx 1 (vb false), 71, 60] [1, 2, 5] fun _ => seg [(63, vb false)] [(0, none), (1, none), (2, none)] [.t false, .t false, .t true, .t true, .p ((vb (((List.getD (qL l x5) 0 0) : Int) != 0) : Value) = vb false), .t true, .t false, .t false, .t false, .t false, .t false, .t false, .t false, .t false, .t false, .t false, .t false, .t false, .t false, .t false, .t false, .t false, .p ((vb (decide ((0 : Int) < (((qL l x5).length : Nat) : Int))) : Value) = vb false), .t false, .t false, .t false] ⟨(congrArg Value.bool (by (rw [List.eq_nil_of_length_eq_zero h0]; rfl))), (congrArg Value.bool (by exact decide_eq_false (by omega))), trivial⟩ fun ac wd hS => ?_
    refine list_nil_seq ?_
    refine hS.condF ?_
    refine wp_skip ?_
    refine pop_block ?_
    refine pop_then ?_
    refine hS.regC [0, 20, 0] [1, 2] fun _ => seg [(5, vi (x5 + 1))] [(0, none), (1, none), (2, none)] [.p (fit .i64 (x5 + 1))] ⟨fit_i64 (by omega), trivial⟩ fun ac wd hS => ?_
    exact pop_then (hS.next (x5 + 1) ⟨(by first | omega | assumption | (simp; done) | (simp; omega)), trivial⟩ (by dsimp only; omega))
   ·
    obtain rfl : ya = some ⟨yg, yo, none⟩ := Or.resolve_left hyv (by omega)
    refine wp_region_seq ?_
    refine hS.opsC 2 [200, 0] [1, 2, 5, 6] fun _ => seg [(28, .agg #[pt b 0, vi o_, vi z]), (29, vi x5)] [(0, none), (1, none), (2, none), (3, none)] [.e (ν1 0), .e (ν1 0), .e (ν1 0)] trivial fun ac wd hS => ?_
    refine hS.call0 123 #[.agg #[pt b 0, vi o_, vi z], vi x5] 30 (ls_FirstQ b F m o_ z x5 l bb _ (Res.keep hr hS.mem.fr) (by first | assumption | omega | (simp_all; done) | (simp_all; omega)) (by exact h64) (by exact hT)) fun ac wd hS => ?_
    refine hS.opsC 5 [0, 0, 0, 0, 0] [1, 2, 5, 6] fun _ => seg [(7, vi (List.getD (qL l x5) 0 0)), (8, vb ((List.getD (qL l x5) 0 0 : Int) != 0))] [(0, none), (1, none), (2, none), (3, none)] [] trivial fun ac wd hS => ?_
    refine list_nil_seq ?_
    replace hS := hS.fix 8 (vb true) (show (vb ((List.getD (qL l x5) 0 0 : Int) != 0) : Value) = vb true from congrArg Value.bool (by rw [ok_len hps5]; exact decide_eq_true (by omega)))
    refine wp_region_seq ?_
    refine hS.opsC 2 [200, 0] [1, 2, 5, 6, 7, 8] fun _ => seg [(33, .agg #[pt b 0, vi o_, vi z]), (34, vi x5)] [(0, none), (1, none), (2, none), (3, none)] [.e (ν1 0), .e (ν1 0), .e (ν1 0)] trivial fun ac wd hS => ?_
    refine hS.callC 130 #[.agg #[pt b 0, vi o_, vi z], vi x5] (ls_AllQ b F m o_ z x5 l bb _ (Res.keep hr hS.mem.fr) (hS.mem.get 0 0 (.fn 0 64 dbT)) (by first | assumption | omega | (simp_all; done) | (simp_all; omega)) (by exact h64) (by exact hT) (by first | assumption | omega | (simp_all; done) | (simp_all; omega))) ?_
    rintro _ wd ⟨ao29, c210, g211, o212, rfl, hv213, hog0, hoh0, hF⟩
    have ho14 : g211 = 0 ∨ w.heap.size ≤ g211 := by have := hS.mem.fr.size; have : w.heap.size ≤ _ := this; omega
    refine ⟨.slice ao29 ((qL l x5).length) c210, rfl, ?_⟩
    replace hS := (hS.to (hS.mem.outs hF [(g211, .fn o212 (o212 + (qL l x5).length) (ints (qL l x5) o212))] ⟨⟨rfl, hoh0, (fun q_ => q_.elim (fun e => .inl ⟨0, .fn 0 64 dbT, by rw [e]; as_aux_lemma => kernel_rfl, rfl⟩) (fun q_ => .inr q_)) hog0⟩, trivial⟩)).put (d := 35) (v := .slice ao29 ((qL l x5).length) c210) (by decide)
    clear hF
    refine hS.opsC 1 [0] [1, 2, 5, 6, 7, 8, 35] fun _ => seg [(36, sc yg yo ((qL l x5).length) (((gtD l) (Int.toNat x5)).2.1))] [(0, none), (1, none), (2, none), (3, none), (4, none)] [] trivial fun ac wd hS => ?_
    refine hS.call0 88 #[.slice ao29 ((qL l x5).length) c210, sc yg yo ((qL l x5).length) (((gtD l) (Int.toNat x5)).2.1)] 37 (eq_ints ao29 c210 g211 o212 (qL l x5) (some ⟨yg, yo, none⟩) (((gtD l) (Int.toNat x5)).2.1) yg yo _ (hS.mem.get 4 g211 (.fn o212 (o212 + (qL l x5).length) (ints (qL l x5) o212))) (hS.mem.get 3 yg (.fn yo (yo + (qL l x5).length) (ints (qL l x5) yo))) hv213 (.inr rfl) (by omega)) fun ac wd hS => ?_
    refine hS.opsC 26 [0, 0, 1, 1, 1, fx 1 (vb true), 1, 60, 0, 1, 1, 1, 1, 21, fx 301 (vi (List.getD (qL l x5) 0 0)), fx 1 (vb false), 71, 60, 0, 1, 1, 1, 2, 2, 61, 60] [1, 2, 5] fun _ => seg [(63, vb false)] [(0, none), (1, none), (2, none)] [.t false, .t false, .t false, .t false, .t false, .t false, .t false, .t false, .t false, .t false, .t true, .t true, .p ((vb (((List.getD (qL l x5) 0 0) : Int) != (List.getD (qL l x5) 0 0)) : Value) = vb false), .t true, .p ((((ints (qL l x5) yo) (yo + Int.toNat 0 * 1)) : Value) = vi (List.getD (qL l x5) 0 0)), .e yg, .p (yo ≤ yo + Int.toNat 0 * 1 ∧ yo + Int.toNat 0 * 1 < (yo + (qL l x5).length)), .t true, .p ((0 : Int) ≤ 0 ∧ (0 : Int) < (((qL l x5).length : Nat) : Int)), .t true, .t true, .t false, .t false, .t false, .t false, .t false, .p ((vb (decide ((0 : Int) < (((qL l x5).length : Nat) : Int))) : Value) = vb true), .t false, .t false, .t false] ⟨(congrArg Value.bool (bne_self_eq_false _)), (ints_rel (qL l x5) yo 0), (by omega), (by omega), (congrArg Value.bool (by exact decide_eq_true (by omega))), trivial⟩ fun ac wd hS => ?_
    refine list_nil_seq ?_
    refine hS.condF ?_
    refine wp_skip ?_
    refine pop_block ?_
    refine pop_then ?_
    refine hS.regC [0, 20, 0] [1, 2] fun _ => seg [(5, vi (x5 + 1))] [(0, none), (1, none), (2, none)] [.p (fit .i64 (x5 + 1))] ⟨fit_i64 (by omega), trivial⟩ fun ac wd hS => ?_
    exact pop_then (hS.next (x5 + 1) ⟨(by first | omega | assumption | (simp; done) | (simp; omega)), trivial⟩ (by dsimp only; omega))
  ·
   refine wp_skip ?_
   refine pop_then ?_
   have hrk : rchk l x5 ≠ 0 := by unfold rchk; rw [if_pos (by first | omega | (simp_all; omega))]; decide
   have hql : qL l x5 = [] := qL_out hrk
   have h0 : (qL l x5).length = 0 := by rw [hql]; rfl
   obtain ⟨ya, ya_e⟩ : ∃ q_ : Option Addr, q_ = none := ⟨_, rfl⟩
   obtain ⟨yg, yo, hyv, hyh⟩ : ∃ g o, ((qL l x5).length = 0 ∨ ya = some ⟨g, o, none⟩) ∧ HE.holds w g (.fn o (o + (qL l x5).length) (ints (qL l x5) o)) := rgH.open (h := ((ya, 0, qL l x5) : HdI)) (.inl h0) hh0
   replace hS := hS.fix 6 (.slice ya (qL l x5).length 0) (show (vnil : Value) = .slice ya (qL l x5).length 0 by rw [hql, ya_e]; rfl)
   clear ya_e
   replace hS := hS.to (hS.mem.acq (g := yg) (lo := yo) (hi := yo + (qL l x5).length) (f := ints (qL l x5) yo) hyh (fun h_ => h_))
   have hps5 := hT.psq x5
   have hlq5 := hT.lenq x5
   refine wp_region_seq ?_
   refine hS.opsC 2 [200, 0] [1, 2, 5, 6] fun _ => seg [(28, .agg #[pt b 0, vi o_, vi z]), (29, vi x5)] [(0, none), (1, none), (2, none), (3, none)] [.e (ν1 0), .e (ν1 0), .e (ν1 0)] trivial fun ac wd hS => ?_
   refine hS.call0 123 #[.agg #[pt b 0, vi o_, vi z], vi x5] 30 (ls_FirstQ b F m o_ z x5 l bb _ (Res.keep hr hS.mem.fr) (by first | assumption | omega | (simp_all; done) | (simp_all; omega)) (by exact h64) (by exact hT)) fun ac wd hS => ?_
   refine hS.opsC 5 [0, 0, 0, 0, 0] [1, 2, 5, 6] fun _ => seg [(7, vi (List.getD (qL l x5) 0 0)), (8, vb ((List.getD (qL l x5) 0 0 : Int) != 0))] [(0, none), (1, none), (2, none), (3, none)] [] trivial fun ac wd hS => ?_
   refine list_nil_seq ?_
   replace hS := hS.fix 8 (vb false) (show (vb ((List.getD (qL l x5) 0 0 : Int) != 0) : Value) = vb false from congrArg Value.bool (by rw [ok_len hps5]; exact decide_eq_false (by omega)))
   refine wp_region_seq ?_
   refine hS.opsC 2 [200, 0] [1, 2, 5, 6, 7, 8] fun _ => seg [(33, .agg #[pt b 0, vi o_, vi z]), (34, vi x5)] [(0, none), (1, none), (2, none), (3, none)] [.e (ν1 0), .e (ν1 0), .e (ν1 0)] trivial fun ac wd hS => ?_
   refine hS.callC 130 #[.agg #[pt b 0, vi o_, vi z], vi x5] (ls_AllQ b F m o_ z x5 l bb _ (Res.keep hr hS.mem.fr) (hS.mem.get 0 0 (.fn 0 64 dbT)) (by first | assumption | omega | (simp_all; done) | (simp_all; omega)) (by exact h64) (by exact hT) (by first | assumption | omega | (simp_all; done) | (simp_all; omega))) ?_
   rintro _ wd ⟨ao215, c216, g217, o218, rfl, hv219, hog0, hoh0, hF⟩
   have ho20 : g217 = 0 ∨ w.heap.size ≤ g217 := by have := hS.mem.fr.size; have : w.heap.size ≤ _ := this; omega
   refine ⟨.slice ao215 ((qL l x5).length) c216, rfl, ?_⟩
   replace hS := (hS.to (hS.mem.outs hF [(g217, .fn o218 (o218 + (qL l x5).length) (ints (qL l x5) o218))] ⟨⟨rfl, hoh0, (fun q_ => q_.elim (fun e => .inl ⟨0, .fn 0 64 dbT, by rw [e]; as_aux_lemma => kernel_rfl, rfl⟩) (fun q_ => .inr q_)) hog0⟩, trivial⟩)).put (d := 35) (v := .slice ao215 ((qL l x5).length) c216) (by decide)
   clear hF
   refine hS.opsC 1 [0] [1, 2, 5, 6, 7, 8, 35] fun _ => seg [(36, .slice ya ((qL l x5).length) 0)] [(0, none), (1, none), (2, none), (3, none), (4, none)] [] trivial fun ac wd hS => ?_
   refine hS.call0 88 #[.slice ao215 ((qL l x5).length) c216, .slice ya ((qL l x5).length) 0] 37 (eq_ints ao215 c216 g217 o218 (qL l x5) ya 0 yg yo _ (hS.mem.get 4 g217 (.fn o218 (o218 + (qL l x5).length) (ints (qL l x5) o218))) (hS.mem.get 3 yg (.fn yo (yo + (qL l x5).length) (ints (qL l x5) yo))) hv219 hyv (by omega)) fun ac wd hS => ?_
   refine hS.opsC 26 [0, 0, 1, 1, 1, fx 1 (vb false), 1, 60, 0, 1, 1, 2, 2, 2, 2, 2, 61, 60, 0, 1, 1, 1, 1, fx 1 (vb false), 71, 60] [1, 2, 5] fun _ => seg [(63, vb false)] [(0, none), (1, none), (2, none)] [.t false, .t false, .t true, .t true, .p ((vb (((List.getD (qL l x5) 0 0) : Int) != 0) : Value) = vb false), .t true, .t false, .t false, .t false, .t false, .t false, .t false, .t false, .t false, .t false, .t false, .t false, .t false, .t false, .t false, .t false, .t false, .p ((vb (decide ((0 : Int) < (((qL l x5).length : Nat) : Int))) : Value) = vb false), .t false, .t false, .t false] ⟨(congrArg Value.bool (by (rw [List.eq_nil_of_length_eq_zero h0]; rfl))), (congrArg Value.bool (by exact decide_eq_false (by omega))), trivial⟩ fun ac wd hS => ?_
   refine list_nil_seq ?_
   refine hS.condF ?_
   refine wp_skip ?_
   refine pop_block ?_
   refine pop_then ?_
   refine hS.regC [0, 20, 0] [1, 2] fun _ => seg [(5, vi (x5 + 1))] [(0, none), (1, none), (2, none)] [.p (fit .i64 (x5 + 1))] ⟨fit_i64 (by omega), trivial⟩ fun ac wd hS => ?_
   exact pop_then (hS.next (x5 + 1) ⟨(by first | omega | assumption | (simp; done) | (simp; omega)), trivial⟩ (by dsimp only; omega))
 ·
  refine wp_exit ?_
  refine pop_then_exit ?_
  refine pop_then_exit ?_
  refine pop_block_hit ?_
  refine pop_then ?_
  refine wp_region_seq ?_
  refine hS.opsC 1 [200] [1] fun _ => seg [(64, .agg #[pt b 0, vi o_, vi z])] [(0, none), (1, none)] [.e (ν1 0), .e (ν1 0), .e (ν1 0)] trivial fun ac wd hS => ?_
  refine hS.call0 131 #[.agg #[pt b 0, vi o_, vi z]] 65 (ls_Len b o_ z _  (by first | assumption | omega | (simp_all; done) | (simp_all; omega))) fun ac wd hS => ?_
  refine hS.opsC 4 [0, 0, 0, 0] [] fun _ => seg [(4, vb (((z / 8) : Int) == ((l.length : Nat) : Int)))] [(0, none)] [] trivial fun ac wd hS => ?_
  refine list_nil_seq ?_
  refine wp_ret ?_
  refine St.retC 0 hS (vb (((z / 8) : Int) == ((l.length : Nat) : Int))) [] trivial fun hw => ?_
  refine ⟨retd (vbool ?_), hw.fr0⟩
  all_goals (first | rfl | (simp; done) | (rw [hz8]; simp; omega) | (simp; omega))

end Go.Proofs.YtnbkafnikpbmbaaDoor.K
