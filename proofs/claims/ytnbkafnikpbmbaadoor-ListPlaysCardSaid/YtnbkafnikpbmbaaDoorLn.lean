/-
  Walks, printed by w2.py.
-/
import Derived.Test.YtnbkafnikpbmbaaDoorLm
import Derived.Test.YtnbkafnikpbmbaaDoorNf
import Derived.Test.YtnbkafnikpbmbaaDoorProg
namespace Go.Proofs.YtnbkafnikpbmbaaDoor.K
set_option linter.unusedVariables false
set_option linter.unusedSimpArgs false

set_option maxRecDepth 100000 in
set_option maxHeartbeats 1000000 in
theorem r7_check (ao1 : Option Addr) (c1 : Nat) (g1 : Nat) (o1 : Nat) (l : List (HdI)) (k : Int) (w : World) (hh0 : HE.holds w g1 (.fn o1 (o1 + l.length) (hdV (gtD l) o1))) (hv1 : (l.length = 0 ∨ ao1 = some ⟨g1, o1, none⟩)) (hl : l.length ≤ 4294967290) :
    Calls Tryd.prog 124 #[.slice ao1 l.length c1, vi k] w fun e w' => e = .returned (vi (rchk l k)) ∧ Fr w w' no no := by
 refine enter (args := [.slice ao1 l.length c1, vi k]) (D := no) (A := []) Tryd.func124 rfl 13 rfl [(g1, .fn o1 (o1 + l.length) (hdV (gtD l) o1))] (WS.startL ⟨⟨rfl, hh0⟩, trivial⟩) fun ac hS => ?_
 refine hS.regS [0] [0, 1] fun _ => seg [] [(0, none)] [] trivial fun ac wd hS => ?_
 refine wp_seq ?_
 refine hS.regS [0, 0, 0, 3, 3, 3, 3, 80] [] fun _ => seg [(12, vb ((decide ((k : Int) < 0)) || (decide ((((l.length : Nat) : Int) : Int) ≤ k))))] [] [] trivial fun ac wd hS => ?_
 refine hS.condC ((decide ((k : Int) < 0)) || (decide ((((l.length : Nat) : Int) : Int) ≤ k))) (fun hb1o hb1 => ?_) (fun hb1o hb1 => ?_)
 ·
  refine hS.regS [0] [] fun _ => seg [(4, vi 3)] [] [] trivial fun ac wd hS => ?_
  refine wp_ret ?_
  refine pop_then_ret ?_
  refine St.retC 0 hS (vi 3) [] trivial fun hw => ?_
  refine ⟨retd (vint ?_), hw.fr0⟩
  all_goals (first | exact rchk_no (by omega) | exact rchk_yes (by omega) | (simp_all; done))
 ·
  refine wp_skip ?_
  refine pop_then ?_
  refine hS.regS [0] [] fun _ => seg [(4, vi 0)] [] [] trivial fun ac wd hS => ?_
  refine wp_ret ?_
  refine St.retC 0 hS (vi 0) [] trivial fun hw => ?_
  refine ⟨retd (vint ?_), hw.fr0⟩
  all_goals (first | exact rchk_no (by omega) | exact rchk_yes (by omega) | (simp_all; done))

set_option maxRecDepth 100000 in
set_option maxHeartbeats 1000000 in
theorem r7_Has_in (ao1 : Option Addr) (c1 : Nat) (g1 : Nat) (o1 : Nat) (l : List (HdI)) (k : Int) (a : Int) (w : World) (hh0 : HE.holds w 0 (.fn 0 64 dbT)) (hh1 : HE.holds w g1 (.fn o1 (o1 + l.length) (hdV (gtD l) o1))) (hv1 : (l.length = 0 ∨ ao1 = some ⟨g1, o1, none⟩)) (hl : l.length ≤ 4294967290) (hQ : ∀ i, i < l.length → rgH w (gtD l i)) (hB : ∀ k, (gtD l k).2.2.length ≤ 4294967290) (hck : rchk l k = 0) :
    Calls Tryd.prog 45 #[.slice ao1 l.length c1, vi k, vi a] w fun e w' => e = .returned (vb (hasM (Qf l (Int.toNat k)) a)) ∧ Fr w w' no no := by
 have hki := rchk_in hck
 refine enter (args := [.slice ao1 l.length c1, vi k, vi a]) (D := no) (A := []) Tryd.func45 rfl 26 rfl [(0, .fn 0 64 dbT), (g1, .fn o1 (o1 + l.length) (hdV (gtD l) o1))] (WS.startL ⟨⟨rfl, hh0⟩, ⟨rfl, hh1⟩, trivial⟩) fun ac hS => ?_
 refine hS.regS [0] [0, 1, 2] fun _ => seg [] [(0, none), (1, none)] [] trivial fun ac wd hS => ?_
 refine wp_seq ?_
 refine wp_region_seq ?_
 refine hS.opsC 2 [0, 0] [0, 1, 2] fun _ => seg [(9, .slice ao1 l.length c1), (10, vi k)] [(0, none), (1, none)] [] trivial fun ac wd hS => ?_
 refine hS.call0 124 #[.slice ao1 l.length c1, vi k] 11 (r7_check ao1 c1 g1 o1 l k _ (hS.mem.get 1 g1 (.fn o1 (o1 + l.length) (hdV (gtD l) o1))) hv1 (by first | assumption | omega | (simp_all; done) | (simp_all; omega))) fun ac wd hS => ?_
 replace hS := hS.fix 11 (vi 0) (show (vi (rchk l k) : Value) = vi 0 from (vint (by first | exact hck | exact (rchk_out hne).1)))
 refine hS.opsC 1 [0] [0, 1, 2] fun _ => seg [(12, vb false)] [(0, none), (1, none)] [] trivial fun ac wd hS => ?_
 refine list_nil_seq ?_
 refine hS.condF ?_
 refine wp_skip ?_
 refine pop_then ?_
 refine wp_seq ?_
 obtain rfl : ao1 = some ⟨g1, o1, none⟩ := Or.resolve_left hv1 (by omega)
 refine hS.regS [0, 0, 20, fx 100 (.slice (((gtD l) (Int.toNat k)).1) (((gtD l) (Int.toNat k)).2.2.length) (((gtD l) (Int.toNat k)).2.1)), 0, 0] [2] fun _ => seg [(16, .slice (((gtD l) (Int.toNat k)).1) (((gtD l) (Int.toNat k)).2.2.length) (((gtD l) (Int.toNat k)).2.1)), (17, vi ((((gtD l) (Int.toNat k)).2.2.length : Nat) : Int)), (18, vi 0)] [(0, none)] [.p ((((hdV (gtD l) o1) (o1 + Int.toNat k * 1)) : Value) = .slice (((gtD l) (Int.toNat k)).1) (((gtD l) (Int.toNat k)).2.2.length) (((gtD l) (Int.toNat k)).2.1)), .e g1, .p (o1 ≤ o1 + Int.toNat k * 1 ∧ o1 + Int.toNat k * 1 < (o1 + l.length)), .p ((0 : Int) ≤ k ∧ (k : Int) < ((l.length : Nat) : Int))] ⟨((hdV_0 (gtD l) o1 (Int.toNat k))), (by omega), (by omega), trivial⟩ fun ac wd hS => ?_
 refine wp_block ?_
 obtain ⟨⟨ya, yc, yL⟩, hy⟩ : ∃ q_ : HdI, q_ = gtD l (Int.toNat k) := ⟨_, rfl⟩
 have hyr := hQ _ (show Int.toNat k < l.length by omega)
 rw [← hy] at hyr
 have hyl := hB (Int.toNat k)
 rw [← hy] at hyl
 replace hyl : yL.length ≤ 4294967290 := hyl
 have hyq : Qf l (Int.toNat k) = yL := by unfold Qf; rw [← hy]
 obtain ⟨yg, yo, hyv, hyh⟩ : ∃ g o, (yL.length = 0 ∨ ya = some ⟨g, o, none⟩) ∧ HE.holds w g (.fn o (o + yL.length) (ints yL o)) := hyr.open hh0
 replace hS := hS.fix 16 (.slice ya yL.length yc) (show (.slice (((gtD l) (Int.toNat k)).1) (((gtD l) (Int.toNat k)).2.2.length) (((gtD l) (Int.toNat k)).2.1) : Value) = .slice ya yL.length yc by rw [← hy])
 replace hS := hS.fix 17 (vi ((yL.length : Nat) : Int)) (show (vi ((((gtD l) (Int.toNat k)).2.2.length : Nat) : Int) : Value) = vi ((yL.length : Nat) : Int) by rw [← hy])
 replace hS := hS.to (hS.mem.acq (g := yg) (lo := yo) (hi := yo + yL.length) (f := ints yL yo) hyh (fun h_ => h_))
 refine St.loopC (σ := Int) (fun (x18 : Int) => ⟨[(2, [], vi a), (16, [], .slice ya yL.length yc), (17, [], vi ((yL.length : Nat) : Int)), (18, [], vi x18)], [(0, .fn 0 64 dbT), (yg, .fn yo (yo + yL.length) (ints yL yo))], [], (0 ≤ x18 ∧ x18 ≤ (yL.length : Int)) ∧ (∀ j : Nat, (j : Int) < x18 → yL.getD j 0 ≠ a) ∧ True, yL.length - Int.toNat x18⟩) 0 ⟨(by first | omega | (intro j hj; omega)), (by first | omega | (intro j hj; omega)), trivial⟩ hS ?_
 clear hS
 rintro x18 ⟨i0, i1, -⟩ ac wd hS
 replace i0 : 0 ≤ x18 ∧ x18 ≤ (yL.length : Int) := i0
 replace i1 : ∀ j : Nat, (j : Int) < x18 → yL.getD j 0 ≠ a := i1
 refine hS.regS [0] [2, 16, 17, 18] fun _ => seg [(19, vb (decide ((x18 : Int) < ((yL.length : Nat) : Int))))] [(0, none), (1, none)] [] trivial fun ac wd hS => ?_
 refine wp_seq ?_
 refine hS.condC (decide ((x18 : Int) < ((yL.length : Nat) : Int))) (fun hb1o hb1 => ?_) (fun hb1o hb1 => ?_)
 ·
  refine wp_skip ?_
  refine pop_then ?_
  refine wp_seq ?_
  refine wp_block ?_
  obtain rfl : ya = some ⟨yg, yo, none⟩ := Or.resolve_left hyv (by omega)
  refine hS.regS [20, fx 100 (vi (List.getD yL (Int.toNat x18) 0)), 0] [2, 16, 17, 18] fun _ => seg [(8, vi (List.getD yL (Int.toNat x18) 0))] [(0, none), (1, none)] [.p ((((ints yL yo) (yo + Int.toNat x18 * 1)) : Value) = vi (List.getD yL (Int.toNat x18) 0)), .e yg, .p (yo ≤ yo + Int.toNat x18 * 1 ∧ yo + Int.toNat x18 * 1 < (yo + yL.length)), .p ((0 : Int) ≤ x18 ∧ (x18 : Int) < ((yL.length : Nat) : Int))] ⟨(ints_rel yL yo (Int.toNat x18)), (by omega), (by omega), trivial⟩ fun ac wd hS => ?_
  refine hS.regS [0, 0, 0] [2, 16, 17, 18] fun _ => seg [(24, vb (((List.getD yL (Int.toNat x18) 0) : Int) == a))] [(0, none), (1, none)] [] trivial fun ac wd hS => ?_
  refine hS.condC (((List.getD yL (Int.toNat x18) 0) : Int) == a) (fun hb2o hb2 => ?_) (fun hb2o hb2 => ?_)
  ·
   refine hS.regS [0] [] fun _ => seg [(6, vb true)] [(0, none)] [] trivial fun ac wd hS => ?_
   refine wp_ret ?_
   refine pop_block_ret ?_
   refine pop_then_ret ?_
   refine pop_then_ret ?_
   refine pop_block_ret ?_
   refine pop_then_ret ?_
   refine St.retC 0 hS (vb true) [] trivial fun hw => ?_
   refine ⟨retd (vbool ?_), hw.fr0⟩
   all_goals (first | (rw [hyq]; first | exact hasM_yes i0.1 (by omega) (by assumption) | exact hasM_no (by omega) i1) | rfl)
  ·
   refine wp_skip ?_
   refine pop_block ?_
   refine pop_then ?_
   refine hS.regC [20, 0] [2, 16, 17] fun _ => seg [(18, vi (x18 + 1))] [(0, none), (1, none)] [.p (fit .i64 (x18 + 1))] ⟨fit_i64 (by omega), trivial⟩ fun ac wd hS => ?_
   exact pop_then (hS.next (x18 + 1) ⟨(by first | omega | assumption | (simp; done) | (simp; omega)), (by exact hasM_step i1 i0.1 (by assumption)), trivial⟩ (by dsimp only; omega))
 ·
  refine wp_exit ?_
  refine pop_then_exit ?_
  refine pop_then_exit ?_
  refine pop_block_hit ?_
  refine pop_then ?_
  refine hS.regS [0] [] fun _ => seg [(6, vb false)] [(0, none)] [] trivial fun ac wd hS => ?_
  refine wp_ret ?_
  refine St.retC 0 hS (vb false) [] trivial fun hw => ?_
  refine ⟨retd (vbool ?_), hw.fr0⟩
  all_goals (first | (rw [hyq]; first | exact hasM_yes i0.1 (by omega) (by assumption) | exact hasM_no (by omega) i1) | rfl)

set_option maxRecDepth 100000 in
set_option maxHeartbeats 1000000 in
theorem r7_Has_no (ao1 : Option Addr) (c1 : Nat) (g1 : Nat) (o1 : Nat) (l : List (HdI)) (k : Int) (a : Int) (w : World) (hh0 : HE.holds w 0 (.fn 0 64 dbT)) (hh1 : HE.holds w g1 (.fn o1 (o1 + l.length) (hdV (gtD l) o1))) (hv1 : (l.length = 0 ∨ ao1 = some ⟨g1, o1, none⟩)) (hl : l.length ≤ 4294967290) (hQ : ∀ i, i < l.length → rgH w (gtD l i)) (hB : ∀ k, (gtD l k).2.2.length ≤ 4294967290) (hne : rchk l k ≠ 0) :
    Calls Tryd.prog 45 #[.slice ao1 l.length c1, vi k, vi a] w fun e w' => e = .returned (vb false) ∧ Fr w w' no no := by
 refine enter (args := [.slice ao1 l.length c1, vi k, vi a]) (D := no) (A := []) Tryd.func45 rfl 26 rfl [(0, .fn 0 64 dbT), (g1, .fn o1 (o1 + l.length) (hdV (gtD l) o1))] (WS.startL ⟨⟨rfl, hh0⟩, ⟨rfl, hh1⟩, trivial⟩) fun ac hS => ?_
 refine hS.regS [0] [0, 1, 2] fun _ => seg [] [(0, none), (1, none)] [] trivial fun ac wd hS => ?_
 refine wp_seq ?_
 refine wp_region_seq ?_
 refine hS.opsC 2 [0, 0] [0, 1, 2] fun _ => seg [(9, .slice ao1 l.length c1), (10, vi k)] [(0, none), (1, none)] [] trivial fun ac wd hS => ?_
 refine hS.call0 124 #[.slice ao1 l.length c1, vi k] 11 (r7_check ao1 c1 g1 o1 l k _ (hS.mem.get 1 g1 (.fn o1 (o1 + l.length) (hdV (gtD l) o1))) hv1 (by first | assumption | omega | (simp_all; done) | (simp_all; omega))) fun ac wd hS => ?_
 replace hS := hS.fix 11 (vi 3) (show (vi (rchk l k) : Value) = vi 3 from (vint (by first | exact hck | exact (rchk_out hne).1)))
 refine hS.opsC 1 [0] [0, 1, 2] fun _ => seg [(12, vb true)] [(0, none), (1, none)] [] trivial fun ac wd hS => ?_
 refine list_nil_seq ?_
 refine hS.condT ?_
 refine hS.regS [0] [] fun _ => seg [(6, vb false)] [(0, none)] [] trivial fun ac wd hS => ?_
 refine wp_ret ?_
 refine pop_then_ret ?_
 refine St.retC 0 hS (vb false) [] trivial fun hw => ?_
 refine ⟨retd rfl, hw.fr0⟩

theorem r7_Has (ao1 : Option Addr) (c1 : Nat) (g1 : Nat) (o1 : Nat) (l : List (HdI)) (k : Int) (a : Int) (w : World) (hh0 : HE.holds w 0 (.fn 0 64 dbT)) (hh1 : HE.holds w g1 (.fn o1 (o1 + l.length) (hdV (gtD l) o1))) (hv1 : (l.length = 0 ∨ ao1 = some ⟨g1, o1, none⟩)) (hl : l.length ≤ 4294967290) (hQ : ∀ i, i < l.length → rgH w (gtD l i)) (hB : ∀ k, (gtD l k).2.2.length ≤ 4294967290) :
    Calls Tryd.prog 45 #[.slice ao1 l.length c1, vi k, vi a] w fun e w' => e = .returned (vb (rHas l k a)) ∧ Fr w w' no no := by
 by_cases hck : rchk l k = 0
 · rw [rHas_in hck]; exact r7_Has_in ao1 c1 g1 o1 l k a w hh0 hh1 hv1 hl hQ hB hck
 · rw [← rHas_no hck]; exact r7_Has_no ao1 c1 g1 o1 l k a w hh0 hh1 hv1 hl hQ hB hck

set_option maxRecDepth 100000 in
set_option maxHeartbeats 1000000 in
theorem r7_with (ao1 : Option Addr) (c1 : Nat) (g1 : Nat) (o1 : Nat) (l : List (HdI)) (k : Int) (xo : Option Addr) (xc : Nat) (xL : List Int) (w : World) (hh0 : HE.holds w 0 (.fn 0 64 dbT)) (hh1 : HE.holds w g1 (.fn o1 (o1 + l.length) (hdV (gtD l) o1))) (hv1 : (l.length = 0 ∨ ao1 = some ⟨g1, o1, none⟩)) (hl : l.length ≤ 4294967290) (hk : 0 ≤ k) :
    Calls Tryd.prog 129 #[.slice ao1 l.length c1, vi k, .slice xo xL.length xc] w fun e w' => ∃ (ao3 : Option Addr) (c3 : Nat) (g3 : Nat) (o3 : Nat), e = .returned (.slice ao3 ((l.set (Int.toNat k) ((xo, xc, xL) : HdI)).length) c3) ∧ ((l.set (Int.toNat k) ((xo, xc, xL) : HdI)).length = 0 ∨ ao3 = some ⟨g3, o3, none⟩) ∧ (g3 = 0 ∨ w.heap.size ≤ g3) ∧ HE.holds w' g3 (.fn o3 (o3 + (l.set (Int.toNat k) ((xo, xc, xL) : HdI)).length) (hdV (gtD (l.set (Int.toNat k) ((xo, xc, xL) : HdI))) o3)) ∧ Fr w w' no no := by
 refine enter (args := [.slice ao1 l.length c1, vi k, .slice xo xL.length xc]) (D := no) (A := []) Tryd.func129 rfl 30 rfl [(0, .fn 0 64 dbT), (g1, .fn o1 (o1 + l.length) (hdV (gtD l) o1))] (WS.startL ⟨⟨rfl, hh0⟩, ⟨rfl, hh1⟩, trivial⟩) fun ac hS => ?_
 refine hS.regS [0] [0, 1, 2] fun _ => seg [] [(0, none), (1, none)] [] trivial fun ac wd hS => ?_
 refine hS.regS [0] [0, 1, 2] fun _ => seg [(7, vnil)] [(0, none), (1, none)] [] trivial fun ac wd hS => ?_
 refine wp_seq ?_
 replace hS := hS.to (hS.mem.grNew 34 1 (hdV (gtD ([] : List (HdI))) 0))
 refine hS.regS [0, 0, 0] [1, 2, 7] fun _ => seg [(10, .slice ao1 l.length c1), (11, vi ((l.length : Nat) : Int)), (12, vi 0)] [(0, none), (1, none)] [] trivial fun ac wd hS => ?_
 refine wp_block ?_
 refine St.loopC (σ := Int × Option Addr × Nat × (Nat → Prop) × List (HdI)) (fun (x : Int × Option Addr × Nat × (Nat → Prop) × List (HdI)) => match x with | (x12, aoq, cq, Fq, lq) => ⟨[(1, [], vi k), (2, [], .slice xo xL.length xc), (7, [], .slice aoq lq.length cq), (10, [], .slice ao1 l.length c1), (11, [], vi ((l.length : Nat) : Int)), (12, [], vi x12)], [(0, .fn 0 64 dbT), (g1, .fn o1 (o1 + l.length) (hdV (gtD l) o1))], [grR 34 1 (.slice aoq lq.length cq) Fq (lq.length, (hdV (gtD lq) 0))], (0 ≤ x12 ∧ x12 ≤ (l.length : Int)) ∧ (lq = (l.set (Int.toNat k) ((xo, xc, xL) : HdI)).take (Int.toNat x12)) ∧ True, l.length - Int.toNat x12⟩) (0, none, 0, no, ([] : List (HdI))) ⟨(by first | omega | rfl), (by first | omega | rfl), trivial⟩ hS ?_
 clear hS
 rintro ⟨x12, aoq, cq, Fq, lq⟩ ⟨i0, i1, -⟩ ac wd hS
 replace i0 : 0 ≤ x12 ∧ x12 ≤ (l.length : Int) := i0
 replace i1 : lq = (l.set (Int.toNat k) ((xo, xc, xL) : HdI)).take (Int.toNat x12) := i1
 refine hS.regS [0] [1, 2, 7, 10, 11, 12] fun _ => seg [(13, vb (decide ((x12 : Int) < ((l.length : Nat) : Int))))] [(0, none), (1, none)] [] trivial fun ac wd hS => ?_
 refine wp_seq ?_
 refine hS.condC (decide ((x12 : Int) < ((l.length : Nat) : Int))) (fun hb1o hb1 => ?_) (fun hb1o hb1 => ?_)
 ·
  refine wp_skip ?_
  refine pop_then ?_
  refine wp_seq ?_
  refine wp_block ?_
  obtain rfl : ao1 = some ⟨g1, o1, none⟩ := Or.resolve_left hv1 (by omega)
  refine hS.regS [0, 20, fx 100 (.slice (((gtD l) (Int.toNat x12)).1) (((gtD l) (Int.toNat x12)).2.2.length) (((gtD l) (Int.toNat x12)).2.1)), 0, 0] [1, 2, 7, 10, 11, 12] fun _ => seg [(8, vi x12), (9, .slice (((gtD l) (Int.toNat x12)).1) (((gtD l) (Int.toNat x12)).2.2.length) (((gtD l) (Int.toNat x12)).2.1))] [(0, none), (1, none)] [.p ((((hdV (gtD l) o1) (o1 + Int.toNat x12 * 1)) : Value) = .slice (((gtD l) (Int.toNat x12)).1) (((gtD l) (Int.toNat x12)).2.2.length) (((gtD l) (Int.toNat x12)).2.1)), .e g1, .p (o1 ≤ o1 + Int.toNat x12 * 1 ∧ o1 + Int.toNat x12 * 1 < (o1 + l.length)), .p ((0 : Int) ≤ x12 ∧ (x12 : Int) < ((l.length : Nat) : Int))] ⟨((hdV_0 (gtD l) o1 (Int.toNat x12))), (by omega), (by omega), trivial⟩ fun ac wd hS => ?_
  refine hS.regS [0, 0, 0] [1, 2, 7, 9, 10, 11, 12] fun _ => seg [(19, vb ((x12 : Int) == k))] [(0, none), (1, none)] [] trivial fun ac wd hS => ?_
  refine hS.condC ((x12 : Int) == k) (fun hb2o hb2 => ?_) (fun hb2o hb2 => ?_)
  ·
   refine wp_region_lit ?_
   refine hS.opsC 3 [0, 0, 0] [1, 2, 7, 10, 11, 12] fun ν7 => seg [(20, .slice aoq lq.length cq), (22, sc (ν7 0) 0 1 1)] [(0, none), (1, none), (2, some ((ν7 0), .cells [.slice xo xL.length xc] 34))] [] trivial fun ac wd hS => ?_
   obtain ⟨i_, hi_, hz_, hs_, hb_⟩ := info_get (P := Tryd.prog) (e := 34) (z := vnil) (s := 1) (b := 24) (by kernel_rfl)
   refine Runs1.list ?_
   refine St.appV (m := lq.length) (f := (hdV (gtD lq) 0)) (news := [.slice xo xL.length xc]) (bx := (ν7 0)) (cx := 1) (Tx := 34) 0 hS (.tmp 20) (.tmp 22) 92 rfl rfl (by decide) Tryd.underlying92 hi_ hz_ hs_ (by omega) rfl (by decide) 2 rfl rfl (by (rw [i1, List.length_take]; simp; omega)) fun ac wd v2_ F5 hB6 hS => ?_
   obtain ⟨xo3, xc4, rfl⟩ := hB6.slice
   replace hS := hS.to (hS.mem.grTell (m := (lq.length + 1)) 0 (hdV (gtD (lq ++ [((xo, xc, xL) : HdI)])) 0) (hdV_app lq ((xo, xc, xL) : HdI)))
   have hm_ : lq.length + 1 = ((lq ++ [((xo, xc, xL) : HdI)])).length := by simp
   replace hS := hS.to (hS.mem.grRe (v := .slice xo3 (lq.length + 1) xc4) (v' := .slice xo3 (((lq ++ [((xo, xc, xL) : HdI)])).length) xc4) (m := (lq.length + 1)) (m' := ((lq ++ [((xo, xc, xL) : HdI)])).length) (f := (hdV (gtD (lq ++ [((xo, xc, xL) : HdI)])) 0)) 0 (by rw [hm_]) hm_)
   replace hS := hS.fix 23 (.slice xo3 (((lq ++ [((xo, xc, xL) : HdI)])).length) xc4) (show (.slice xo3 (lq.length + 1) xc4 : Value) = .slice xo3 (((lq ++ [((xo, xc, xL) : HdI)])).length) xc4 by rw [hm_])
   refine hS.opsC 1 [0] [1, 2, 10, 11, 12] fun _ => seg [(7, .slice xo3 (((lq ++ [((xo, xc, xL) : HdI)])).length) xc4)] [(0, none), (1, none)] [] trivial fun ac wd hS => ?_
   refine list_nil ?_
   refine pop_block ?_
   refine pop_then ?_
   refine hS.regC [20, 0] [1, 2, 7, 10, 11] fun _ => seg [(12, vi (x12 + 1))] [(0, none), (1, none)] [.p (fit .i64 (x12 + 1))] ⟨fit_i64 (by omega), trivial⟩ fun ac wd hS => ?_
   exact pop_then (hS.next ((x12 + 1), xo3, xc4, F5, (lq ++ [((xo, xc, xL) : HdI)])) ⟨(by first | omega | assumption | (simp; done) | (simp; omega)), (by first | exact wi_step i1 i0.1 (by omega) hk (.inl ⟨by omega, rfl⟩) | exact wi_step i1 i0.1 (by omega) hk (.inr ⟨by omega, rfl⟩)), trivial⟩ (by dsimp only; omega))
  ·
   refine wp_region_lit ?_
   refine hS.opsC 3 [0, 0, 0] [1, 2, 7, 10, 11, 12] fun ν10 => seg [(24, .slice aoq lq.length cq), (26, sc (ν10 0) 0 1 1)] [(0, none), (1, none), (2, some ((ν10 0), .cells [.slice (((gtD l) (Int.toNat x12)).1) (((gtD l) (Int.toNat x12)).2.2.length) (((gtD l) (Int.toNat x12)).2.1)] 34))] [] trivial fun ac wd hS => ?_
   obtain ⟨i_, hi_, hz_, hs_, hb_⟩ := info_get (P := Tryd.prog) (e := 34) (z := vnil) (s := 1) (b := 24) (by kernel_rfl)
   refine Runs1.list ?_
   refine St.appV (m := lq.length) (f := (hdV (gtD lq) 0)) (news := [.slice (((gtD l) (Int.toNat x12)).1) (((gtD l) (Int.toNat x12)).2.2.length) (((gtD l) (Int.toNat x12)).2.1)]) (bx := (ν10 0)) (cx := 1) (Tx := 34) 0 hS (.tmp 24) (.tmp 26) 92 rfl rfl (by decide) Tryd.underlying92 hi_ hz_ hs_ (by omega) rfl (by decide) 2 rfl rfl (by (rw [i1, List.length_take]; simp; omega)) fun ac wd v2_ F9 hB10 hS => ?_
   obtain ⟨xo7, xc8, rfl⟩ := hB10.slice
   replace hS := hS.to (hS.mem.grTell (m := (lq.length + 1)) 0 (hdV (gtD (lq ++ [((((gtD l) (Int.toNat x12)).1, ((gtD l) (Int.toNat x12)).2.1, ((gtD l) (Int.toNat x12)).2.2) : HdI)])) 0) (hdV_app lq ((((gtD l) (Int.toNat x12)).1, ((gtD l) (Int.toNat x12)).2.1, ((gtD l) (Int.toNat x12)).2.2) : HdI)))
   have hm_ : lq.length + 1 = ((lq ++ [((((gtD l) (Int.toNat x12)).1, ((gtD l) (Int.toNat x12)).2.1, ((gtD l) (Int.toNat x12)).2.2) : HdI)])).length := by simp
   replace hS := hS.to (hS.mem.grRe (v := .slice xo7 (lq.length + 1) xc8) (v' := .slice xo7 (((lq ++ [((((gtD l) (Int.toNat x12)).1, ((gtD l) (Int.toNat x12)).2.1, ((gtD l) (Int.toNat x12)).2.2) : HdI)])).length) xc8) (m := (lq.length + 1)) (m' := ((lq ++ [((((gtD l) (Int.toNat x12)).1, ((gtD l) (Int.toNat x12)).2.1, ((gtD l) (Int.toNat x12)).2.2) : HdI)])).length) (f := (hdV (gtD (lq ++ [((((gtD l) (Int.toNat x12)).1, ((gtD l) (Int.toNat x12)).2.1, ((gtD l) (Int.toNat x12)).2.2) : HdI)])) 0)) 0 (by rw [hm_]) hm_)
   replace hS := hS.fix 27 (.slice xo7 (((lq ++ [((((gtD l) (Int.toNat x12)).1, ((gtD l) (Int.toNat x12)).2.1, ((gtD l) (Int.toNat x12)).2.2) : HdI)])).length) xc8) (show (.slice xo7 (lq.length + 1) xc8 : Value) = .slice xo7 (((lq ++ [((((gtD l) (Int.toNat x12)).1, ((gtD l) (Int.toNat x12)).2.1, ((gtD l) (Int.toNat x12)).2.2) : HdI)])).length) xc8 by rw [hm_])
   refine hS.opsC 1 [0] [1, 2, 10, 11, 12] fun _ => seg [(7, .slice xo7 (((lq ++ [((((gtD l) (Int.toNat x12)).1, ((gtD l) (Int.toNat x12)).2.1, ((gtD l) (Int.toNat x12)).2.2) : HdI)])).length) xc8)] [(0, none), (1, none)] [] trivial fun ac wd hS => ?_
   refine list_nil ?_
   refine pop_block ?_
   refine pop_then ?_
   refine hS.regC [20, 0] [1, 2, 7, 10, 11] fun _ => seg [(12, vi (x12 + 1))] [(0, none), (1, none)] [.p (fit .i64 (x12 + 1))] ⟨fit_i64 (by omega), trivial⟩ fun ac wd hS => ?_
   exact pop_then (hS.next ((x12 + 1), xo7, xc8, F9, (lq ++ [((((gtD l) (Int.toNat x12)).1, ((gtD l) (Int.toNat x12)).2.1, ((gtD l) (Int.toNat x12)).2.2) : HdI)])) ⟨(by first | omega | assumption | (simp; done) | (simp; omega)), (by first | exact wi_step i1 i0.1 (by omega) hk (.inl ⟨by omega, rfl⟩) | exact wi_step i1 i0.1 (by omega) hk (.inr ⟨by omega, rfl⟩)), trivial⟩ (by dsimp only; omega))
 ·
  refine wp_exit ?_
  refine pop_then_exit ?_
  refine pop_then_exit ?_
  refine pop_block_hit ?_
  refine pop_then ?_
  refine hS.regS [0, 0] [] fun _ => seg [(6, .slice aoq lq.length cq)] [(0, none)] [] trivial fun ac wd hS => ?_
  refine wp_ret ?_
  have hq_ : (l.set (Int.toNat k) ((xo, xc, xL) : HdI)) = lq := (show lq = (l.set (Int.toNat k) ((xo, xc, xL) : HdI)) by rw [i1, List.take_of_length_le (by rw [List.length_set]; omega)]).symm
  subst hq_
  rcases Nat.eq_zero_or_pos ((l.set (Int.toNat k) ((xo, xc, xL) : HdI)).length) with hz_ | hz_
  ·
   have hm_ : (l.set (Int.toNat k) ((xo, xc, xL) : HdI)).length = 0 := by exact hz_
   replace hS := hS.to (hS.mem.grRe (v := .slice aoq ((l.set (Int.toNat k) ((xo, xc, xL) : HdI)).length) cq) (v' := .slice aoq 0 cq) (m := ((l.set (Int.toNat k) ((xo, xc, xL) : HdI)).length)) (m' := 0) (f := (hdV (gtD (l.set (Int.toNat k) ((xo, xc, xL) : HdI))) 0)) 0 (by rw [hm_]) hm_)
   replace hS := hS.fix 6 (.slice aoq 0 cq) (show (.slice aoq ((l.set (Int.toNat k) ((xo, xc, xL) : HdI)).length) cq : Value) = .slice aoq 0 cq by rw [hm_])
   obtain ⟨hv_, hO⟩ := WS.grNil (e := 34) (sz := 1) (m := 0) (f := (hdV (gtD (l.set (Int.toNat k) ((xo, xc, xL) : HdI))) 0)) hS.mem (by first | omega | rfl)
   obtain ⟨rfl, rfl⟩ : (none : Option Addr) = aoq ∧ 0 = cq := by cases hv_; exact ⟨rfl, rfl⟩
   clear hv_
   replace hS := hS.to hO
   clear hO
   refine St.retC 0 hS (vnil) [] trivial fun hw => ?_
   refine ⟨none, 0, 0, 0, retd (slN ?_), (by first | exact (.inl rfl) | exact .inl hz_ | (rw [← hD]; exact (.inl rfl)) | (rw [← hD]; exact .inl hz_)), (by omega), (HE.fn_none (hw.get 0 0 (.fn 0 64 dbT)) ?_), hw.fr0⟩
   all_goals (first | (first | rfl | omega | (simp; done)) | (intro x_ hx_; rfl) | (intro x_ hx_ hy_; rfl))
  ·
   obtain ⟨gg11, cp12, hv_, hcp_, hO⟩ := WS.grOpen (e := 34) (sz := 1) (m := ((l.set (Int.toNat k) ((xo, xc, xL) : HdI)).length)) (f := (hdV (gtD (l.set (Int.toNat k) ((xo, xc, xL) : HdI))) 0)) hS.mem (by omega)
   simp only [Nat.mul_one] at hO
   obtain ⟨rfl, rfl⟩ : some (⟨gg11, 0, none⟩ : Addr) = aoq ∧ cp12 = cq := by cases hv_; exact ⟨rfl, rfl⟩
   clear hv_
   replace hS := hS.to hO
   clear hO
   refine St.retC 0 hS (sc gg11 0 ((l.set (Int.toNat k) ((xo, xc, xL) : HdI)).length) cp12) [] trivial fun hw => ?_
   refine ⟨(some ⟨gg11, 0, none⟩), cp12, gg11, 0, retd rfl, (by first | exact (.inr rfl) | exact .inl hz_ | (rw [← hD]; exact (.inr rfl)) | (rw [← hD]; exact .inl hz_)), (by have hg_ : w.heap.size ≤ gg11 := (hw.getm 1 gg11 (.row 34 ((l.set (Int.toNat k) ((xo, xc, xL) : HdI)).length) cp12 (hdV (gtD (l.set (Int.toNat k) ((xo, xc, xL) : HdI))) 0))).resolve_right (fun h => h); omega), (HE.row_to (hw.get 1 gg11 (.row 34 ((l.set (Int.toNat k) ((xo, xc, xL) : HdI)).length) cp12 (hdV (gtD (l.set (Int.toNat k) ((xo, xc, xL) : HdI))) 0))) ?_ ?_), hw.fr0⟩
   all_goals (first | (first | rfl | omega | (simp; done)) | (intro x_ hx_; rfl) | (intro x_ hx_ hy_; rfl))

set_option maxRecDepth 100000 in
set_option maxHeartbeats 1000000 in
theorem r7_Rem_in (ao1 : Option Addr) (c1 : Nat) (g1 : Nat) (o1 : Nat) (l : List (HdI)) (k : Int) (a : Int) (w : World) (hh0 : HE.holds w 0 (.fn 0 64 dbT)) (hh1 : HE.holds w g1 (.fn o1 (o1 + l.length) (hdV (gtD l) o1))) (hv1 : (l.length = 0 ∨ ao1 = some ⟨g1, o1, none⟩)) (hl : l.length ≤ 4294967290) (hQ : ∀ i, i < l.length → rgH w (gtD l i)) (hB : ∀ k, (gtD l k).2.2.length ≤ 4294967290) (hck : rchk l k = 0) :
    Calls Tryd.prog 47 #[.slice ao1 l.length c1, vi k, vi a] w fun e w' => ∃ (ao2 : Option Addr) (c2 : Nat) (nl2 : List Int) (ao3 : Option Addr) (c3 : Nat) (g3 : Nat) (o3 : Nat) (F' : Nat → Prop), e = .returned (.tuple #[.slice ao3 ((rSetL l k (rRemE l k a) ((ao2, c2, nl2) : HdI)).length) c3, vi (rRemE l k a)]) ∧ nl2 = (rRemN l k a) ∧ ((rSetL l k (rRemE l k a) ((ao2, c2, nl2) : HdI)).length = 0 ∨ ao3 = some ⟨g3, o3, none⟩) ∧ (grR 3 1 (.slice ao2 nl2.length c2) F' (nl2.length, (ints nl2 0))).R w' ∧ (g3 = g1 ∨ g3 = 0 ∨ w.heap.size ≤ g3) ∧ HE.holds w' g3 (.fn o3 (o3 + (rSetL l k (rRemE l k a) ((ao2, c2, nl2) : HdI)).length) (hdV (gtD (rSetL l k (rRemE l k a) ((ao2, c2, nl2) : HdI))) o3)) ∧ ¬ F' g3 ∧ Fr w w' no F' := by
 have hki := rchk_in hck
 refine enter (args := [.slice ao1 l.length c1, vi k, vi a]) (D := no) (A := []) Tryd.func47 rfl 43 rfl [(0, .fn 0 64 dbT), (g1, .fn o1 (o1 + l.length) (hdV (gtD l) o1))] (WS.startL ⟨⟨rfl, hh0⟩, ⟨rfl, hh1⟩, trivial⟩) fun ac hS => ?_
 refine hS.regS [0, 0] [0, 1, 2] fun _ => seg [] [(0, none), (1, none)] [] trivial fun ac wd hS => ?_
 refine wp_seq ?_
 refine wp_region_seq ?_
 refine hS.opsC 2 [0, 0] [0, 1, 2] fun _ => seg [(11, .slice ao1 l.length c1), (12, vi k)] [(0, none), (1, none)] [] trivial fun ac wd hS => ?_
 refine hS.call0 124 #[.slice ao1 l.length c1, vi k] 13 (r7_check ao1 c1 g1 o1 l k _ (hS.mem.get 1 g1 (.fn o1 (o1 + l.length) (hdV (gtD l) o1))) hv1 (by first | assumption | omega | (simp_all; done) | (simp_all; omega))) fun ac wd hS => ?_
 replace hS := hS.fix 13 (vi 0) (show (vi (rchk l k) : Value) = vi 0 from (vint (by first | exact hck | exact (rchk_out hne).1)))
 refine hS.opsC 1 [0] [0, 1, 2] fun _ => seg [(14, vb false)] [(0, none), (1, none)] [] trivial fun ac wd hS => ?_
 refine list_nil_seq ?_
 refine hS.condF ?_
 refine wp_skip ?_
 refine pop_then ?_
 refine wp_seq ?_
 refine wp_region_seq ?_
 refine hS.opsC 3 [0, 0, 0] [0, 1, 2] fun _ => seg [(16, .slice ao1 l.length c1), (17, vi k), (18, vi a)] [(0, none), (1, none)] [] trivial fun ac wd hS => ?_
 refine hS.call0 45 #[.slice ao1 l.length c1, vi k, vi a] 19 (r7_Has_in ao1 c1 g1 o1 l k a _ (hS.mem.get 0 0 (.fn 0 64 dbT)) (hS.mem.get 1 g1 (.fn o1 (o1 + l.length) (hdV (gtD l) o1))) hv1 (by first | assumption | omega | (simp_all; done) | (simp_all; omega)) (by exact fun i_ hi_ => (hQ i_ hi_).keep hS.mem.fr) (by first | assumption | omega | (simp_all; done) | (simp_all; omega)) (by first | assumption | omega | (simp_all; done) | (simp_all; omega))) fun ac wd hS => ?_
 refine hS.opsC 1 [0] [0, 1, 2] fun _ => seg [(20, vb (!(hasM (Qf l (Int.toNat k)) a)))] [(0, none), (1, none)] [] trivial fun ac wd hS => ?_
 refine list_nil_seq ?_
 refine hS.condC (!(hasM (Qf l (Int.toNat k)) a)) (fun hb1o hb1 => ?_) (fun hb1o hb1 => ?_)
 ·
  have hmn : hasM (Qf l (Int.toNat k)) a = false := by simpa using hb1o
  have hE : 8 = rRemE l k a := by unfold rRemE; rw [if_neg (fun q => q hck), if_neg (by rw [hmn]; decide)]
  refine hS.regS [0, 0, 0] [] fun _ => seg [(6, .slice ao1 l.length c1), (7, vi 8)] [(0, none), (1, none)] [] trivial fun ac wd hS => ?_
  refine wp_ret ?_
  refine pop_then_ret ?_
  replace hS := hS.to (hS.mem.grNew 3 1 (ints ([] : List (Int)) 0))
  have hD : l = rSetL l k (rRemE l k a) ((none, 0, ([] : List (Int))) : HdI) := rSetL_no (by rw [← hE]; decide)
  have hN2 : ([] : List (Int)) = (rRemN l k a) := by unfold rRemN; rw [if_neg (by rw [← hE]; decide)]
  refine St.retC 0 hS (.tuple #[.slice ao1 l.length c1, vi 8]) [] trivial fun hw => ?_
  refine ⟨none, 0, ([] : List (Int)), ao1, c1, g1, o1, no, retd (tuple2 (slN ?_) (vint ?_)), ?_, (by first | exact hv1 | exact .inl hz_ | (rw [← hD]; exact hv1) | (rw [← hD]; exact .inl hz_)), (hw.res 0), (by omega), (HE.fn_to (hw.get 1 g1 (.fn o1 (o1 + l.length) (hdV (gtD l) o1))) ?_ ?_), (fun q_ => hw.free (g1, .fn o1 (o1 + l.length) (hdV (gtD l) o1)) (List.mem_of_getElem? (i := 1) (by as_aux_lemma => kernel_rfl)) (.inl q_)), hw.frA⟩
  all_goals (first | (first | rfl | (rw [← hD]; done) | (rw [← hD]; omega) | (rw [hD]; done) | (intro x_ _ _; rw [← hD]) | (intro x_ _; rw [← hD]) | exact hE | exact hN2 | omega) | (intro x_ hx_; rfl) | (intro x_ hx_ hy_; rfl))
 ·
  have hmy : hasM (Qf l (Int.toNat k)) a = true := by simpa using hb1o
  refine wp_skip ?_
  refine pop_then ?_
  refine hS.regS [0] [0, 1, 2] fun _ => seg [(8, vnil)] [(0, none), (1, none)] [] trivial fun ac wd hS => ?_
  refine wp_seq ?_
  obtain rfl : ao1 = some ⟨g1, o1, none⟩ := Or.resolve_left hv1 (by omega)
  replace hS := hS.to (hS.mem.grNew 3 1 (ints ([] : List (Int)) 0))
  refine hS.regS [0, 0, 20, fx 100 (.slice (((gtD l) (Int.toNat k)).1) (((gtD l) (Int.toNat k)).2.2.length) (((gtD l) (Int.toNat k)).2.1)), 0, 0] [0, 1, 2, 8] fun _ => seg [(25, .slice (((gtD l) (Int.toNat k)).1) (((gtD l) (Int.toNat k)).2.2.length) (((gtD l) (Int.toNat k)).2.1)), (26, vi ((((gtD l) (Int.toNat k)).2.2.length : Nat) : Int)), (27, vi 0)] [(0, none), (1, none)] [.p ((((hdV (gtD l) o1) (o1 + Int.toNat k * 1)) : Value) = .slice (((gtD l) (Int.toNat k)).1) (((gtD l) (Int.toNat k)).2.2.length) (((gtD l) (Int.toNat k)).2.1)), .e g1, .p (o1 ≤ o1 + Int.toNat k * 1 ∧ o1 + Int.toNat k * 1 < (o1 + l.length)), .p ((0 : Int) ≤ k ∧ (k : Int) < ((l.length : Nat) : Int))] ⟨((hdV_0 (gtD l) o1 (Int.toNat k))), (by omega), (by omega), trivial⟩ fun ac wd hS => ?_
  refine wp_block ?_
  obtain ⟨⟨ya, yc, yL⟩, hy⟩ : ∃ q_ : HdI, q_ = gtD l (Int.toNat k) := ⟨_, rfl⟩
  have hyr := hQ _ (show Int.toNat k < l.length by omega)
  rw [← hy] at hyr
  have hyl := hB (Int.toNat k)
  rw [← hy] at hyl
  replace hyl : yL.length ≤ 4294967290 := hyl
  have hyq : Qf l (Int.toNat k) = yL := by unfold Qf; rw [← hy]
  obtain ⟨yg, yo, hyv, hyh⟩ : ∃ g o, (yL.length = 0 ∨ ya = some ⟨g, o, none⟩) ∧ HE.holds w g (.fn o (o + yL.length) (ints yL o)) := hyr.open hh0
  replace hS := hS.fix 25 (.slice ya yL.length yc) (show (.slice (((gtD l) (Int.toNat k)).1) (((gtD l) (Int.toNat k)).2.2.length) (((gtD l) (Int.toNat k)).2.1) : Value) = .slice ya yL.length yc by rw [← hy])
  replace hS := hS.fix 26 (vi ((yL.length : Nat) : Int)) (show (vi ((((gtD l) (Int.toNat k)).2.2.length : Nat) : Int) : Value) = vi ((yL.length : Nat) : Int) by rw [← hy])
  replace hS := hS.to (hS.mem.acq (g := yg) (lo := yo) (hi := yo + yL.length) (f := ints yL yo) hyh (fun h_ => h_))
  refine St.loopC (σ := Int × Option Addr × Nat × (Nat → Prop) × List (Int)) (fun (x : Int × Option Addr × Nat × (Nat → Prop) × List (Int)) => match x with | (x27, aoq, cq, Fq, lq) => ⟨[(0, [], sc g1 o1 l.length c1), (1, [], vi k), (2, [], vi a), (8, [], .slice aoq lq.length cq), (25, [], .slice ya yL.length yc), (26, [], vi ((yL.length : Nat) : Int)), (27, [], vi x27)], [(0, .fn 0 64 dbT), (g1, .fn o1 (o1 + l.length) (hdV (gtD l) o1)), (yg, .fn yo (yo + yL.length) (ints yL yo))], [grR 3 1 (.slice aoq lq.length cq) Fq (lq.length, (ints lq 0))], (0 ≤ x27 ∧ x27 ≤ (yL.length : Int)) ∧ (lq = (yL.take (Int.toNat x27)).filter (fun y => decide (y ≠ a))) ∧ True, yL.length - Int.toNat x27⟩) (0, none, 0, no, ([] : List (Int))) ⟨(by first | omega | rfl), (by first | omega | rfl), trivial⟩ hS ?_
  clear hS
  rintro ⟨x27, aoq, cq, Fq, lq⟩ ⟨i0, i1, -⟩ ac wd hS
  replace i0 : 0 ≤ x27 ∧ x27 ≤ (yL.length : Int) := i0
  replace i1 : lq = (yL.take (Int.toNat x27)).filter (fun y => decide (y ≠ a)) := i1
  refine hS.regS [0] [0, 1, 2, 8, 25, 26, 27] fun _ => seg [(28, vb (decide ((x27 : Int) < ((yL.length : Nat) : Int))))] [(0, none), (1, none), (2, none)] [] trivial fun ac wd hS => ?_
  refine wp_seq ?_
  refine hS.condC (decide ((x27 : Int) < ((yL.length : Nat) : Int))) (fun hb2o hb2 => ?_) (fun hb2o hb2 => ?_)
  ·
   refine wp_skip ?_
   refine pop_then ?_
   refine wp_seq ?_
   refine wp_block ?_
   obtain rfl : ya = some ⟨yg, yo, none⟩ := Or.resolve_left hyv (by omega)
   refine hS.regS [20, fx 200 (vi (List.getD yL (Int.toNat x27) 0)), 0] [0, 1, 2, 8, 25, 26, 27] fun _ => seg [(10, vi (List.getD yL (Int.toNat x27) 0))] [(0, none), (1, none), (2, none)] [.p ((((ints yL yo) (yo + Int.toNat x27 * 1)) : Value) = vi (List.getD yL (Int.toNat x27) 0)), .e yg, .p (yo ≤ yo + Int.toNat x27 * 1 ∧ yo + Int.toNat x27 * 1 < (yo + yL.length)), .p ((0 : Int) ≤ x27 ∧ (x27 : Int) < ((yL.length : Nat) : Int))] ⟨(ints_rel yL yo (Int.toNat x27)), (by omega), (by omega), trivial⟩ fun ac wd hS => ?_
   refine hS.regS [0, 0, 0] [0, 1, 2, 8, 10, 25, 26, 27] fun _ => seg [(33, vb (((List.getD yL (Int.toNat x27) 0) : Int) != a))] [(0, none), (1, none), (2, none)] [] trivial fun ac wd hS => ?_
   refine hS.condC (((List.getD yL (Int.toNat x27) 0) : Int) != a) (fun hb3o hb3 => ?_) (fun hb3o hb3 => ?_)
   ·
    refine wp_region_lit ?_
    refine hS.opsC 3 [0, 0, 0] [0, 1, 2, 8, 25, 26, 27] fun ν12 => seg [(34, .slice aoq lq.length cq), (36, sc (ν12 0) 0 1 1)] [(0, none), (1, none), (2, none), (3, some ((ν12 0), .cells [vi (List.getD yL (Int.toNat x27) 0)] 3))] [] trivial fun ac wd hS => ?_
    obtain ⟨i_, hi_, hz_, hs_, hb_⟩ := info_get (P := Tryd.prog) (e := 3) (z := vi 0) (s := 1) (b := 8) (by kernel_rfl)
    refine Runs1.list ?_
    refine St.appV (m := lq.length) (f := (ints lq 0)) (news := [vi (List.getD yL (Int.toNat x27) 0)]) (bx := (ν12 0)) (cx := 1) (Tx := 3) 0 hS (.tmp 34) (.tmp 36) 34 rfl rfl (by decide) Tryd.underlying34 hi_ hz_ hs_ (by omega) rfl (by decide) 3 rfl rfl (by (have h9_ := List.length_filter_le (fun y => decide (y ≠ a)) (yL.take (Int.toNat x27)); rw [← i1, List.length_take] at h9_; omega)) fun ac wd v2_ F6 hB7 hS => ?_
    obtain ⟨xo4, xc5, rfl⟩ := hB7.slice
    replace hS := hS.to (hS.mem.grTell (m := (lq.length + 1)) 0 (ints (lq ++ [(List.getD yL (Int.toNat x27) 0)]) 0) (ints_app1 lq (List.getD yL (Int.toNat x27) 0)))
    have hm_ : lq.length + 1 = ((lq ++ [(List.getD yL (Int.toNat x27) 0)])).length := by simp
    replace hS := hS.to (hS.mem.grRe (v := .slice xo4 (lq.length + 1) xc5) (v' := .slice xo4 (((lq ++ [(List.getD yL (Int.toNat x27) 0)])).length) xc5) (m := (lq.length + 1)) (m' := ((lq ++ [(List.getD yL (Int.toNat x27) 0)])).length) (f := (ints (lq ++ [(List.getD yL (Int.toNat x27) 0)]) 0)) 0 (by rw [hm_]) hm_)
    replace hS := hS.fix 37 (.slice xo4 (((lq ++ [(List.getD yL (Int.toNat x27) 0)])).length) xc5) (show (.slice xo4 (lq.length + 1) xc5 : Value) = .slice xo4 (((lq ++ [(List.getD yL (Int.toNat x27) 0)])).length) xc5 by rw [hm_])
    refine hS.opsC 1 [0] [0, 1, 2, 25, 26, 27] fun _ => seg [(8, .slice xo4 (((lq ++ [(List.getD yL (Int.toNat x27) 0)])).length) xc5)] [(0, none), (1, none), (2, none)] [] trivial fun ac wd hS => ?_
    refine list_nil ?_
    refine pop_block ?_
    refine pop_then ?_
    refine hS.regC [20, 0] [0, 1, 2, 8, 25, 26] fun _ => seg [(27, vi (x27 + 1))] [(0, none), (1, none), (2, none)] [.p (fit .i64 (x27 + 1))] ⟨fit_i64 (by omega), trivial⟩ fun ac wd hS => ?_
    exact pop_then (hS.next ((x27 + 1), xo4, xc5, F6, (lq ++ [(List.getD yL (Int.toNat x27) 0)])) ⟨(by first | omega | assumption | (simp; done) | (simp; omega)), (by first | exact fil_yes i1 i0.1 (by omega) (by assumption) | exact fil_no i1 i0.1 (by omega) (by assumption)), trivial⟩ (by dsimp only; omega))
   ·
    refine wp_skip ?_
    refine pop_block ?_
    refine pop_then ?_
    refine hS.regC [20, 0] [0, 1, 2, 8, 25, 26] fun _ => seg [(27, vi (x27 + 1))] [(0, none), (1, none), (2, none)] [.p (fit .i64 (x27 + 1))] ⟨fit_i64 (by omega), trivial⟩ fun ac wd hS => ?_
    exact pop_then (hS.next ((x27 + 1), aoq, cq, Fq, lq) ⟨(by first | omega | assumption | (simp; done) | (simp; omega)), (by first | exact fil_yes i1 i0.1 (by omega) (by assumption) | exact fil_no i1 i0.1 (by omega) (by assumption)), trivial⟩ (by dsimp only; omega))
  ·
   refine wp_exit ?_
   refine pop_then_exit ?_
   refine pop_then_exit ?_
   refine pop_block_hit ?_
   refine pop_then ?_
   have hE : 0 = (rRemE l k a) := by unfold rRemE; rw [if_neg (fun q => q hck), if_pos hmy]
   have hN2 : lq = (rRemN l k a) := by unfold rRemN; rw [if_pos hE.symm, i1, hyq, List.take_of_length_le (by omega)]
   refine wp_region_seq ?_
   refine hS.opsC 3 [0, 0, 0] [] fun _ => seg [(39, sc g1 o1 l.length c1), (40, vi k), (41, .slice aoq lq.length cq)] [(0, none), (1, none)] [] trivial fun ac wd hS => ?_
   refine hS.callC 129 #[sc g1 o1 l.length c1, vi k, .slice aoq lq.length cq] (r7_with (some ⟨g1, o1, none⟩) c1 g1 o1 l k aoq cq lq _ (hS.mem.get 0 0 (.fn 0 64 dbT)) (hS.mem.get 1 g1 (.fn o1 (o1 + l.length) (hdV (gtD l) o1))) (.inr rfl) (by first | assumption | omega | (simp_all; done) | (simp_all; omega)) (by first | assumption | omega | (simp_all; done) | (simp_all; omega))) ?_
   rintro _ wd ⟨ao38, c39, g310, o311, rfl, hv312, hog0, hoh0, hF⟩
   have ho13 : g310 = 0 ∨ w.heap.size ≤ g310 := by have := hS.mem.fr.size; have : w.heap.size ≤ _ := this; omega
   refine ⟨.slice ao38 ((l.set (Int.toNat k) ((aoq, cq, lq) : HdI)).length) c39, rfl, ?_⟩
   replace hS := (hS.to (hS.mem.outs hF [(g310, .fn o311 (o311 + (l.set (Int.toNat k) ((aoq, cq, lq) : HdI)).length) (hdV (gtD (l.set (Int.toNat k) ((aoq, cq, lq) : HdI))) o311))] ⟨⟨rfl, hoh0, (fun q_ => q_.elim (fun e => .inl ⟨0, .fn 0 64 dbT, by rw [e]; as_aux_lemma => kernel_rfl, rfl⟩) (fun q_ => .inr q_)) hog0⟩, trivial⟩)).put (d := 42) (v := .slice ao38 ((l.set (Int.toNat k) ((aoq, cq, lq) : HdI)).length) c39) (by decide)
   clear hF
   refine hS.opsC 2 [0, 0] [] fun _ => seg [(6, .slice ao38 ((l.set (Int.toNat k) ((aoq, cq, lq) : HdI)).length) c39), (7, vi 0)] [(0, none), (2, none)] [] trivial fun ac wd hS => ?_
   refine list_nil_seq ?_
   refine wp_ret ?_
   have hD : l.set (Int.toNat k) ((aoq, cq, lq) : HdI) = rSetL l k (rRemE l k a) ((aoq, cq, lq) : HdI) := rSetL_yes hE.symm
   refine St.retC 0 hS (.tuple #[.slice ao38 ((l.set (Int.toNat k) ((aoq, cq, lq) : HdI)).length) c39, vi 0]) [] trivial fun hw => ?_
   refine ⟨aoq, cq, lq, ao38, c39, g310, o311, Fq, retd (tuple2 (slN ?_) (vint ?_)), ?_, (by first | exact hv312 | exact .inl hz_ | (rw [← hD]; exact hv312) | (rw [← hD]; exact .inl hz_)), (hw.res 0), (by omega), (HE.fn_to (hw.get 1 g310 (.fn o311 (o311 + (l.set (Int.toNat k) ((aoq, cq, lq) : HdI)).length) (hdV (gtD (l.set (Int.toNat k) ((aoq, cq, lq) : HdI))) o311))) ?_ ?_), (fun q_ => hw.free (g310, .fn o311 (o311 + (l.set (Int.toNat k) ((aoq, cq, lq) : HdI)).length) (hdV (gtD (l.set (Int.toNat k) ((aoq, cq, lq) : HdI))) o311)) (List.mem_of_getElem? (i := 1) (by as_aux_lemma => kernel_rfl)) (.inl q_)), hw.frA⟩
   all_goals (first | (first | rfl | (rw [← hD]; done) | (rw [← hD]; omega) | (rw [hD]; done) | (intro x_ _ _; rw [← hD]) | (intro x_ _; rw [← hD]) | exact hE | exact hN2 | omega) | (intro x_ hx_; rfl) | (intro x_ hx_ hy_; rfl))

set_option maxRecDepth 100000 in
set_option maxHeartbeats 1000000 in
theorem r7_Rem_no (ao1 : Option Addr) (c1 : Nat) (g1 : Nat) (o1 : Nat) (l : List (HdI)) (k : Int) (a : Int) (w : World) (hh0 : HE.holds w 0 (.fn 0 64 dbT)) (hh1 : HE.holds w g1 (.fn o1 (o1 + l.length) (hdV (gtD l) o1))) (hv1 : (l.length = 0 ∨ ao1 = some ⟨g1, o1, none⟩)) (hl : l.length ≤ 4294967290) (hQ : ∀ i, i < l.length → rgH w (gtD l i)) (hB : ∀ k, (gtD l k).2.2.length ≤ 4294967290) (hne : rchk l k ≠ 0) :
    Calls Tryd.prog 47 #[.slice ao1 l.length c1, vi k, vi a] w fun e w' => ∃ (ao2 : Option Addr) (c2 : Nat) (nl2 : List Int) (ao3 : Option Addr) (c3 : Nat) (g3 : Nat) (o3 : Nat) (F' : Nat → Prop), e = .returned (.tuple #[.slice ao3 ((rSetL l k (rRemE l k a) ((ao2, c2, nl2) : HdI)).length) c3, vi (rRemE l k a)]) ∧ nl2 = (rRemN l k a) ∧ ((rSetL l k (rRemE l k a) ((ao2, c2, nl2) : HdI)).length = 0 ∨ ao3 = some ⟨g3, o3, none⟩) ∧ (grR 3 1 (.slice ao2 nl2.length c2) F' (nl2.length, (ints nl2 0))).R w' ∧ (g3 = g1 ∨ g3 = 0 ∨ w.heap.size ≤ g3) ∧ HE.holds w' g3 (.fn o3 (o3 + (rSetL l k (rRemE l k a) ((ao2, c2, nl2) : HdI)).length) (hdV (gtD (rSetL l k (rRemE l k a) ((ao2, c2, nl2) : HdI))) o3)) ∧ ¬ F' g3 ∧ Fr w w' no F' := by
 have hE : 3 = rRemE l k a := by unfold rRemE; rw [if_pos hne]
 refine enter (args := [.slice ao1 l.length c1, vi k, vi a]) (D := no) (A := []) Tryd.func47 rfl 43 rfl [(0, .fn 0 64 dbT), (g1, .fn o1 (o1 + l.length) (hdV (gtD l) o1))] (WS.startL ⟨⟨rfl, hh0⟩, ⟨rfl, hh1⟩, trivial⟩) fun ac hS => ?_
 refine hS.regS [0, 0] [0, 1, 2] fun _ => seg [] [(0, none), (1, none)] [] trivial fun ac wd hS => ?_
 refine wp_seq ?_
 refine wp_region_seq ?_
 refine hS.opsC 2 [0, 0] [0, 1, 2] fun _ => seg [(11, .slice ao1 l.length c1), (12, vi k)] [(0, none), (1, none)] [] trivial fun ac wd hS => ?_
 refine hS.call0 124 #[.slice ao1 l.length c1, vi k] 13 (r7_check ao1 c1 g1 o1 l k _ (hS.mem.get 1 g1 (.fn o1 (o1 + l.length) (hdV (gtD l) o1))) hv1 (by first | assumption | omega | (simp_all; done) | (simp_all; omega))) fun ac wd hS => ?_
 replace hS := hS.fix 13 (vi 3) (show (vi (rchk l k) : Value) = vi 3 from (vint (by first | exact hck | exact (rchk_out hne).1)))
 refine hS.opsC 1 [0] [0, 1, 2] fun _ => seg [(14, vb true)] [(0, none), (1, none)] [] trivial fun ac wd hS => ?_
 refine list_nil_seq ?_
 refine hS.condT ?_
 refine hS.regS [0, 0, 0] [] fun _ => seg [(6, .slice ao1 l.length c1), (7, vi 3)] [(0, none), (1, none)] [] trivial fun ac wd hS => ?_
 refine wp_ret ?_
 refine pop_then_ret ?_
 replace hS := hS.to (hS.mem.grNew 3 1 (ints ([] : List (Int)) 0))
 have hD : l = rSetL l k (rRemE l k a) ((none, 0, ([] : List (Int))) : HdI) := rSetL_no (by rw [← hE]; decide)
 have hN2 : ([] : List (Int)) = (rRemN l k a) := by unfold rRemN; rw [if_neg (by rw [← hE]; decide)]
 refine St.retC 0 hS (.tuple #[.slice ao1 l.length c1, vi 3]) [] trivial fun hw => ?_
 refine ⟨none, 0, ([] : List (Int)), ao1, c1, g1, o1, no, retd (tuple2 (slN ?_) (vint ?_)), ?_, (by first | exact hv1 | exact .inl hz_ | (rw [← hD]; exact hv1) | (rw [← hD]; exact .inl hz_)), (hw.res 0), (by omega), (HE.fn_to (hw.get 1 g1 (.fn o1 (o1 + l.length) (hdV (gtD l) o1))) ?_ ?_), (fun q_ => hw.free (g1, .fn o1 (o1 + l.length) (hdV (gtD l) o1)) (List.mem_of_getElem? (i := 1) (by as_aux_lemma => kernel_rfl)) (.inl q_)), hw.frA⟩
 all_goals (first | (first | rfl | (rw [← hD]; done) | (rw [← hD]; omega) | (rw [hD]; done) | (intro x_ _ _; rw [← hD]) | (intro x_ _; rw [← hD]) | exact hE | exact hN2 | omega) | (intro x_ hx_; rfl) | (intro x_ hx_ hy_; rfl))

theorem r7_Remove (ao1 : Option Addr) (c1 : Nat) (g1 : Nat) (o1 : Nat) (l : List (HdI)) (k : Int) (a : Int) (w : World) (hh0 : HE.holds w 0 (.fn 0 64 dbT)) (hh1 : HE.holds w g1 (.fn o1 (o1 + l.length) (hdV (gtD l) o1))) (hv1 : (l.length = 0 ∨ ao1 = some ⟨g1, o1, none⟩)) (hl : l.length ≤ 4294967290) (hQ : ∀ i, i < l.length → rgH w (gtD l i)) (hB : ∀ k, (gtD l k).2.2.length ≤ 4294967290) :
    Calls Tryd.prog 47 #[.slice ao1 l.length c1, vi k, vi a] w fun e w' => ∃ (ao2 : Option Addr) (c2 : Nat) (nl2 : List Int) (ao3 : Option Addr) (c3 : Nat) (g3 : Nat) (o3 : Nat) (F' : Nat → Prop), e = .returned (.tuple #[.slice ao3 ((rSetL l k (rRemE l k a) ((ao2, c2, nl2) : HdI)).length) c3, vi (rRemE l k a)]) ∧ nl2 = (rRemN l k a) ∧ ((rSetL l k (rRemE l k a) ((ao2, c2, nl2) : HdI)).length = 0 ∨ ao3 = some ⟨g3, o3, none⟩) ∧ (grR 3 1 (.slice ao2 nl2.length c2) F' (nl2.length, (ints nl2 0))).R w' ∧ (g3 = g1 ∨ g3 = 0 ∨ w.heap.size ≤ g3) ∧ HE.holds w' g3 (.fn o3 (o3 + (rSetL l k (rRemE l k a) ((ao2, c2, nl2) : HdI)).length) (hdV (gtD (rSetL l k (rRemE l k a) ((ao2, c2, nl2) : HdI))) o3)) ∧ ¬ F' g3 ∧ Fr w w' no F' := by
 by_cases hck : rchk l k = 0
 · exact r7_Rem_in ao1 c1 g1 o1 l k a w hh0 hh1 hv1 hl hQ hB hck
 · exact r7_Rem_no ao1 c1 g1 o1 l k a w hh0 hh1 hv1 hl hQ hB hck

set_option maxRecDepth 100000 in
set_option maxHeartbeats 1000000 in
theorem r7_Add_in (ao1 : Option Addr) (c1 : Nat) (g1 : Nat) (o1 : Nat) (l : List (HdI)) (k : Int) (a : Int) (th : Bool) (w : World) (hh0 : HE.holds w 0 (.fn 0 64 dbT)) (hh1 : HE.holds w g1 (.fn o1 (o1 + l.length) (hdV (gtD l) o1))) (hv1 : (l.length = 0 ∨ ao1 = some ⟨g1, o1, none⟩)) (hl : l.length ≤ 4294967290) (hQ : ∀ i, i < l.length → rgH w (gtD l i)) (hB : ∀ k, (gtD l k).2.2.length ≤ 4294967290) (hck : rchk l k = 0) :
    Calls Tryd.prog 49 #[.slice ao1 l.length c1, vi k, vi a, vb th] w fun e w' => ∃ (ao2 : Option Addr) (c2 : Nat) (nl2 : List Int) (ao3 : Option Addr) (c3 : Nat) (g3 : Nat) (o3 : Nat) (F' : Nat → Prop), e = .returned (.tuple #[.slice ao3 ((rSetL l k (rAddE l k a th) ((ao2, c2, nl2) : HdI)).length) c3, vi (rAddE l k a th)]) ∧ nl2 = (rAddN l k a th) ∧ ((rSetL l k (rAddE l k a th) ((ao2, c2, nl2) : HdI)).length = 0 ∨ ao3 = some ⟨g3, o3, none⟩) ∧ (grR 3 1 (.slice ao2 nl2.length c2) F' (nl2.length, (ints nl2 0))).R w' ∧ (g3 = g1 ∨ g3 = 0 ∨ w.heap.size ≤ g3) ∧ HE.holds w' g3 (.fn o3 (o3 + (rSetL l k (rAddE l k a th) ((ao2, c2, nl2) : HdI)).length) (hdV (gtD (rSetL l k (rAddE l k a th) ((ao2, c2, nl2) : HdI))) o3)) ∧ ¬ F' g3 ∧ Fr w w' no F' := by
 have hki := rchk_in hck
 refine enter (args := [.slice ao1 l.length c1, vi k, vi a, vb th]) (D := no) (A := []) Tryd.func49 rfl 77 rfl [(0, .fn 0 64 dbT), (g1, .fn o1 (o1 + l.length) (hdV (gtD l) o1))] (WS.startL ⟨⟨rfl, hh0⟩, ⟨rfl, hh1⟩, trivial⟩) fun ac hS => ?_
 refine hS.regS [0, 0] [0, 1, 2, 3] fun _ => seg [] [(0, none), (1, none)] [] trivial fun ac wd hS => ?_
 refine wp_region_seq ?_
 refine hS.opsC 2 [0, 0] [0, 1, 2, 3] fun _ => seg [(15, .slice ao1 l.length c1), (16, vi k)] [(0, none), (1, none)] [] trivial fun ac wd hS => ?_
 refine hS.call0 124 #[.slice ao1 l.length c1, vi k] 17 (r7_check ao1 c1 g1 o1 l k _ (hS.mem.get 1 g1 (.fn o1 (o1 + l.length) (hdV (gtD l) o1))) hv1 (by first | assumption | omega | (simp_all; done) | (simp_all; omega))) fun ac wd hS => ?_
 replace hS := hS.fix 17 (vi 0) (show (vi (rchk l k) : Value) = vi 0 from (vint (by first | exact hck | exact (rchk_out hne).1)))
 refine hS.opsC 1 [0] [0, 1, 2, 3] fun _ => seg [(10, vi 0)] [(0, none), (1, none)] [] trivial fun ac wd hS => ?_
 refine list_nil_seq ?_
 refine wp_seq ?_
 refine hS.regS [0, 0, 0, 1, 1, 70] [0, 1, 2, 3, 10] fun _ => seg [(23, vb (decide ((a : Int) < 1)))] [(0, none), (1, none)] [.t true, .t true, .t true] trivial fun ac wd hS => ?_
 refine hS.condC (decide ((a : Int) < 1)) (fun hb1o hb1 => ?_) (fun hb1o hb1 => ?_)
 ·
  have hE : 2 = rAddE l k a th := by unfold rAddE; rw [if_neg (fun q => q hck), if_pos (by omega)]
  refine hS.regC [0] [0, 1, 2, 3] fun _ => seg [(10, vi 2)] [(0, none), (1, none)] [] trivial fun ac wd hS => ?_
  refine pop_then ?_
  refine wp_seq ?_
  refine hS.regS [0, 0, 0, 2, 2, 60] [0, 1, 2, 10] fun _ => seg [(29, vb false)] [(0, none), (1, none)] [.t false, .t false, .t false] trivial fun ac wd hS => ?_
  refine hS.condF ?_
  refine wp_skip ?_
  refine pop_then ?_
  refine wp_seq ?_
  refine wp_region_seq ?_
  refine hS.opsC 3 [0, 0, 0] [0, 1, 2, 10] fun _ => seg [(32, vb false)] [(0, none), (1, none)] [] trivial fun ac wd hS => ?_
  refine hS.opsC 5 [2, 2, 2, 2, 60] [0, 1, 2, 10] fun _ => seg [(37, vb false)] [(0, none), (1, none)] [.t false, .t false, .t false, .t false, .t false] trivial fun ac wd hS => ?_
  refine list_nil_seq ?_
  refine hS.condF ?_
  refine wp_skip ?_
  refine pop_then ?_
  refine wp_seq ?_
  refine hS.regS [0, 0] [0, 1, 2, 10] fun _ => seg [(39, vb true)] [(0, none), (1, none)] [] trivial fun ac wd hS => ?_
  refine hS.condT ?_
  refine hS.regS [0, 0, 0, 0] [] fun _ => seg [(8, .slice ao1 l.length c1), (9, vi 2)] [(0, none), (1, none)] [] trivial fun ac wd hS => ?_
  refine wp_ret ?_
  refine pop_then_ret ?_
  replace hS := hS.to (hS.mem.grNew 3 1 (ints ([] : List (Int)) 0))
  have hD : l = rSetL l k (rAddE l k a th) ((none, 0, ([] : List (Int))) : HdI) := rSetL_no (by rw [← hE]; decide)
  have hN2 : ([] : List (Int)) = (rAddN l k a th) := by unfold rAddN; rw [if_neg (by rw [← hE]; decide)]
  refine St.retC 0 hS (.tuple #[.slice ao1 l.length c1, vi 2]) [] trivial fun hw => ?_
  refine ⟨none, 0, ([] : List (Int)), ao1, c1, g1, o1, no, retd (tuple2 (slN ?_) (vint ?_)), ?_, (by first | exact hv1 | exact .inl hz_ | (rw [← hD]; exact hv1) | (rw [← hD]; exact .inl hz_)), (hw.res 0), (by omega), (HE.fn_to (hw.get 1 g1 (.fn o1 (o1 + l.length) (hdV (gtD l) o1))) ?_ ?_), (fun q_ => hw.free (g1, .fn o1 (o1 + l.length) (hdV (gtD l) o1)) (List.mem_of_getElem? (i := 1) (by as_aux_lemma => kernel_rfl)) (.inl q_)), hw.frA⟩
  all_goals (first | (first | rfl | (rw [← hD]; done) | (rw [← hD]; omega) | (rw [hD]; done) | (intro x_ _ _; rw [← hD]) | (intro x_ _; rw [← hD]) | exact hE | exact hN2 | omega) | (intro x_ hx_; rfl) | (intro x_ hx_ hy_; rfl))
 ·
  have h1 : ¬ a < 1 := by omega
  refine wp_skip ?_
  refine pop_then ?_
  refine wp_seq ?_
  refine hS.regS [0, 0, 0, 1, 1, 70] [0, 1, 2, 10] fun _ => seg [(29, vb (!th))] [(0, none), (1, none)] [.t true, .t true, .t true] trivial fun ac wd hS => ?_
  refine hS.condC (!th) (fun hb2o hb2 => ?_) (fun hb2o hb2 => ?_)
  ·
   have h2n : th = false := by simpa using hb2o
   have hE : 3 = rAddE l k a th := by unfold rAddE; rw [if_neg (fun q => q hck), if_neg h1, if_pos h2n]
   refine hS.regC [0] [0, 1, 2] fun _ => seg [(10, vi 3)] [(0, none), (1, none)] [] trivial fun ac wd hS => ?_
   refine pop_then ?_
   refine wp_seq ?_
   refine wp_region_seq ?_
   refine hS.opsC 3 [0, 0, 0] [0, 1, 2, 10] fun _ => seg [(32, vb false)] [(0, none), (1, none)] [] trivial fun ac wd hS => ?_
   refine hS.opsC 5 [2, 2, 2, 2, 60] [0, 1, 2, 10] fun _ => seg [(37, vb false)] [(0, none), (1, none)] [.t false, .t false, .t false, .t false, .t false] trivial fun ac wd hS => ?_
   refine list_nil_seq ?_
   refine hS.condF ?_
   refine wp_skip ?_
   refine pop_then ?_
   refine wp_seq ?_
   refine hS.regS [0, 0] [0, 1, 2, 10] fun _ => seg [(39, vb true)] [(0, none), (1, none)] [] trivial fun ac wd hS => ?_
   refine hS.condT ?_
   refine hS.regS [0, 0, 0, 0] [] fun _ => seg [(8, .slice ao1 l.length c1), (9, vi 3)] [(0, none), (1, none)] [] trivial fun ac wd hS => ?_
   refine wp_ret ?_
   refine pop_then_ret ?_
   replace hS := hS.to (hS.mem.grNew 3 1 (ints ([] : List (Int)) 0))
   have hD : l = rSetL l k (rAddE l k a th) ((none, 0, ([] : List (Int))) : HdI) := rSetL_no (by rw [← hE]; decide)
   have hN2 : ([] : List (Int)) = (rAddN l k a th) := by unfold rAddN; rw [if_neg (by rw [← hE]; decide)]
   refine St.retC 0 hS (.tuple #[.slice ao1 l.length c1, vi 3]) [] trivial fun hw => ?_
   refine ⟨none, 0, ([] : List (Int)), ao1, c1, g1, o1, no, retd (tuple2 (slN ?_) (vint ?_)), ?_, (by first | exact hv1 | exact .inl hz_ | (rw [← hD]; exact hv1) | (rw [← hD]; exact .inl hz_)), (hw.res 0), (by omega), (HE.fn_to (hw.get 1 g1 (.fn o1 (o1 + l.length) (hdV (gtD l) o1))) ?_ ?_), (fun q_ => hw.free (g1, .fn o1 (o1 + l.length) (hdV (gtD l) o1)) (List.mem_of_getElem? (i := 1) (by as_aux_lemma => kernel_rfl)) (.inl q_)), hw.frA⟩
   all_goals (first | (first | rfl | (rw [← hD]; done) | (rw [← hD]; omega) | (rw [hD]; done) | (intro x_ _ _; rw [← hD]) | (intro x_ _; rw [← hD]) | exact hE | exact hN2 | omega) | (intro x_ hx_; rfl) | (intro x_ hx_ hy_; rfl))
  ·
   have h2 : th = true := by simpa using hb2o
   refine wp_skip ?_
   refine pop_then ?_
   refine wp_seq ?_
   refine wp_region_seq ?_
   refine hS.opsC 3 [0, 0, 0] [0, 1, 2, 10] fun _ => seg [(32, vb true)] [(0, none), (1, none)] [] trivial fun ac wd hS => ?_
   refine hS.opsC 3 [1, 1, 1] [0, 1, 2, 10, 32] fun _ => seg [(33, .slice ao1 l.length c1), (34, vi k), (35, vi a)] [(0, none), (1, none)] [.t true, .t true, .t true] trivial fun ac wd hS => ?_
   refine hS.callG true 45 #[.slice ao1 l.length c1, vi k, vi a] (r7_Has_in ao1 c1 g1 o1 l k a _ (hS.mem.get 0 0 (.fn 0 64 dbT)) (hS.mem.get 1 g1 (.fn o1 (o1 + l.length) (hdV (gtD l) o1))) hv1 (by first | assumption | omega | (simp_all; done) | (simp_all; omega)) (by exact fun i_ hi_ => (hQ i_ hi_).keep hS.mem.fr) (by first | assumption | omega | (simp_all; done) | (simp_all; omega)) (by first | assumption | omega | (simp_all; done) | (simp_all; omega))) ?_
   rintro _ wd ⟨rfl, hF⟩
   refine ⟨vb (hasM (Qf l (Int.toNat k)) a), rfl, ?_⟩
   replace hS := (hS.to (hS.mem.keep0 hF)).put (d := 36) (v := vb (hasM (Qf l (Int.toNat k)) a)) (by decide)
   clear hF
   refine hS.opsC 1 [70] [0, 1, 2, 10] fun _ => seg [(37, vb (hasM (Qf l (Int.toNat k)) a))] [(0, none), (1, none)] [.t true] trivial fun ac wd hS => ?_
   refine list_nil_seq ?_
   refine hS.condC (hasM (Qf l (Int.toNat k)) a) (fun hb3o hb3 => ?_) (fun hb3o hb3 => ?_)
   ·
    have h3n : hasM (Qf l (Int.toNat k)) a = true := by simpa using hb3o
    have hE : 9 = rAddE l k a th := by unfold rAddE; rw [if_neg (fun q => q hck), if_neg h1, if_neg (by rw [h2]; decide), if_pos h3n]
    refine hS.regC [0] [0, 1, 2] fun _ => seg [(10, vi 9)] [(0, none), (1, none)] [] trivial fun ac wd hS => ?_
    refine pop_then ?_
    refine wp_seq ?_
    refine hS.regS [0, 0] [0, 1, 2, 10] fun _ => seg [(39, vb true)] [(0, none), (1, none)] [] trivial fun ac wd hS => ?_
    refine hS.condT ?_
    refine hS.regS [0, 0, 0, 0] [] fun _ => seg [(8, .slice ao1 l.length c1), (9, vi 9)] [(0, none), (1, none)] [] trivial fun ac wd hS => ?_
    refine wp_ret ?_
    refine pop_then_ret ?_
    replace hS := hS.to (hS.mem.grNew 3 1 (ints ([] : List (Int)) 0))
    have hD : l = rSetL l k (rAddE l k a th) ((none, 0, ([] : List (Int))) : HdI) := rSetL_no (by rw [← hE]; decide)
    have hN2 : ([] : List (Int)) = (rAddN l k a th) := by unfold rAddN; rw [if_neg (by rw [← hE]; decide)]
    refine St.retC 0 hS (.tuple #[.slice ao1 l.length c1, vi 9]) [] trivial fun hw => ?_
    refine ⟨none, 0, ([] : List (Int)), ao1, c1, g1, o1, no, retd (tuple2 (slN ?_) (vint ?_)), ?_, (by first | exact hv1 | exact .inl hz_ | (rw [← hD]; exact hv1) | (rw [← hD]; exact .inl hz_)), (hw.res 0), (by omega), (HE.fn_to (hw.get 1 g1 (.fn o1 (o1 + l.length) (hdV (gtD l) o1))) ?_ ?_), (fun q_ => hw.free (g1, .fn o1 (o1 + l.length) (hdV (gtD l) o1)) (List.mem_of_getElem? (i := 1) (by as_aux_lemma => kernel_rfl)) (.inl q_)), hw.frA⟩
    all_goals (first | (first | rfl | (rw [← hD]; done) | (rw [← hD]; omega) | (rw [hD]; done) | (intro x_ _ _; rw [← hD]) | (intro x_ _; rw [← hD]) | exact hE | exact hN2 | omega) | (intro x_ hx_; rfl) | (intro x_ hx_ hy_; rfl))
   ·
    have h3 : hasM (Qf l (Int.toNat k)) a = false := by simpa using hb3o
    refine wp_skip ?_
    refine pop_then ?_
    refine wp_seq ?_
    refine hS.regS [0, 0] [0, 1, 2, 10] fun _ => seg [(39, vb false)] [(0, none), (1, none)] [] trivial fun ac wd hS => ?_
    refine hS.condF ?_
    refine wp_skip ?_
    refine pop_then ?_
    refine hS.regS [0] [0, 1, 2] fun _ => seg [(11, vnil)] [(0, none), (1, none)] [] trivial fun ac wd hS => ?_
    refine hS.regS [0] [0, 1, 2, 11] fun _ => seg [(12, vb false)] [(0, none), (1, none)] [] trivial fun ac wd hS => ?_
    refine wp_seq ?_
    obtain rfl : ao1 = some ⟨g1, o1, none⟩ := Or.resolve_left hv1 (by omega)
    replace hS := hS.to (hS.mem.grNew 3 1 (ints ([] : List (Int)) 0))
    refine hS.regS [0, 0, 20, fx 100 (.slice (((gtD l) (Int.toNat k)).1) (((gtD l) (Int.toNat k)).2.2.length) (((gtD l) (Int.toNat k)).2.1)), 0, 0] [0, 1, 2, 11, 12] fun _ => seg [(45, .slice (((gtD l) (Int.toNat k)).1) (((gtD l) (Int.toNat k)).2.2.length) (((gtD l) (Int.toNat k)).2.1)), (46, vi ((((gtD l) (Int.toNat k)).2.2.length : Nat) : Int)), (47, vi 0)] [(0, none), (1, none)] [.p ((((hdV (gtD l) o1) (o1 + Int.toNat k * 1)) : Value) = .slice (((gtD l) (Int.toNat k)).1) (((gtD l) (Int.toNat k)).2.2.length) (((gtD l) (Int.toNat k)).2.1)), .e g1, .p (o1 ≤ o1 + Int.toNat k * 1 ∧ o1 + Int.toNat k * 1 < (o1 + l.length)), .p ((0 : Int) ≤ k ∧ (k : Int) < ((l.length : Nat) : Int))] ⟨((hdV_0 (gtD l) o1 (Int.toNat k))), (by omega), (by omega), trivial⟩ fun ac wd hS => ?_
    refine wp_block ?_
    obtain ⟨⟨ya, yc, yL⟩, hy⟩ : ∃ q_ : HdI, q_ = gtD l (Int.toNat k) := ⟨_, rfl⟩
    have hyr := hQ _ (show Int.toNat k < l.length by omega)
    rw [← hy] at hyr
    have hyl := hB (Int.toNat k)
    rw [← hy] at hyl
    replace hyl : yL.length ≤ 4294967290 := hyl
    have hyq : Qf l (Int.toNat k) = yL := by unfold Qf; rw [← hy]
    obtain ⟨yg, yo, hyv, hyh⟩ : ∃ g o, (yL.length = 0 ∨ ya = some ⟨g, o, none⟩) ∧ HE.holds w g (.fn o (o + yL.length) (ints yL o)) := hyr.open hh0
    replace hS := hS.fix 45 (.slice ya yL.length yc) (show (.slice (((gtD l) (Int.toNat k)).1) (((gtD l) (Int.toNat k)).2.2.length) (((gtD l) (Int.toNat k)).2.1) : Value) = .slice ya yL.length yc by rw [← hy])
    replace hS := hS.fix 46 (vi ((yL.length : Nat) : Int)) (show (vi ((((gtD l) (Int.toNat k)).2.2.length : Nat) : Int) : Value) = vi ((yL.length : Nat) : Int) by rw [← hy])
    replace hS := hS.to (hS.mem.acq (g := yg) (lo := yo) (hi := yo + yL.length) (f := ints yL yo) hyh (fun h_ => h_))
    have h3h : hasM yL a = false := by rw [← hyq]; exact h3
    refine St.loopC (σ := Bool × Int × Option Addr × Nat × (Nat → Prop) × List (Int)) (fun (x : Bool × Int × Option Addr × Nat × (Nat → Prop) × List (Int)) => match x with | (x12, x47, aoq, cq, Fq, lq) => ⟨[(0, [], sc g1 o1 l.length c1), (1, [], vi k), (2, [], vi a), (11, [], .slice aoq lq.length cq), (12, [], vb x12), (45, [], .slice ya yL.length yc), (46, [], vi ((yL.length : Nat) : Int)), (47, [], vi x47)], [(0, .fn 0 64 dbT), (g1, .fn o1 (o1 + l.length) (hdV (gtD l) o1)), (yg, .fn yo (yo + yL.length) (ints yL yo))], [grR 3 1 (.slice aoq lq.length cq) Fq (lq.length, (ints lq 0))], (0 ≤ x47 ∧ x47 ≤ (yL.length : Int)) ∧ (AddI yL a (Int.toNat x47) x12 lq) ∧ True, yL.length - Int.toNat x47⟩) (false, 0, none, 0, no, ([] : List (Int))) ⟨(by first | omega | exact addI_0 _ _), (by first | omega | exact addI_0 _ _), trivial⟩ hS ?_
    clear hS
    rintro ⟨x12, x47, aoq, cq, Fq, lq⟩ ⟨i0, i1, -⟩ ac wd hS
    replace i0 : 0 ≤ x47 ∧ x47 ≤ (yL.length : Int) := i0
    replace i1 : AddI yL a (Int.toNat x47) x12 lq := i1
    refine hS.regS [0] [0, 1, 2, 11, 12, 45, 46, 47] fun _ => seg [(48, vb (decide ((x47 : Int) < ((yL.length : Nat) : Int))))] [(0, none), (1, none), (2, none)] [] trivial fun ac wd hS => ?_
    refine wp_seq ?_
    refine hS.condC (decide ((x47 : Int) < ((yL.length : Nat) : Int))) (fun hb4o hb4 => ?_) (fun hb4o hb4 => ?_)
    ·
     refine wp_skip ?_
     refine pop_then ?_
     refine wp_seq ?_
     refine wp_block ?_
     obtain rfl : ya = some ⟨yg, yo, none⟩ := Or.resolve_left hyv (by omega)
     refine hS.regS [20, fx 200 (vi (List.getD yL (Int.toNat x47) 0)), 0] [0, 1, 2, 11, 12, 45, 46, 47] fun _ => seg [(14, vi (List.getD yL (Int.toNat x47) 0))] [(0, none), (1, none), (2, none)] [.p ((((ints yL yo) (yo + Int.toNat x47 * 1)) : Value) = vi (List.getD yL (Int.toNat x47) 0)), .e yg, .p (yo ≤ yo + Int.toNat x47 * 1 ∧ yo + Int.toNat x47 * 1 < (yo + yL.length)), .p ((0 : Int) ≤ x47 ∧ (x47 : Int) < ((yL.length : Nat) : Int))] ⟨(ints_rel yL yo (Int.toNat x47)), (by omega), (by omega), trivial⟩ fun ac wd hS => ?_
     refine wp_seq ?_
     refine hS.regS [0, 0, 0, 3, 3, 3, 80] [0, 1, 2, 11, 12, 14, 45, 46, 47] fun _ => seg [(57, vb ((!x12) && (decide ((a : Int) < (List.getD yL (Int.toNat x47) 0)))))] [(0, none), (1, none), (2, none)] [] trivial fun ac wd hS => ?_
     refine hS.condC ((!x12) && (decide ((a : Int) < (List.getD yL (Int.toNat x47) 0)))) (fun hb5o hb5 => ?_) (fun hb5o hb5 => ?_)
     ·
      have hcd := hb5o
      refine wp_region_seq ?_
      refine hS.opsC 3 [0, 0, 0] [0, 1, 2, 11, 14, 45, 46, 47] fun ν30 => seg [(58, .slice aoq lq.length cq), (60, sc (ν30 0) 0 1 1)] [(0, none), (1, none), (2, none), (3, some ((ν30 0), .cells [vi a] 3))] [] trivial fun ac wd hS => ?_
      obtain ⟨i_, hi_, hz_, hs_, hb_⟩ := info_get (P := Tryd.prog) (e := 3) (z := vi 0) (s := 1) (b := 8) (by kernel_rfl)
      refine Runs1.list ?_
      refine St.appV (m := lq.length) (f := (ints lq 0)) (news := [vi a]) (bx := (ν30 0)) (cx := 1) (Tx := 3) 0 hS (.tmp 58) (.tmp 60) 34 rfl rfl (by decide) Tryd.underlying34 hi_ hz_ hs_ (by omega) rfl (by decide) 3 rfl rfl (by (have h9_ := addI_len i1; first | omega | (simp only [List.length_append, List.length_singleton]; omega))) fun ac wd v2_ F8 hB9 hS => ?_
      obtain ⟨xo6, xc7, rfl⟩ := hB9.slice
      replace hS := hS.to (hS.mem.grTell (m := (lq.length + 1)) 0 (ints (lq ++ [a]) 0) (ints_app1 lq a))
      have hm_ : lq.length + 1 = ((lq ++ [a])).length := by simp
      replace hS := hS.to (hS.mem.grRe (v := .slice xo6 (lq.length + 1) xc7) (v' := .slice xo6 (((lq ++ [a])).length) xc7) (m := (lq.length + 1)) (m' := ((lq ++ [a])).length) (f := (ints (lq ++ [a]) 0)) 0 (by rw [hm_]) hm_)
      replace hS := hS.fix 61 (.slice xo6 (((lq ++ [a])).length) xc7) (show (.slice xo6 (lq.length + 1) xc7 : Value) = .slice xo6 (((lq ++ [a])).length) xc7 by rw [hm_])
      refine hS.opsC 1 [0] [0, 1, 2, 14, 45, 46, 47] fun _ => seg [(11, .slice xo6 (((lq ++ [a])).length) xc7)] [(0, none), (1, none), (2, none)] [] trivial fun ac wd hS => ?_
      refine list_nil_seq ?_
      refine hS.regC [0] [0, 1, 2, 11, 14, 45, 46, 47] fun _ => seg [(12, vb true)] [(0, none), (1, none), (2, none)] [] trivial fun ac wd hS => ?_
      refine pop_then ?_
      refine wp_region_lit ?_
      refine hS.opsC 3 [0, 0, 0] [0, 1, 2, 11, 12, 45, 46, 47] fun ν33 => seg [(62, .slice xo6 (((lq ++ [a])).length) xc7), (64, sc (ν33 0) 0 1 1)] [(0, none), (1, none), (2, none), (3, some ((ν33 0), .cells [vi (List.getD yL (Int.toNat x47) 0)] 3))] [] trivial fun ac wd hS => ?_
      obtain ⟨i_, hi_, hz_, hs_, hb_⟩ := info_get (P := Tryd.prog) (e := 3) (z := vi 0) (s := 1) (b := 8) (by kernel_rfl)
      refine Runs1.list ?_
      refine St.appV (m := (((lq ++ [a])).length)) (f := (ints (lq ++ [a]) 0)) (news := [vi (List.getD yL (Int.toNat x47) 0)]) (bx := (ν33 0)) (cx := 1) (Tx := 3) 0 hS (.tmp 62) (.tmp 64) 34 rfl rfl (by decide) Tryd.underlying34 hi_ hz_ hs_ (by omega) rfl (by decide) 3 rfl rfl (by (have h9_ := addI_len i1; first | omega | (simp only [List.length_append, List.length_singleton]; omega))) fun ac wd v2_ F12 hB13 hS => ?_
      obtain ⟨xo10, xc11, rfl⟩ := hB13.slice
      replace hS := hS.to (hS.mem.grTell (m := ((((lq ++ [a])).length) + 1)) 0 (ints ((lq ++ [a]) ++ [(List.getD yL (Int.toNat x47) 0)]) 0) (ints_app1 (lq ++ [a]) (List.getD yL (Int.toNat x47) 0)))
      have hm_ : (((lq ++ [a])).length) + 1 = (((lq ++ [a]) ++ [(List.getD yL (Int.toNat x47) 0)])).length := by simp
      replace hS := hS.to (hS.mem.grRe (v := .slice xo10 ((((lq ++ [a])).length) + 1) xc11) (v' := .slice xo10 ((((lq ++ [a]) ++ [(List.getD yL (Int.toNat x47) 0)])).length) xc11) (m := ((((lq ++ [a])).length) + 1)) (m' := (((lq ++ [a]) ++ [(List.getD yL (Int.toNat x47) 0)])).length) (f := (ints ((lq ++ [a]) ++ [(List.getD yL (Int.toNat x47) 0)]) 0)) 0 (by rw [hm_]) hm_)
      replace hS := hS.fix 65 (.slice xo10 ((((lq ++ [a]) ++ [(List.getD yL (Int.toNat x47) 0)])).length) xc11) (show (.slice xo10 ((((lq ++ [a])).length) + 1) xc11 : Value) = .slice xo10 ((((lq ++ [a]) ++ [(List.getD yL (Int.toNat x47) 0)])).length) xc11 by rw [hm_])
      refine hS.opsC 1 [0] [0, 1, 2, 12, 45, 46, 47] fun _ => seg [(11, .slice xo10 ((((lq ++ [a]) ++ [(List.getD yL (Int.toNat x47) 0)])).length) xc11)] [(0, none), (1, none), (2, none)] [] trivial fun ac wd hS => ?_
      refine list_nil ?_
      refine pop_block ?_
      refine pop_then ?_
      refine hS.regC [20, 0] [0, 1, 2, 11, 12, 45, 46] fun _ => seg [(47, vi (x47 + 1))] [(0, none), (1, none), (2, none)] [.p (fit .i64 (x47 + 1))] ⟨fit_i64 (by omega), trivial⟩ fun ac wd hS => ?_
      exact pop_then (hS.next (true, (x47 + 1), xo10, xc11, F12, ((lq ++ [a]) ++ [(List.getD yL (Int.toNat x47) 0)])) ⟨(by first | omega | assumption | (simp; done) | (simp; omega)), (by first | exact addI_y h3h i1 i0.1 (by omega) hcd | exact addI_n h3h i1 i0.1 (by omega) hcd), trivial⟩ (by dsimp only; omega))
     ·
      have hcd := hb5o
      refine wp_skip ?_
      refine pop_then ?_
      refine wp_region_lit ?_
      refine hS.opsC 3 [0, 0, 0] [0, 1, 2, 11, 12, 45, 46, 47] fun ν36 => seg [(62, .slice aoq lq.length cq), (64, sc (ν36 0) 0 1 1)] [(0, none), (1, none), (2, none), (3, some ((ν36 0), .cells [vi (List.getD yL (Int.toNat x47) 0)] 3))] [] trivial fun ac wd hS => ?_
      obtain ⟨i_, hi_, hz_, hs_, hb_⟩ := info_get (P := Tryd.prog) (e := 3) (z := vi 0) (s := 1) (b := 8) (by kernel_rfl)
      refine Runs1.list ?_
      refine St.appV (m := lq.length) (f := (ints lq 0)) (news := [vi (List.getD yL (Int.toNat x47) 0)]) (bx := (ν36 0)) (cx := 1) (Tx := 3) 0 hS (.tmp 62) (.tmp 64) 34 rfl rfl (by decide) Tryd.underlying34 hi_ hz_ hs_ (by omega) rfl (by decide) 3 rfl rfl (by (have h9_ := addI_len i1; first | omega | (simp only [List.length_append, List.length_singleton]; omega))) fun ac wd v2_ F16 hB17 hS => ?_
      obtain ⟨xo14, xc15, rfl⟩ := hB17.slice
      replace hS := hS.to (hS.mem.grTell (m := (lq.length + 1)) 0 (ints (lq ++ [(List.getD yL (Int.toNat x47) 0)]) 0) (ints_app1 lq (List.getD yL (Int.toNat x47) 0)))
      have hm_ : lq.length + 1 = ((lq ++ [(List.getD yL (Int.toNat x47) 0)])).length := by simp
      replace hS := hS.to (hS.mem.grRe (v := .slice xo14 (lq.length + 1) xc15) (v' := .slice xo14 (((lq ++ [(List.getD yL (Int.toNat x47) 0)])).length) xc15) (m := (lq.length + 1)) (m' := ((lq ++ [(List.getD yL (Int.toNat x47) 0)])).length) (f := (ints (lq ++ [(List.getD yL (Int.toNat x47) 0)]) 0)) 0 (by rw [hm_]) hm_)
      replace hS := hS.fix 65 (.slice xo14 (((lq ++ [(List.getD yL (Int.toNat x47) 0)])).length) xc15) (show (.slice xo14 (lq.length + 1) xc15 : Value) = .slice xo14 (((lq ++ [(List.getD yL (Int.toNat x47) 0)])).length) xc15 by rw [hm_])
      refine hS.opsC 1 [0] [0, 1, 2, 12, 45, 46, 47] fun _ => seg [(11, .slice xo14 (((lq ++ [(List.getD yL (Int.toNat x47) 0)])).length) xc15)] [(0, none), (1, none), (2, none)] [] trivial fun ac wd hS => ?_
      refine list_nil ?_
      refine pop_block ?_
      refine pop_then ?_
      refine hS.regC [20, 0] [0, 1, 2, 11, 12, 45, 46] fun _ => seg [(47, vi (x47 + 1))] [(0, none), (1, none), (2, none)] [.p (fit .i64 (x47 + 1))] ⟨fit_i64 (by omega), trivial⟩ fun ac wd hS => ?_
      exact pop_then (hS.next (x12, (x47 + 1), xo14, xc15, F16, (lq ++ [(List.getD yL (Int.toNat x47) 0)])) ⟨(by first | omega | assumption | (simp; done) | (simp; omega)), (by first | exact addI_y h3h i1 i0.1 (by omega) hcd | exact addI_n h3h i1 i0.1 (by omega) hcd), trivial⟩ (by dsimp only; omega))
    ·
     refine wp_exit ?_
     refine pop_then_exit ?_
     refine pop_then_exit ?_
     refine pop_block_hit ?_
     refine pop_then ?_
     refine wp_seq ?_
     refine hS.regS [0, 0] [0, 1, 2, 11] fun _ => seg [(68, vb (!x12))] [(0, none), (1, none)] [] trivial fun ac wd hS => ?_
     refine hS.condC (!x12) (fun hb18o hb18 => ?_) (fun hb18o hb18 => ?_)
     ·
      have hx12 : x12 = false := by simpa only [Bool.not_eq_true'] using hb18o
      rw [hx12] at i1
      refine wp_region_lit ?_
      refine hS.opsC 3 [0, 0, 0] [0, 1, 11] fun ν40 => seg [(69, .slice aoq lq.length cq), (71, sc (ν40 0) 0 1 1)] [(0, none), (1, none), (2, some ((ν40 0), .cells [vi a] 3))] [] trivial fun ac wd hS => ?_
      obtain ⟨i_, hi_, hz_, hs_, hb_⟩ := info_get (P := Tryd.prog) (e := 3) (z := vi 0) (s := 1) (b := 8) (by kernel_rfl)
      refine Runs1.list ?_
      refine St.appV (m := lq.length) (f := (ints lq 0)) (news := [vi a]) (bx := (ν40 0)) (cx := 1) (Tx := 3) 0 hS (.tmp 69) (.tmp 71) 34 rfl rfl (by decide) Tryd.underlying34 hi_ hz_ hs_ (by omega) rfl (by decide) 2 rfl rfl (by (have h9_ := addI_len i1; first | omega | (simp only [List.length_append, List.length_singleton]; omega))) fun ac wd v2_ F21 hB22 hS => ?_
      obtain ⟨xo19, xc20, rfl⟩ := hB22.slice
      replace hS := hS.to (hS.mem.grTell (m := (lq.length + 1)) 0 (ints (lq ++ [a]) 0) (ints_app1 lq a))
      have hm_ : lq.length + 1 = ((lq ++ [a])).length := by simp
      replace hS := hS.to (hS.mem.grRe (v := .slice xo19 (lq.length + 1) xc20) (v' := .slice xo19 (((lq ++ [a])).length) xc20) (m := (lq.length + 1)) (m' := ((lq ++ [a])).length) (f := (ints (lq ++ [a]) 0)) 0 (by rw [hm_]) hm_)
      replace hS := hS.fix 72 (.slice xo19 (((lq ++ [a])).length) xc20) (show (.slice xo19 (lq.length + 1) xc20 : Value) = .slice xo19 (((lq ++ [a])).length) xc20 by rw [hm_])
      refine hS.opsC 1 [0] [0, 1] fun _ => seg [(11, .slice xo19 (((lq ++ [a])).length) xc20)] [(0, none), (1, none)] [] trivial fun ac wd hS => ?_
      refine list_nil ?_
      refine pop_then ?_
      have hE : 0 = (rAddE l k a th) := by unfold rAddE; rw [if_neg (fun q => q hck), if_neg h1, if_neg (by rw [h2]; decide), if_neg (by rw [h3]; decide)]
      have hN2 : (lq ++ [a]) = (rAddN l k a th) := by unfold rAddN; rw [if_pos hE.symm, hyq]; first | exact addI_end i1 (by omega) | exact addI_end0 i1 (by omega)
      refine wp_region_seq ?_
      refine hS.opsC 3 [0, 0, 0] [] fun _ => seg [(73, sc g1 o1 l.length c1), (74, vi k), (75, .slice xo19 (((lq ++ [a])).length) xc20)] [(0, none), (1, none)] [] trivial fun ac wd hS => ?_
      refine hS.callC 129 #[sc g1 o1 l.length c1, vi k, .slice xo19 (((lq ++ [a])).length) xc20] (r7_with (some ⟨g1, o1, none⟩) c1 g1 o1 l k xo19 xc20 (lq ++ [a]) _ (hS.mem.get 0 0 (.fn 0 64 dbT)) (hS.mem.get 1 g1 (.fn o1 (o1 + l.length) (hdV (gtD l) o1))) (.inr rfl) (by first | assumption | omega | (simp_all; done) | (simp_all; omega)) (by first | assumption | omega | (simp_all; done) | (simp_all; omega))) ?_
      rintro _ wd ⟨ao323, c324, g325, o326, rfl, hv327, hog0, hoh0, hF⟩
      have ho28 : g325 = 0 ∨ w.heap.size ≤ g325 := by have := hS.mem.fr.size; have : w.heap.size ≤ _ := this; omega
      refine ⟨.slice ao323 ((l.set (Int.toNat k) ((xo19, xc20, (lq ++ [a])) : HdI)).length) c324, rfl, ?_⟩
      replace hS := (hS.to (hS.mem.outs hF [(g325, .fn o326 (o326 + (l.set (Int.toNat k) ((xo19, xc20, (lq ++ [a])) : HdI)).length) (hdV (gtD (l.set (Int.toNat k) ((xo19, xc20, (lq ++ [a])) : HdI))) o326))] ⟨⟨rfl, hoh0, (fun q_ => q_.elim (fun e => .inl ⟨0, .fn 0 64 dbT, by rw [e]; as_aux_lemma => kernel_rfl, rfl⟩) (fun q_ => .inr q_)) hog0⟩, trivial⟩)).put (d := 76) (v := .slice ao323 ((l.set (Int.toNat k) ((xo19, xc20, (lq ++ [a])) : HdI)).length) c324) (by decide)
      clear hF
      refine hS.opsC 2 [0, 0] [] fun _ => seg [(8, .slice ao323 ((l.set (Int.toNat k) ((xo19, xc20, (lq ++ [a])) : HdI)).length) c324), (9, vi 0)] [(0, none), (2, none)] [] trivial fun ac wd hS => ?_
      refine list_nil_seq ?_
      refine wp_ret ?_
      have hD : l.set (Int.toNat k) ((xo19, xc20, (lq ++ [a])) : HdI) = rSetL l k (rAddE l k a th) ((xo19, xc20, (lq ++ [a])) : HdI) := rSetL_yes hE.symm
      refine St.retC 0 hS (.tuple #[.slice ao323 ((l.set (Int.toNat k) ((xo19, xc20, (lq ++ [a])) : HdI)).length) c324, vi 0]) [] trivial fun hw => ?_
      refine ⟨xo19, xc20, (lq ++ [a]), ao323, c324, g325, o326, F21, retd (tuple2 (slN ?_) (vint ?_)), ?_, (by first | exact hv327 | exact .inl hz_ | (rw [← hD]; exact hv327) | (rw [← hD]; exact .inl hz_)), (hw.res 0), (by omega), (HE.fn_to (hw.get 1 g325 (.fn o326 (o326 + (l.set (Int.toNat k) ((xo19, xc20, (lq ++ [a])) : HdI)).length) (hdV (gtD (l.set (Int.toNat k) ((xo19, xc20, (lq ++ [a])) : HdI))) o326))) ?_ ?_), (fun q_ => hw.free (g325, .fn o326 (o326 + (l.set (Int.toNat k) ((xo19, xc20, (lq ++ [a])) : HdI)).length) (hdV (gtD (l.set (Int.toNat k) ((xo19, xc20, (lq ++ [a])) : HdI))) o326)) (List.mem_of_getElem? (i := 1) (by as_aux_lemma => kernel_rfl)) (.inl q_)), hw.frA⟩
      all_goals (first | (first | rfl | (rw [← hD]; done) | (rw [← hD]; omega) | (rw [hD]; done) | (intro x_ _ _; rw [← hD]) | (intro x_ _; rw [← hD]) | exact hE | exact hN2 | omega) | (intro x_ hx_; rfl) | (intro x_ hx_ hy_; rfl))
     ·
      have hx12 : x12 = true := by simpa only [Bool.not_eq_false'] using hb18o
      rw [hx12] at i1
      refine wp_skip ?_
      refine pop_then ?_
      have hE : 0 = (rAddE l k a th) := by unfold rAddE; rw [if_neg (fun q => q hck), if_neg h1, if_neg (by rw [h2]; decide), if_neg (by rw [h3]; decide)]
      have hN2 : lq = (rAddN l k a th) := by unfold rAddN; rw [if_pos hE.symm, hyq]; first | exact addI_end i1 (by omega) | exact addI_end0 i1 (by omega)
      refine wp_region_seq ?_
      refine hS.opsC 3 [0, 0, 0] [] fun _ => seg [(73, sc g1 o1 l.length c1), (74, vi k), (75, .slice aoq lq.length cq)] [(0, none), (1, none)] [] trivial fun ac wd hS => ?_
      refine hS.callC 129 #[sc g1 o1 l.length c1, vi k, .slice aoq lq.length cq] (r7_with (some ⟨g1, o1, none⟩) c1 g1 o1 l k aoq cq lq _ (hS.mem.get 0 0 (.fn 0 64 dbT)) (hS.mem.get 1 g1 (.fn o1 (o1 + l.length) (hdV (gtD l) o1))) (.inr rfl) (by first | assumption | omega | (simp_all; done) | (simp_all; omega)) (by first | assumption | omega | (simp_all; done) | (simp_all; omega))) ?_
      rintro _ wd ⟨ao329, c330, g331, o332, rfl, hv333, hog0, hoh0, hF⟩
      have ho34 : g331 = 0 ∨ w.heap.size ≤ g331 := by have := hS.mem.fr.size; have : w.heap.size ≤ _ := this; omega
      refine ⟨.slice ao329 ((l.set (Int.toNat k) ((aoq, cq, lq) : HdI)).length) c330, rfl, ?_⟩
      replace hS := (hS.to (hS.mem.outs hF [(g331, .fn o332 (o332 + (l.set (Int.toNat k) ((aoq, cq, lq) : HdI)).length) (hdV (gtD (l.set (Int.toNat k) ((aoq, cq, lq) : HdI))) o332))] ⟨⟨rfl, hoh0, (fun q_ => q_.elim (fun e => .inl ⟨0, .fn 0 64 dbT, by rw [e]; as_aux_lemma => kernel_rfl, rfl⟩) (fun q_ => .inr q_)) hog0⟩, trivial⟩)).put (d := 76) (v := .slice ao329 ((l.set (Int.toNat k) ((aoq, cq, lq) : HdI)).length) c330) (by decide)
      clear hF
      refine hS.opsC 2 [0, 0] [] fun _ => seg [(8, .slice ao329 ((l.set (Int.toNat k) ((aoq, cq, lq) : HdI)).length) c330), (9, vi 0)] [(0, none), (2, none)] [] trivial fun ac wd hS => ?_
      refine list_nil_seq ?_
      refine wp_ret ?_
      have hD : l.set (Int.toNat k) ((aoq, cq, lq) : HdI) = rSetL l k (rAddE l k a th) ((aoq, cq, lq) : HdI) := rSetL_yes hE.symm
      refine St.retC 0 hS (.tuple #[.slice ao329 ((l.set (Int.toNat k) ((aoq, cq, lq) : HdI)).length) c330, vi 0]) [] trivial fun hw => ?_
      refine ⟨aoq, cq, lq, ao329, c330, g331, o332, Fq, retd (tuple2 (slN ?_) (vint ?_)), ?_, (by first | exact hv333 | exact .inl hz_ | (rw [← hD]; exact hv333) | (rw [← hD]; exact .inl hz_)), (hw.res 0), (by omega), (HE.fn_to (hw.get 1 g331 (.fn o332 (o332 + (l.set (Int.toNat k) ((aoq, cq, lq) : HdI)).length) (hdV (gtD (l.set (Int.toNat k) ((aoq, cq, lq) : HdI))) o332))) ?_ ?_), (fun q_ => hw.free (g331, .fn o332 (o332 + (l.set (Int.toNat k) ((aoq, cq, lq) : HdI)).length) (hdV (gtD (l.set (Int.toNat k) ((aoq, cq, lq) : HdI))) o332)) (List.mem_of_getElem? (i := 1) (by as_aux_lemma => kernel_rfl)) (.inl q_)), hw.frA⟩
      all_goals (first | (first | rfl | (rw [← hD]; done) | (rw [← hD]; omega) | (rw [hD]; done) | (intro x_ _ _; rw [← hD]) | (intro x_ _; rw [← hD]) | exact hE | exact hN2 | omega) | (intro x_ hx_; rfl) | (intro x_ hx_ hy_; rfl))

set_option maxRecDepth 100000 in
set_option maxHeartbeats 1000000 in
theorem r7_Add_no (ao1 : Option Addr) (c1 : Nat) (g1 : Nat) (o1 : Nat) (l : List (HdI)) (k : Int) (a : Int) (th : Bool) (w : World) (hh0 : HE.holds w 0 (.fn 0 64 dbT)) (hh1 : HE.holds w g1 (.fn o1 (o1 + l.length) (hdV (gtD l) o1))) (hv1 : (l.length = 0 ∨ ao1 = some ⟨g1, o1, none⟩)) (hl : l.length ≤ 4294967290) (hQ : ∀ i, i < l.length → rgH w (gtD l i)) (hB : ∀ k, (gtD l k).2.2.length ≤ 4294967290) (hne : rchk l k ≠ 0) :
    Calls Tryd.prog 49 #[.slice ao1 l.length c1, vi k, vi a, vb th] w fun e w' => ∃ (ao2 : Option Addr) (c2 : Nat) (nl2 : List Int) (ao3 : Option Addr) (c3 : Nat) (g3 : Nat) (o3 : Nat) (F' : Nat → Prop), e = .returned (.tuple #[.slice ao3 ((rSetL l k (rAddE l k a th) ((ao2, c2, nl2) : HdI)).length) c3, vi (rAddE l k a th)]) ∧ nl2 = (rAddN l k a th) ∧ ((rSetL l k (rAddE l k a th) ((ao2, c2, nl2) : HdI)).length = 0 ∨ ao3 = some ⟨g3, o3, none⟩) ∧ (grR 3 1 (.slice ao2 nl2.length c2) F' (nl2.length, (ints nl2 0))).R w' ∧ (g3 = g1 ∨ g3 = 0 ∨ w.heap.size ≤ g3) ∧ HE.holds w' g3 (.fn o3 (o3 + (rSetL l k (rAddE l k a th) ((ao2, c2, nl2) : HdI)).length) (hdV (gtD (rSetL l k (rAddE l k a th) ((ao2, c2, nl2) : HdI))) o3)) ∧ ¬ F' g3 ∧ Fr w w' no F' := by
 have hE : 3 = rAddE l k a th := by unfold rAddE; rw [if_pos hne]
 refine enter (args := [.slice ao1 l.length c1, vi k, vi a, vb th]) (D := no) (A := []) Tryd.func49 rfl 77 rfl [(0, .fn 0 64 dbT), (g1, .fn o1 (o1 + l.length) (hdV (gtD l) o1))] (WS.startL ⟨⟨rfl, hh0⟩, ⟨rfl, hh1⟩, trivial⟩) fun ac hS => ?_
 refine hS.regS [0, 0] [0, 1, 2, 3] fun _ => seg [] [(0, none), (1, none)] [] trivial fun ac wd hS => ?_
 refine wp_region_seq ?_
 refine hS.opsC 2 [0, 0] [0, 1, 2, 3] fun _ => seg [(15, .slice ao1 l.length c1), (16, vi k)] [(0, none), (1, none)] [] trivial fun ac wd hS => ?_
 refine hS.call0 124 #[.slice ao1 l.length c1, vi k] 17 (r7_check ao1 c1 g1 o1 l k _ (hS.mem.get 1 g1 (.fn o1 (o1 + l.length) (hdV (gtD l) o1))) hv1 (by first | assumption | omega | (simp_all; done) | (simp_all; omega))) fun ac wd hS => ?_
 replace hS := hS.fix 17 (vi 3) (show (vi (rchk l k) : Value) = vi 3 from (vint (by first | exact hck | exact (rchk_out hne).1)))
 refine hS.opsC 1 [0] [0, 1, 2, 3] fun _ => seg [(10, vi 3)] [(0, none), (1, none)] [] trivial fun ac wd hS => ?_
 refine list_nil_seq ?_
 refine wp_seq ?_
 refine hS.regS [0, 0, 0, 2, 2, 60] [0, 1, 2, 3, 10] fun _ => seg [(23, vb false)] [(0, none), (1, none)] [.t false, .t false, .t false] trivial fun ac wd hS => ?_
 refine hS.condF ?_
 refine wp_skip ?_
 refine pop_then ?_
 refine wp_seq ?_
 refine hS.regS [0, 0, 0, 2, 2, 60] [0, 1, 2, 10] fun _ => seg [(29, vb false)] [(0, none), (1, none)] [.t false, .t false, .t false] trivial fun ac wd hS => ?_
 refine hS.condF ?_
 refine wp_skip ?_
 refine pop_then ?_
 refine wp_seq ?_
 refine wp_region_seq ?_
 refine hS.opsC 3 [0, 0, 0] [0, 1, 2, 10] fun _ => seg [(32, vb false)] [(0, none), (1, none)] [] trivial fun ac wd hS => ?_
 refine hS.opsC 5 [2, 2, 2, 2, 60] [0, 1, 2, 10] fun _ => seg [(37, vb false)] [(0, none), (1, none)] [.t false, .t false, .t false, .t false, .t false] trivial fun ac wd hS => ?_
 refine list_nil_seq ?_
 refine hS.condF ?_
 refine wp_skip ?_
 refine pop_then ?_
 refine wp_seq ?_
 refine hS.regS [0, 0] [0, 1, 2, 10] fun _ => seg [(39, vb true)] [(0, none), (1, none)] [] trivial fun ac wd hS => ?_
 refine hS.condT ?_
 refine hS.regS [0, 0, 0, 0] [] fun _ => seg [(8, .slice ao1 l.length c1), (9, vi 3)] [(0, none), (1, none)] [] trivial fun ac wd hS => ?_
 refine wp_ret ?_
 refine pop_then_ret ?_
 replace hS := hS.to (hS.mem.grNew 3 1 (ints ([] : List (Int)) 0))
 have hD : l = rSetL l k (rAddE l k a th) ((none, 0, ([] : List (Int))) : HdI) := rSetL_no (by rw [← hE]; decide)
 have hN2 : ([] : List (Int)) = (rAddN l k a th) := by unfold rAddN; rw [if_neg (by rw [← hE]; decide)]
 refine St.retC 0 hS (.tuple #[.slice ao1 l.length c1, vi 3]) [] trivial fun hw => ?_
 refine ⟨none, 0, ([] : List (Int)), ao1, c1, g1, o1, no, retd (tuple2 (slN ?_) (vint ?_)), ?_, (by first | exact hv1 | exact .inl hz_ | (rw [← hD]; exact hv1) | (rw [← hD]; exact .inl hz_)), (hw.res 0), (by omega), (HE.fn_to (hw.get 1 g1 (.fn o1 (o1 + l.length) (hdV (gtD l) o1))) ?_ ?_), (fun q_ => hw.free (g1, .fn o1 (o1 + l.length) (hdV (gtD l) o1)) (List.mem_of_getElem? (i := 1) (by as_aux_lemma => kernel_rfl)) (.inl q_)), hw.frA⟩
 all_goals (first | (first | rfl | (rw [← hD]; done) | (rw [← hD]; omega) | (rw [hD]; done) | (intro x_ _ _; rw [← hD]) | (intro x_ _; rw [← hD]) | exact hE | exact hN2 | omega) | (intro x_ hx_; rfl) | (intro x_ hx_ hy_; rfl))

theorem r7_Add (ao1 : Option Addr) (c1 : Nat) (g1 : Nat) (o1 : Nat) (l : List (HdI)) (k : Int) (a : Int) (th : Bool) (w : World) (hh0 : HE.holds w 0 (.fn 0 64 dbT)) (hh1 : HE.holds w g1 (.fn o1 (o1 + l.length) (hdV (gtD l) o1))) (hv1 : (l.length = 0 ∨ ao1 = some ⟨g1, o1, none⟩)) (hl : l.length ≤ 4294967290) (hQ : ∀ i, i < l.length → rgH w (gtD l i)) (hB : ∀ k, (gtD l k).2.2.length ≤ 4294967290) :
    Calls Tryd.prog 49 #[.slice ao1 l.length c1, vi k, vi a, vb th] w fun e w' => ∃ (ao2 : Option Addr) (c2 : Nat) (nl2 : List Int) (ao3 : Option Addr) (c3 : Nat) (g3 : Nat) (o3 : Nat) (F' : Nat → Prop), e = .returned (.tuple #[.slice ao3 ((rSetL l k (rAddE l k a th) ((ao2, c2, nl2) : HdI)).length) c3, vi (rAddE l k a th)]) ∧ nl2 = (rAddN l k a th) ∧ ((rSetL l k (rAddE l k a th) ((ao2, c2, nl2) : HdI)).length = 0 ∨ ao3 = some ⟨g3, o3, none⟩) ∧ (grR 3 1 (.slice ao2 nl2.length c2) F' (nl2.length, (ints nl2 0))).R w' ∧ (g3 = g1 ∨ g3 = 0 ∨ w.heap.size ≤ g3) ∧ HE.holds w' g3 (.fn o3 (o3 + (rSetL l k (rAddE l k a th) ((ao2, c2, nl2) : HdI)).length) (hdV (gtD (rSetL l k (rAddE l k a th) ((ao2, c2, nl2) : HdI))) o3)) ∧ ¬ F' g3 ∧ Fr w w' no F' := by
 by_cases hck : rchk l k = 0
 · exact r7_Add_in ao1 c1 g1 o1 l k a th w hh0 hh1 hv1 hl hQ hB hck
 · exact r7_Add_no ao1 c1 g1 o1 l k a th w hh0 hh1 hv1 hl hQ hB hck

end Go.Proofs.YtnbkafnikpbmbaaDoor.K
