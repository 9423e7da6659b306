/-
  Walks, printed by w2.py.
-/
import Derived.Test.YtdjhdcaanmkblaaDoorBm
import Derived.Test.YtdjhdcaanmkblaaDoorLn
import Derived.Test.YtdjhdcaanmkblaaDoorProg
namespace Go.Proofs.YtdjhdcaanmkblaaDoor.K
set_option linter.unusedVariables false
set_option linter.unusedSimpArgs false

theorem HE.row5 {w : World} {b : Nat} {E : Nat → HdI} {T : TypeId} (h : HE.holds w b (.cells [slH (E 0), slH (E 1), slH (E 2), slH (E 3), slH (E 4)] T)) : HE.holds w b (.row T 5 5 (hdV E 0)) := by
  refine ⟨_, h, rfl, Nat.le_refl _, fun o ho => ?_⟩
  rcases (by omega : o = 0 ∨ o = 1 ∨ o = 2 ∨ o = 3 ∨ o = 4) with rfl | rfl | rfl | rfl | rfl <;> rfl

set_option maxRecDepth 100000 in
set_option maxHeartbeats 1000000 in
theorem r11_Has (E : Nat → HdI) (a : Int) (w : World) (hh0 : HE.holds w 0 (.fn 0 64 dbT)) (hQ : ∀ i, i < 5 → rgH w (E i)) (hB : ∀ i, i < 5 → (E i).2.2.length ≤ 1000) :
    Calls Tryd.prog 32 #[.agg #[.slice ((E 0).1) ((E 0).2.2.length) ((E 0).2.1), .slice ((E 1).1) ((E 1).2.2.length) ((E 1).2.1), .slice ((E 2).1) ((E 2).2.2.length) ((E 2).2.1), .slice ((E 3).1) ((E 3).2.2.length) ((E 3).2.1), .slice ((E 4).1) ((E 4).2.2.length) ((E 4).2.1)], vi a] w fun e w' => e = .returned (vb (anyB E a)) ∧ Fr w w' no no := by
 refine enter (args := [.agg #[.slice ((E 0).1) ((E 0).2.2.length) ((E 0).2.1), .slice ((E 1).1) ((E 1).2.2.length) ((E 1).2.1), .slice ((E 2).1) ((E 2).2.2.length) ((E 2).2.1), .slice ((E 3).1) ((E 3).2.2.length) ((E 3).2.1), .slice ((E 4).1) ((E 4).2.2.length) ((E 4).2.1)], vi a]) (D := no) (A := []) Tryd.func32 rfl 24 rfl [(0, .fn 0 64 dbT)] (WS.startL ⟨⟨rfl, hh0⟩, trivial⟩) fun ac hS => ?_
 refine hS.regS [0, 0] [1] fun ν1 => seg [(2, pt (ν1 0) 0)] [(0, none), (1, some ((ν1 0), .cells [.slice ((E 0).1) ((E 0).2.2.length) ((E 0).2.1), .slice ((E 1).1) ((E 1).2.2.length) ((E 1).2.1), .slice ((E 2).1) ((E 2).2.2.length) ((E 2).2.1), .slice ((E 3).1) ((E 3).2.2.length) ((E 3).2.1), .slice ((E 4).1) ((E 4).2.2.length) ((E 4).2.1)] 72))] [] trivial fun ac wd hS => ?_
 refine wp_seq ?_
 refine hS.regS [100, 0] [1] fun _ => seg [(9, .agg #[.slice ((E 0).1) ((E 0).2.2.length) ((E 0).2.1), .slice ((E 1).1) ((E 1).2.2.length) ((E 1).2.1), .slice ((E 2).1) ((E 2).2.2.length) ((E 2).2.1), .slice ((E 3).1) ((E 3).2.2.length) ((E 3).2.1), .slice ((E 4).1) ((E 4).2.2.length) ((E 4).2.1)]), (10, vi 0)] [(0, none)] [.e (ν1 0), .e (ν1 0), .e (ν1 0), .e (ν1 0), .e (ν1 0)] trivial fun ac wd hS => ?_
 refine wp_block ?_
 refine wp_loop_rounds 6 ?_
 refine rounds_in ?_
 refine hS.regS [0] [1, 9, 10] fun _ => seg [(11, vb true)] [(0, none)] [] trivial fun ac wd hS => ?_
 refine wp_seq ?_
 refine hS.condT ?_
 refine wp_skip ?_
 refine pop_then ?_
 refine wp_seq ?_
 refine wp_block ?_
 refine hS.regS [0, 0] [1, 9, 10] fun _ => seg [(6, .slice ((E 0).1) ((E 0).2.2.length) ((E 0).2.1))] [(0, none)] [] trivial fun ac wd hS => ?_
 refine hS.regS [0, 0, 0] [1, 9, 10] fun _ => seg [(13, .slice ((E 0).1) ((E 0).2.2.length) ((E 0).2.1)), (14, vi (((E 0).2.2.length : Nat) : Int)), (15, vi 0)] [(0, none)] [] trivial fun ac wd hS => ?_
 refine wp_block ?_
 obtain ⟨⟨ya, yc, yL⟩, hy⟩ : ∃ q_ : HdI, q_ = E 0 := ⟨_, rfl⟩
 have hyr := hQ 0 (by omega)
 rw [← hy] at hyr
 have hyl := hB 0 (by omega)
 rw [← hy] at hyl
 replace hyl : yL.length ≤ 1000 := hyl
 have hyq : (E 0).2.2 = yL := by rw [← hy]
 obtain ⟨yg, yo, hyv, hyh⟩ : ∃ g o, (yL.length = 0 ∨ ya = some ⟨g, o, none⟩) ∧ HE.holds w g (.fn o (o + yL.length) (ints yL o)) := hyr.open hh0
 replace hS := hS.to (hS.mem.acq (g := yg) (lo := yo) (hi := yo + yL.length) (f := ints yL yo) hyh (fun h_ => h_))
 replace hS := hS.fix 13 (.slice ya yL.length yc) (show (.slice ((E 0).1) ((E 0).2.2.length) ((E 0).2.1) : Value) = .slice ya yL.length yc by rw [← hy])
 replace hS := hS.fix 14 (vi ((yL.length : Nat) : Int)) (show (vi (((E 0).2.2.length : Nat) : Int) : Value) = vi ((yL.length : Nat) : Int) by rw [← hy])
 refine St.loopC (σ := Int) (fun (x15 : Int) => ⟨[(1, [], vi a), (9, [], .agg #[.slice ((E 0).1) ((E 0).2.2.length) ((E 0).2.1), .slice ((E 1).1) ((E 1).2.2.length) ((E 1).2.1), .slice ((E 2).1) ((E 2).2.2.length) ((E 2).2.1), .slice ((E 3).1) ((E 3).2.2.length) ((E 3).2.1), .slice ((E 4).1) ((E 4).2.2.length) ((E 4).2.1)]), (10, [], vi 0), (13, [], .slice ya yL.length yc), (14, [], vi ((yL.length : Nat) : Int)), (15, [], vi x15)], [(0, .fn 0 64 dbT), (yg, .fn yo (yo + yL.length) (ints yL yo))], [], (0 ≤ x15 ∧ x15 ≤ (yL.length : Int)) ∧ (∀ j : Nat, (j : Int) < x15 → yL.getD j 0 ≠ a) ∧ True, yL.length - Int.toNat x15⟩) 0 ⟨(by first | omega | (intro j hj; omega)), (by first | omega | (intro j hj; omega)), trivial⟩ hS ?_
 clear hS
 rintro x15 ⟨i0, i1, -⟩ ac wd hS
 replace i0 : 0 ≤ x15 ∧ x15 ≤ (yL.length : Int) := i0
 replace i1 : ∀ j : Nat, (j : Int) < x15 → yL.getD j 0 ≠ a := i1
 refine hS.regS [0] [1, 9, 10, 13, 14, 15] fun _ => seg [(16, vb (decide ((x15 : Int) < ((yL.length : Nat) : Int))))] [(0, none), (1, none)] [] trivial fun ac wd hS => ?_
 refine wp_seq ?_
 refine hS.condC (decide ((x15 : Int) < ((yL.length : Nat) : Int))) (fun hb1o hb1 => ?_) (fun hb1o hb1 => ?_)
 ·
  refine wp_skip ?_
  refine pop_then ?_
  refine wp_seq ?_
  refine wp_block ?_
  obtain rfl : ya = some ⟨yg, yo, none⟩ := Or.resolve_left hyv (by omega)
  refine hS.regS [20, fx 100 (vi (List.getD yL (Int.toNat x15) 0)), 0] [1, 9, 10, 13, 14, 15] fun _ => seg [(8, vi (List.getD yL (Int.toNat x15) 0))] [(0, none), (1, none)] [.p ((((ints yL yo) (yo + Int.toNat x15 * 1)) : Value) = vi (List.getD yL (Int.toNat x15) 0)), .e yg, .p (yo ≤ yo + Int.toNat x15 * 1 ∧ yo + Int.toNat x15 * 1 < (yo + yL.length)), .p ((0 : Int) ≤ x15 ∧ (x15 : Int) < ((yL.length : Nat) : Int))] ⟨(ints_rel yL yo (Int.toNat x15)), (by omega), (by omega), trivial⟩ fun ac wd hS => ?_
  refine hS.regS [0, 0, 0] [1, 9, 10, 13, 14, 15] fun _ => seg [(21, vb (((List.getD yL (Int.toNat x15) 0) : Int) == a))] [(0, none), (1, none)] [] trivial fun ac wd hS => ?_
  refine hS.condC (((List.getD yL (Int.toNat x15) 0) : Int) == a) (fun hb2o hb2 => ?_) (fun hb2o hb2 => ?_)
  ·
   refine hS.regS [0] [] fun _ => seg [(4, vb true)] [(0, none)] [] trivial fun ac wd hS => ?_
   refine wp_ret ?_
   refine pop_block_ret ?_
   refine pop_then_ret ?_
   refine pop_then_ret ?_
   refine pop_block_ret ?_
   refine pop_block_ret ?_
   refine pop_then_ret ?_
   refine pop_then_ret ?_
   refine pop_block_ret ?_
   refine pop_then_ret ?_
   refine St.retC 0 hS (vb true) [] trivial fun hw => ?_
   refine ⟨retd (vbool ?_), hw.fr0⟩
   all_goals (first | rfl | exact anyB_none hno0 hno1 hno2 hno3 hno4 | exact anyB_yes (i := 0) (by decide) (by rw [hyq]; exact (hasM_yes i0.1 (by omega) (by assumption)).symm) | exact anyB_yes (i := 1) (by decide) (by rw [hyq]; exact (hasM_yes i0.1 (by omega) (by assumption)).symm) | exact anyB_yes (i := 2) (by decide) (by rw [hyq]; exact (hasM_yes i0.1 (by omega) (by assumption)).symm) | exact anyB_yes (i := 3) (by decide) (by rw [hyq]; exact (hasM_yes i0.1 (by omega) (by assumption)).symm) | exact anyB_yes (i := 4) (by decide) (by rw [hyq]; exact (hasM_yes i0.1 (by omega) (by assumption)).symm))
  ·
   refine wp_skip ?_
   refine pop_block ?_
   refine pop_then ?_
   refine hS.regC [20, 0] [1, 9, 10, 13, 14] fun _ => seg [(15, vi (x15 + 1))] [(0, none), (1, none)] [.p (fit .i64 (x15 + 1))] ⟨fit_i64 (by omega), trivial⟩ fun ac wd hS => ?_
   exact pop_then (hS.next (x15 + 1) ⟨(by first | omega | assumption | (simp; done) | (simp; omega)), (by exact hasM_step i1 i0.1 (by assumption)), trivial⟩ (by dsimp only; omega))
 ·
  refine wp_exit ?_
  refine pop_then_exit ?_
  refine pop_then_exit ?_
  refine pop_block_hit ?_
  refine pop_block ?_
  refine pop_then ?_
  have hno0 : hasM (E 0).2.2 a = false := by rw [hyq]; exact (hasM_no (by omega) i1).symm
  refine hS.regC [0, 0] [1, 9] fun _ => seg [(10, vi 1)] [(0, none)] [] trivial fun ac wd hS => ?_
  refine pop_then ?_
  refine rounds_in ?_
  refine hS.regS [0] [1, 9, 10] fun _ => seg [(11, vb true)] [(0, none)] [] trivial fun ac wd hS => ?_
  refine wp_seq ?_
  refine hS.condT ?_
  refine wp_skip ?_
  refine pop_then ?_
  refine wp_seq ?_
  refine wp_block ?_
  refine hS.regS [0, 0] [1, 9, 10] fun _ => seg [(6, .slice ((E 1).1) ((E 1).2.2.length) ((E 1).2.1))] [(0, none)] [] trivial fun ac wd hS => ?_
  refine hS.regS [0, 0, 0] [1, 9, 10] fun _ => seg [(13, .slice ((E 1).1) ((E 1).2.2.length) ((E 1).2.1)), (14, vi (((E 1).2.2.length : Nat) : Int)), (15, vi 0)] [(0, none)] [] trivial fun ac wd hS => ?_
  refine wp_block ?_
  obtain ⟨⟨ya, yc, yL⟩, hy⟩ : ∃ q_ : HdI, q_ = E 1 := ⟨_, rfl⟩
  have hyr := hQ 1 (by omega)
  rw [← hy] at hyr
  have hyl := hB 1 (by omega)
  rw [← hy] at hyl
  replace hyl : yL.length ≤ 1000 := hyl
  have hyq : (E 1).2.2 = yL := by rw [← hy]
  obtain ⟨yg, yo, hyv, hyh⟩ : ∃ g o, (yL.length = 0 ∨ ya = some ⟨g, o, none⟩) ∧ HE.holds w g (.fn o (o + yL.length) (ints yL o)) := hyr.open hh0
  replace hS := hS.to (hS.mem.acq (g := yg) (lo := yo) (hi := yo + yL.length) (f := ints yL yo) hyh (fun h_ => h_))
  replace hS := hS.fix 13 (.slice ya yL.length yc) (show (.slice ((E 1).1) ((E 1).2.2.length) ((E 1).2.1) : Value) = .slice ya yL.length yc by rw [← hy])
  replace hS := hS.fix 14 (vi ((yL.length : Nat) : Int)) (show (vi (((E 1).2.2.length : Nat) : Int) : Value) = vi ((yL.length : Nat) : Int) by rw [← hy])
  refine St.loopC (σ := Int) (fun (x15 : Int) => ⟨[(1, [], vi a), (9, [], .agg #[.slice ((E 0).1) ((E 0).2.2.length) ((E 0).2.1), .slice ((E 1).1) ((E 1).2.2.length) ((E 1).2.1), .slice ((E 2).1) ((E 2).2.2.length) ((E 2).2.1), .slice ((E 3).1) ((E 3).2.2.length) ((E 3).2.1), .slice ((E 4).1) ((E 4).2.2.length) ((E 4).2.1)]), (10, [], vi 1), (13, [], .slice ya yL.length yc), (14, [], vi ((yL.length : Nat) : Int)), (15, [], vi x15)], [(0, .fn 0 64 dbT), (yg, .fn yo (yo + yL.length) (ints yL yo))], [], (0 ≤ x15 ∧ x15 ≤ (yL.length : Int)) ∧ (∀ j : Nat, (j : Int) < x15 → yL.getD j 0 ≠ a) ∧ True, yL.length - Int.toNat x15⟩) 0 ⟨(by first | omega | (intro j hj; omega)), (by first | omega | (intro j hj; omega)), trivial⟩ hS ?_
  clear hS
  rintro x15 ⟨i0, i1, -⟩ ac wd hS
  replace i0 : 0 ≤ x15 ∧ x15 ≤ (yL.length : Int) := i0
  replace i1 : ∀ j : Nat, (j : Int) < x15 → yL.getD j 0 ≠ a := i1
  refine hS.regS [0] [1, 9, 10, 13, 14, 15] fun _ => seg [(16, vb (decide ((x15 : Int) < ((yL.length : Nat) : Int))))] [(0, none), (1, none)] [] trivial fun ac wd hS => ?_
  refine wp_seq ?_
  refine hS.condC (decide ((x15 : Int) < ((yL.length : Nat) : Int))) (fun hb3o hb3 => ?_) (fun hb3o hb3 => ?_)
  ·
   refine wp_skip ?_
   refine pop_then ?_
   refine wp_seq ?_
   refine wp_block ?_
   obtain rfl : ya = some ⟨yg, yo, none⟩ := Or.resolve_left hyv (by omega)
   refine hS.regS [20, fx 100 (vi (List.getD yL (Int.toNat x15) 0)), 0] [1, 9, 10, 13, 14, 15] fun _ => seg [(8, vi (List.getD yL (Int.toNat x15) 0))] [(0, none), (1, none)] [.p ((((ints yL yo) (yo + Int.toNat x15 * 1)) : Value) = vi (List.getD yL (Int.toNat x15) 0)), .e yg, .p (yo ≤ yo + Int.toNat x15 * 1 ∧ yo + Int.toNat x15 * 1 < (yo + yL.length)), .p ((0 : Int) ≤ x15 ∧ (x15 : Int) < ((yL.length : Nat) : Int))] ⟨(ints_rel yL yo (Int.toNat x15)), (by omega), (by omega), trivial⟩ fun ac wd hS => ?_
   refine hS.regS [0, 0, 0] [1, 9, 10, 13, 14, 15] fun _ => seg [(21, vb (((List.getD yL (Int.toNat x15) 0) : Int) == a))] [(0, none), (1, none)] [] trivial fun ac wd hS => ?_
   refine hS.condC (((List.getD yL (Int.toNat x15) 0) : Int) == a) (fun hb4o hb4 => ?_) (fun hb4o hb4 => ?_)
   ·
    refine hS.regS [0] [] fun _ => seg [(4, vb true)] [(0, none)] [] trivial fun ac wd hS => ?_
    refine wp_ret ?_
    refine pop_block_ret ?_
    refine pop_then_ret ?_
    refine pop_then_ret ?_
    refine pop_block_ret ?_
    refine pop_block_ret ?_
    refine pop_then_ret ?_
    refine pop_then_ret ?_
    refine pop_block_ret ?_
    refine pop_then_ret ?_
    refine St.retC 0 hS (vb true) [] trivial fun hw => ?_
    refine ⟨retd (vbool ?_), hw.fr0⟩
    all_goals (first | rfl | exact anyB_none hno0 hno1 hno2 hno3 hno4 | exact anyB_yes (i := 0) (by decide) (by rw [hyq]; exact (hasM_yes i0.1 (by omega) (by assumption)).symm) | exact anyB_yes (i := 1) (by decide) (by rw [hyq]; exact (hasM_yes i0.1 (by omega) (by assumption)).symm) | exact anyB_yes (i := 2) (by decide) (by rw [hyq]; exact (hasM_yes i0.1 (by omega) (by assumption)).symm) | exact anyB_yes (i := 3) (by decide) (by rw [hyq]; exact (hasM_yes i0.1 (by omega) (by assumption)).symm) | exact anyB_yes (i := 4) (by decide) (by rw [hyq]; exact (hasM_yes i0.1 (by omega) (by assumption)).symm))
   ·
    refine wp_skip ?_
    refine pop_block ?_
    refine pop_then ?_
    refine hS.regC [20, 0] [1, 9, 10, 13, 14] fun _ => seg [(15, vi (x15 + 1))] [(0, none), (1, none)] [.p (fit .i64 (x15 + 1))] ⟨fit_i64 (by omega), trivial⟩ fun ac wd hS => ?_
    exact pop_then (hS.next (x15 + 1) ⟨(by first | omega | assumption | (simp; done) | (simp; omega)), (by exact hasM_step i1 i0.1 (by assumption)), trivial⟩ (by dsimp only; omega))
  ·
   refine wp_exit ?_
   refine pop_then_exit ?_
   refine pop_then_exit ?_
   refine pop_block_hit ?_
   refine pop_block ?_
   refine pop_then ?_
   have hno1 : hasM (E 1).2.2 a = false := by rw [hyq]; exact (hasM_no (by omega) i1).symm
   refine hS.regC [0, 0] [1, 9] fun _ => seg [(10, vi 2)] [(0, none)] [] trivial fun ac wd hS => ?_
   refine pop_then ?_
   refine rounds_in ?_
   refine hS.regS [0] [1, 9, 10] fun _ => seg [(11, vb true)] [(0, none)] [] trivial fun ac wd hS => ?_
   refine wp_seq ?_
   refine hS.condT ?_
   refine wp_skip ?_
   refine pop_then ?_
   refine wp_seq ?_
   refine wp_block ?_
   refine hS.regS [0, 0] [1, 9, 10] fun _ => seg [(6, .slice ((E 2).1) ((E 2).2.2.length) ((E 2).2.1))] [(0, none)] [] trivial fun ac wd hS => ?_
   refine hS.regS [0, 0, 0] [1, 9, 10] fun _ => seg [(13, .slice ((E 2).1) ((E 2).2.2.length) ((E 2).2.1)), (14, vi (((E 2).2.2.length : Nat) : Int)), (15, vi 0)] [(0, none)] [] trivial fun ac wd hS => ?_
   refine wp_block ?_
   obtain ⟨⟨ya, yc, yL⟩, hy⟩ : ∃ q_ : HdI, q_ = E 2 := ⟨_, rfl⟩
   have hyr := hQ 2 (by omega)
   rw [← hy] at hyr
   have hyl := hB 2 (by omega)
   rw [← hy] at hyl
   replace hyl : yL.length ≤ 1000 := hyl
   have hyq : (E 2).2.2 = yL := by rw [← hy]
   obtain ⟨yg, yo, hyv, hyh⟩ : ∃ g o, (yL.length = 0 ∨ ya = some ⟨g, o, none⟩) ∧ HE.holds w g (.fn o (o + yL.length) (ints yL o)) := hyr.open hh0
   replace hS := hS.to (hS.mem.acq (g := yg) (lo := yo) (hi := yo + yL.length) (f := ints yL yo) hyh (fun h_ => h_))
   replace hS := hS.fix 13 (.slice ya yL.length yc) (show (.slice ((E 2).1) ((E 2).2.2.length) ((E 2).2.1) : Value) = .slice ya yL.length yc by rw [← hy])
   replace hS := hS.fix 14 (vi ((yL.length : Nat) : Int)) (show (vi (((E 2).2.2.length : Nat) : Int) : Value) = vi ((yL.length : Nat) : Int) by rw [← hy])
   refine St.loopC (σ := Int) (fun (x15 : Int) => ⟨[(1, [], vi a), (9, [], .agg #[.slice ((E 0).1) ((E 0).2.2.length) ((E 0).2.1), .slice ((E 1).1) ((E 1).2.2.length) ((E 1).2.1), .slice ((E 2).1) ((E 2).2.2.length) ((E 2).2.1), .slice ((E 3).1) ((E 3).2.2.length) ((E 3).2.1), .slice ((E 4).1) ((E 4).2.2.length) ((E 4).2.1)]), (10, [], vi 2), (13, [], .slice ya yL.length yc), (14, [], vi ((yL.length : Nat) : Int)), (15, [], vi x15)], [(0, .fn 0 64 dbT), (yg, .fn yo (yo + yL.length) (ints yL yo))], [], (0 ≤ x15 ∧ x15 ≤ (yL.length : Int)) ∧ (∀ j : Nat, (j : Int) < x15 → yL.getD j 0 ≠ a) ∧ True, yL.length - Int.toNat x15⟩) 0 ⟨(by first | omega | (intro j hj; omega)), (by first | omega | (intro j hj; omega)), trivial⟩ hS ?_
   clear hS
   rintro x15 ⟨i0, i1, -⟩ ac wd hS
   replace i0 : 0 ≤ x15 ∧ x15 ≤ (yL.length : Int) := i0
   replace i1 : ∀ j : Nat, (j : Int) < x15 → yL.getD j 0 ≠ a := i1
   refine hS.regS [0] [1, 9, 10, 13, 14, 15] fun _ => seg [(16, vb (decide ((x15 : Int) < ((yL.length : Nat) : Int))))] [(0, none), (1, none)] [] trivial fun ac wd hS => ?_
   refine wp_seq ?_
   refine hS.condC (decide ((x15 : Int) < ((yL.length : Nat) : Int))) (fun hb5o hb5 => ?_) (fun hb5o hb5 => ?_)
   ·
    refine wp_skip ?_
    refine pop_then ?_
    refine wp_seq ?_
    refine wp_block ?_
    obtain rfl : ya = some ⟨yg, yo, none⟩ := Or.resolve_left hyv (by omega)
    refine hS.regS [20, fx 100 (vi (List.getD yL (Int.toNat x15) 0)), 0] [1, 9, 10, 13, 14, 15] fun _ => seg [(8, vi (List.getD yL (Int.toNat x15) 0))] [(0, none), (1, none)] [.p ((((ints yL yo) (yo + Int.toNat x15 * 1)) : Value) = vi (List.getD yL (Int.toNat x15) 0)), .e yg, .p (yo ≤ yo + Int.toNat x15 * 1 ∧ yo + Int.toNat x15 * 1 < (yo + yL.length)), .p ((0 : Int) ≤ x15 ∧ (x15 : Int) < ((yL.length : Nat) : Int))] ⟨(ints_rel yL yo (Int.toNat x15)), (by omega), (by omega), trivial⟩ fun ac wd hS => ?_
    refine hS.regS [0, 0, 0] [1, 9, 10, 13, 14, 15] fun _ => seg [(21, vb (((List.getD yL (Int.toNat x15) 0) : Int) == a))] [(0, none), (1, none)] [] trivial fun ac wd hS => ?_
    refine hS.condC (((List.getD yL (Int.toNat x15) 0) : Int) == a) (fun hb6o hb6 => ?_) (fun hb6o hb6 => ?_)
    ·
     refine hS.regS [0] [] fun _ => seg [(4, vb true)] [(0, none)] [] trivial fun ac wd hS => ?_
     refine wp_ret ?_
     refine pop_block_ret ?_
     refine pop_then_ret ?_
     refine pop_then_ret ?_
     refine pop_block_ret ?_
     refine pop_block_ret ?_
     refine pop_then_ret ?_
     refine pop_then_ret ?_
     refine pop_block_ret ?_
     refine pop_then_ret ?_
     refine St.retC 0 hS (vb true) [] trivial fun hw => ?_
     refine ⟨retd (vbool ?_), hw.fr0⟩
     all_goals (first | rfl | exact anyB_none hno0 hno1 hno2 hno3 hno4 | exact anyB_yes (i := 0) (by decide) (by rw [hyq]; exact (hasM_yes i0.1 (by omega) (by assumption)).symm) | exact anyB_yes (i := 1) (by decide) (by rw [hyq]; exact (hasM_yes i0.1 (by omega) (by assumption)).symm) | exact anyB_yes (i := 2) (by decide) (by rw [hyq]; exact (hasM_yes i0.1 (by omega) (by assumption)).symm) | exact anyB_yes (i := 3) (by decide) (by rw [hyq]; exact (hasM_yes i0.1 (by omega) (by assumption)).symm) | exact anyB_yes (i := 4) (by decide) (by rw [hyq]; exact (hasM_yes i0.1 (by omega) (by assumption)).symm))
    ·
     refine wp_skip ?_
     refine pop_block ?_
     refine pop_then ?_
     refine hS.regC [20, 0] [1, 9, 10, 13, 14] fun _ => seg [(15, vi (x15 + 1))] [(0, none), (1, none)] [.p (fit .i64 (x15 + 1))] ⟨fit_i64 (by omega), trivial⟩ fun ac wd hS => ?_
     exact pop_then (hS.next (x15 + 1) ⟨(by first | omega | assumption | (simp; done) | (simp; omega)), (by exact hasM_step i1 i0.1 (by assumption)), trivial⟩ (by dsimp only; omega))
   ·
    refine wp_exit ?_
    refine pop_then_exit ?_
    refine pop_then_exit ?_
    refine pop_block_hit ?_
    refine pop_block ?_
    refine pop_then ?_
    have hno2 : hasM (E 2).2.2 a = false := by rw [hyq]; exact (hasM_no (by omega) i1).symm
    refine hS.regC [0, 0] [1, 9] fun _ => seg [(10, vi 3)] [(0, none)] [] trivial fun ac wd hS => ?_
    refine pop_then ?_
    refine rounds_in ?_
    refine hS.regS [0] [1, 9, 10] fun _ => seg [(11, vb true)] [(0, none)] [] trivial fun ac wd hS => ?_
    refine wp_seq ?_
    refine hS.condT ?_
    refine wp_skip ?_
    refine pop_then ?_
    refine wp_seq ?_
    refine wp_block ?_
    refine hS.regS [0, 0] [1, 9, 10] fun _ => seg [(6, .slice ((E 3).1) ((E 3).2.2.length) ((E 3).2.1))] [(0, none)] [] trivial fun ac wd hS => ?_
    refine hS.regS [0, 0, 0] [1, 9, 10] fun _ => seg [(13, .slice ((E 3).1) ((E 3).2.2.length) ((E 3).2.1)), (14, vi (((E 3).2.2.length : Nat) : Int)), (15, vi 0)] [(0, none)] [] trivial fun ac wd hS => ?_
    refine wp_block ?_
    obtain ⟨⟨ya, yc, yL⟩, hy⟩ : ∃ q_ : HdI, q_ = E 3 := ⟨_, rfl⟩
    have hyr := hQ 3 (by omega)
    rw [← hy] at hyr
    have hyl := hB 3 (by omega)
    rw [← hy] at hyl
    replace hyl : yL.length ≤ 1000 := hyl
    have hyq : (E 3).2.2 = yL := by rw [← hy]
    obtain ⟨yg, yo, hyv, hyh⟩ : ∃ g o, (yL.length = 0 ∨ ya = some ⟨g, o, none⟩) ∧ HE.holds w g (.fn o (o + yL.length) (ints yL o)) := hyr.open hh0
    replace hS := hS.to (hS.mem.acq (g := yg) (lo := yo) (hi := yo + yL.length) (f := ints yL yo) hyh (fun h_ => h_))
    replace hS := hS.fix 13 (.slice ya yL.length yc) (show (.slice ((E 3).1) ((E 3).2.2.length) ((E 3).2.1) : Value) = .slice ya yL.length yc by rw [← hy])
    replace hS := hS.fix 14 (vi ((yL.length : Nat) : Int)) (show (vi (((E 3).2.2.length : Nat) : Int) : Value) = vi ((yL.length : Nat) : Int) by rw [← hy])
    refine St.loopC (σ := Int) (fun (x15 : Int) => ⟨[(1, [], vi a), (9, [], .agg #[.slice ((E 0).1) ((E 0).2.2.length) ((E 0).2.1), .slice ((E 1).1) ((E 1).2.2.length) ((E 1).2.1), .slice ((E 2).1) ((E 2).2.2.length) ((E 2).2.1), .slice ((E 3).1) ((E 3).2.2.length) ((E 3).2.1), .slice ((E 4).1) ((E 4).2.2.length) ((E 4).2.1)]), (10, [], vi 3), (13, [], .slice ya yL.length yc), (14, [], vi ((yL.length : Nat) : Int)), (15, [], vi x15)], [(0, .fn 0 64 dbT), (yg, .fn yo (yo + yL.length) (ints yL yo))], [], (0 ≤ x15 ∧ x15 ≤ (yL.length : Int)) ∧ (∀ j : Nat, (j : Int) < x15 → yL.getD j 0 ≠ a) ∧ True, yL.length - Int.toNat x15⟩) 0 ⟨(by first | omega | (intro j hj; omega)), (by first | omega | (intro j hj; omega)), trivial⟩ hS ?_
    clear hS
    rintro x15 ⟨i0, i1, -⟩ ac wd hS
    replace i0 : 0 ≤ x15 ∧ x15 ≤ (yL.length : Int) := i0
    replace i1 : ∀ j : Nat, (j : Int) < x15 → yL.getD j 0 ≠ a := i1
    refine hS.regS [0] [1, 9, 10, 13, 14, 15] fun _ => seg [(16, vb (decide ((x15 : Int) < ((yL.length : Nat) : Int))))] [(0, none), (1, none)] [] trivial fun ac wd hS => ?_
    refine wp_seq ?_
    refine hS.condC (decide ((x15 : Int) < ((yL.length : Nat) : Int))) (fun hb7o hb7 => ?_) (fun hb7o hb7 => ?_)
    ·
     refine wp_skip ?_
     refine pop_then ?_
     refine wp_seq ?_
     refine wp_block ?_
     obtain rfl : ya = some ⟨yg, yo, none⟩ := Or.resolve_left hyv (by omega)
     refine hS.regS [20, fx 100 (vi (List.getD yL (Int.toNat x15) 0)), 0] [1, 9, 10, 13, 14, 15] fun _ => seg [(8, vi (List.getD yL (Int.toNat x15) 0))] [(0, none), (1, none)] [.p ((((ints yL yo) (yo + Int.toNat x15 * 1)) : Value) = vi (List.getD yL (Int.toNat x15) 0)), .e yg, .p (yo ≤ yo + Int.toNat x15 * 1 ∧ yo + Int.toNat x15 * 1 < (yo + yL.length)), .p ((0 : Int) ≤ x15 ∧ (x15 : Int) < ((yL.length : Nat) : Int))] ⟨(ints_rel yL yo (Int.toNat x15)), (by omega), (by omega), trivial⟩ fun ac wd hS => ?_
     refine hS.regS [0, 0, 0] [1, 9, 10, 13, 14, 15] fun _ => seg [(21, vb (((List.getD yL (Int.toNat x15) 0) : Int) == a))] [(0, none), (1, none)] [] trivial fun ac wd hS => ?_
     refine hS.condC (((List.getD yL (Int.toNat x15) 0) : Int) == a) (fun hb8o hb8 => ?_) (fun hb8o hb8 => ?_)
     ·
      refine hS.regS [0] [] fun _ => seg [(4, vb true)] [(0, none)] [] trivial fun ac wd hS => ?_
      refine wp_ret ?_
      refine pop_block_ret ?_
      refine pop_then_ret ?_
      refine pop_then_ret ?_
      refine pop_block_ret ?_
      refine pop_block_ret ?_
      refine pop_then_ret ?_
      refine pop_then_ret ?_
      refine pop_block_ret ?_
      refine pop_then_ret ?_
      refine St.retC 0 hS (vb true) [] trivial fun hw => ?_
      refine ⟨retd (vbool ?_), hw.fr0⟩
      all_goals (first | rfl | exact anyB_none hno0 hno1 hno2 hno3 hno4 | exact anyB_yes (i := 0) (by decide) (by rw [hyq]; exact (hasM_yes i0.1 (by omega) (by assumption)).symm) | exact anyB_yes (i := 1) (by decide) (by rw [hyq]; exact (hasM_yes i0.1 (by omega) (by assumption)).symm) | exact anyB_yes (i := 2) (by decide) (by rw [hyq]; exact (hasM_yes i0.1 (by omega) (by assumption)).symm) | exact anyB_yes (i := 3) (by decide) (by rw [hyq]; exact (hasM_yes i0.1 (by omega) (by assumption)).symm) | exact anyB_yes (i := 4) (by decide) (by rw [hyq]; exact (hasM_yes i0.1 (by omega) (by assumption)).symm))
     ·
      refine wp_skip ?_
      refine pop_block ?_
      refine pop_then ?_
      refine hS.regC [20, 0] [1, 9, 10, 13, 14] fun _ => seg [(15, vi (x15 + 1))] [(0, none), (1, none)] [.p (fit .i64 (x15 + 1))] ⟨fit_i64 (by omega), trivial⟩ fun ac wd hS => ?_
      exact pop_then (hS.next (x15 + 1) ⟨(by first | omega | assumption | (simp; done) | (simp; omega)), (by exact hasM_step i1 i0.1 (by assumption)), trivial⟩ (by dsimp only; omega))
    ·
     refine wp_exit ?_
     refine pop_then_exit ?_
     refine pop_then_exit ?_
     refine pop_block_hit ?_
     refine pop_block ?_
     refine pop_then ?_
     have hno3 : hasM (E 3).2.2 a = false := by rw [hyq]; exact (hasM_no (by omega) i1).symm
     refine hS.regC [0, 0] [1, 9] fun _ => seg [(10, vi 4)] [(0, none)] [] trivial fun ac wd hS => ?_
     refine pop_then ?_
     refine rounds_in ?_
     refine hS.regS [0] [1, 9, 10] fun _ => seg [(11, vb true)] [(0, none)] [] trivial fun ac wd hS => ?_
     refine wp_seq ?_
     refine hS.condT ?_
     refine wp_skip ?_
     refine pop_then ?_
     refine wp_seq ?_
     refine wp_block ?_
     refine hS.regS [0, 0] [1, 9, 10] fun _ => seg [(6, .slice ((E 4).1) ((E 4).2.2.length) ((E 4).2.1))] [(0, none)] [] trivial fun ac wd hS => ?_
     refine hS.regS [0, 0, 0] [1, 9, 10] fun _ => seg [(13, .slice ((E 4).1) ((E 4).2.2.length) ((E 4).2.1)), (14, vi (((E 4).2.2.length : Nat) : Int)), (15, vi 0)] [(0, none)] [] trivial fun ac wd hS => ?_
     refine wp_block ?_
     obtain ⟨⟨ya, yc, yL⟩, hy⟩ : ∃ q_ : HdI, q_ = E 4 := ⟨_, rfl⟩
     have hyr := hQ 4 (by omega)
     rw [← hy] at hyr
     have hyl := hB 4 (by omega)
     rw [← hy] at hyl
     replace hyl : yL.length ≤ 1000 := hyl
     have hyq : (E 4).2.2 = yL := by rw [← hy]
     obtain ⟨yg, yo, hyv, hyh⟩ : ∃ g o, (yL.length = 0 ∨ ya = some ⟨g, o, none⟩) ∧ HE.holds w g (.fn o (o + yL.length) (ints yL o)) := hyr.open hh0
     replace hS := hS.to (hS.mem.acq (g := yg) (lo := yo) (hi := yo + yL.length) (f := ints yL yo) hyh (fun h_ => h_))
     replace hS := hS.fix 13 (.slice ya yL.length yc) (show (.slice ((E 4).1) ((E 4).2.2.length) ((E 4).2.1) : Value) = .slice ya yL.length yc by rw [← hy])
     replace hS := hS.fix 14 (vi ((yL.length : Nat) : Int)) (show (vi (((E 4).2.2.length : Nat) : Int) : Value) = vi ((yL.length : Nat) : Int) by rw [← hy])
     refine St.loopC (σ := Int) (fun (x15 : Int) => ⟨[(1, [], vi a), (9, [], .agg #[.slice ((E 0).1) ((E 0).2.2.length) ((E 0).2.1), .slice ((E 1).1) ((E 1).2.2.length) ((E 1).2.1), .slice ((E 2).1) ((E 2).2.2.length) ((E 2).2.1), .slice ((E 3).1) ((E 3).2.2.length) ((E 3).2.1), .slice ((E 4).1) ((E 4).2.2.length) ((E 4).2.1)]), (10, [], vi 4), (13, [], .slice ya yL.length yc), (14, [], vi ((yL.length : Nat) : Int)), (15, [], vi x15)], [(0, .fn 0 64 dbT), (yg, .fn yo (yo + yL.length) (ints yL yo))], [], (0 ≤ x15 ∧ x15 ≤ (yL.length : Int)) ∧ (∀ j : Nat, (j : Int) < x15 → yL.getD j 0 ≠ a) ∧ True, yL.length - Int.toNat x15⟩) 0 ⟨(by first | omega | (intro j hj; omega)), (by first | omega | (intro j hj; omega)), trivial⟩ hS ?_
     clear hS
     rintro x15 ⟨i0, i1, -⟩ ac wd hS
     replace i0 : 0 ≤ x15 ∧ x15 ≤ (yL.length : Int) := i0
     replace i1 : ∀ j : Nat, (j : Int) < x15 → yL.getD j 0 ≠ a := i1
     refine hS.regS [0] [1, 9, 10, 13, 14, 15] fun _ => seg [(16, vb (decide ((x15 : Int) < ((yL.length : Nat) : Int))))] [(0, none), (1, none)] [] trivial fun ac wd hS => ?_
     refine wp_seq ?_
     refine hS.condC (decide ((x15 : Int) < ((yL.length : Nat) : Int))) (fun hb9o hb9 => ?_) (fun hb9o hb9 => ?_)
     ·
      refine wp_skip ?_
      refine pop_then ?_
      refine wp_seq ?_
      refine wp_block ?_
      obtain rfl : ya = some ⟨yg, yo, none⟩ := Or.resolve_left hyv (by omega)
      refine hS.regS [20, fx 100 (vi (List.getD yL (Int.toNat x15) 0)), 0] [1, 9, 10, 13, 14, 15] fun _ => seg [(8, vi (List.getD yL (Int.toNat x15) 0))] [(0, none), (1, none)] [.p ((((ints yL yo) (yo + Int.toNat x15 * 1)) : Value) = vi (List.getD yL (Int.toNat x15) 0)), .e yg, .p (yo ≤ yo + Int.toNat x15 * 1 ∧ yo + Int.toNat x15 * 1 < (yo + yL.length)), .p ((0 : Int) ≤ x15 ∧ (x15 : Int) < ((yL.length : Nat) : Int))] ⟨(ints_rel yL yo (Int.toNat x15)), (by omega), (by omega), trivial⟩ fun ac wd hS => ?_
      refine hS.regS [0, 0, 0] [1, 9, 10, 13, 14, 15] fun _ => seg [(21, vb (((List.getD yL (Int.toNat x15) 0) : Int) == a))] [(0, none), (1, none)] [] trivial fun ac wd hS => ?_
      refine hS.condC (((List.getD yL (Int.toNat x15) 0) : Int) == a) (fun hb10o hb10 => ?_) (fun hb10o hb10 => ?_)
      ·
       refine hS.regS [0] [] fun _ => seg [(4, vb true)] [(0, none)] [] trivial fun ac wd hS => ?_
       refine wp_ret ?_
       refine pop_block_ret ?_
       refine pop_then_ret ?_
       refine pop_then_ret ?_
       refine pop_block_ret ?_
       refine pop_block_ret ?_
       refine pop_then_ret ?_
       refine pop_then_ret ?_
       refine pop_block_ret ?_
       refine pop_then_ret ?_
       refine St.retC 0 hS (vb true) [] trivial fun hw => ?_
       refine ⟨retd (vbool ?_), hw.fr0⟩
       all_goals (first | rfl | exact anyB_none hno0 hno1 hno2 hno3 hno4 | exact anyB_yes (i := 0) (by decide) (by rw [hyq]; exact (hasM_yes i0.1 (by omega) (by assumption)).symm) | exact anyB_yes (i := 1) (by decide) (by rw [hyq]; exact (hasM_yes i0.1 (by omega) (by assumption)).symm) | exact anyB_yes (i := 2) (by decide) (by rw [hyq]; exact (hasM_yes i0.1 (by omega) (by assumption)).symm) | exact anyB_yes (i := 3) (by decide) (by rw [hyq]; exact (hasM_yes i0.1 (by omega) (by assumption)).symm) | exact anyB_yes (i := 4) (by decide) (by rw [hyq]; exact (hasM_yes i0.1 (by omega) (by assumption)).symm))
      ·
       refine wp_skip ?_
       refine pop_block ?_
       refine pop_then ?_
       refine hS.regC [20, 0] [1, 9, 10, 13, 14] fun _ => seg [(15, vi (x15 + 1))] [(0, none), (1, none)] [.p (fit .i64 (x15 + 1))] ⟨fit_i64 (by omega), trivial⟩ fun ac wd hS => ?_
       exact pop_then (hS.next (x15 + 1) ⟨(by first | omega | assumption | (simp; done) | (simp; omega)), (by exact hasM_step i1 i0.1 (by assumption)), trivial⟩ (by dsimp only; omega))
     ·
      refine wp_exit ?_
      refine pop_then_exit ?_
      refine pop_then_exit ?_
      refine pop_block_hit ?_
      refine pop_block ?_
      refine pop_then ?_
      have hno4 : hasM (E 4).2.2 a = false := by rw [hyq]; exact (hasM_no (by omega) i1).symm
      refine hS.regC [0, 0] [1, 9] fun _ => seg [(10, vi 5)] [(0, none)] [] trivial fun ac wd hS => ?_
      refine pop_then ?_
      refine rounds_in ?_
      refine hS.regS [0] [1, 9, 10] fun _ => seg [(11, vb false)] [(0, none)] [] trivial fun ac wd hS => ?_
      refine wp_seq ?_
      refine hS.condF ?_
      refine wp_exit ?_
      refine pop_then_exit ?_
      refine pop_then_exit ?_
      refine pop_block_hit ?_
      refine pop_then ?_
      refine hS.regS [0] [] fun _ => seg [(4, vb false)] [(0, none)] [] trivial fun ac wd hS => ?_
      refine wp_ret ?_
      refine St.retC 0 hS (vb false) [] trivial fun hw => ?_
      refine ⟨retd (vbool ?_), hw.fr0⟩
      all_goals (first | rfl | exact anyB_none hno0 hno1 hno2 hno3 hno4 | exact anyB_yes (i := 0) (by decide) (by rw [hyq]; exact (hasM_yes i0.1 (by omega) (by assumption)).symm) | exact anyB_yes (i := 1) (by decide) (by rw [hyq]; exact (hasM_yes i0.1 (by omega) (by assumption)).symm) | exact anyB_yes (i := 2) (by decide) (by rw [hyq]; exact (hasM_yes i0.1 (by omega) (by assumption)).symm) | exact anyB_yes (i := 3) (by decide) (by rw [hyq]; exact (hasM_yes i0.1 (by omega) (by assumption)).symm) | exact anyB_yes (i := 4) (by decide) (by rw [hyq]; exact (hasM_yes i0.1 (by omega) (by assumption)).symm))

set_option maxRecDepth 100000 in
set_option maxHeartbeats 1000000 in
theorem r11_Least (E : Nat → HdI) (k : Int) (w : World) :
    Calls Tryd.prog 97 #[.agg #[.slice ((E 0).1) ((E 0).2.2.length) ((E 0).2.1), .slice ((E 1).1) ((E 1).2.2.length) ((E 1).2.1), .slice ((E 2).1) ((E 2).2.2.length) ((E 2).2.1), .slice ((E 3).1) ((E 3).2.2.length) ((E 3).2.1), .slice ((E 4).1) ((E 4).2.2.length) ((E 4).2.1)], vi k] w fun e w' => e = .returned (.tuple #[vi ((lstB (fun j_ => (E j_).2.2) k).1), vb ((lstB (fun j_ => (E j_).2.2) k).2)]) ∧ Fr w w' no no := by
 refine enter (args := [.agg #[.slice ((E 0).1) ((E 0).2.2.length) ((E 0).2.1), .slice ((E 1).1) ((E 1).2.2.length) ((E 1).2.1), .slice ((E 2).1) ((E 2).2.2.length) ((E 2).2.1), .slice ((E 3).1) ((E 3).2.2.length) ((E 3).2.1), .slice ((E 4).1) ((E 4).2.2.length) ((E 4).2.1)], vi k]) (D := no) (A := []) Tryd.func97 rfl 22 rfl [] (WS.startL trivial) fun ac hS => ?_
 refine hS.regS [0, 0, 0] [1] fun ν1 => seg [(2, pt (ν1 0) 0)] [(0, some ((ν1 0), .cells [.slice ((E 0).1) ((E 0).2.2.length) ((E 0).2.1), .slice ((E 1).1) ((E 1).2.2.length) ((E 1).2.1), .slice ((E 2).1) ((E 2).2.2.length) ((E 2).2.1), .slice ((E 3).1) ((E 3).2.2.length) ((E 3).2.1), .slice ((E 4).1) ((E 4).2.2.length) ((E 4).2.1)] 72))] [] trivial fun ac wd hS => ?_
 refine wp_seq ?_
 refine hS.regS [0] [1, 2] fun _ => seg [(6, vi 0)] [(0, none)] [] trivial fun ac wd hS => ?_
 refine wp_block ?_
 refine wp_loop_rounds 6 ?_
 refine rounds_in ?_
 refine wp_seq ?_
 refine hS.regS [0, 0] [1, 2, 6] fun _ => seg [(8, vb true)] [(0, none)] [] trivial fun ac wd hS => ?_
 refine hS.condT ?_
 refine wp_skip ?_
 refine pop_then ?_
 refine wp_seq ?_
 refine wp_block ?_
 refine hS.regS [0, 0, 0, 0, 3, 3, 3, 3, 3, 80] [1, 2, 6] fun _ => seg [(20, vb ((decide ((k : Int) ≤ 0)) && (decide ((0 : Int) < (((E 0).2.2.length : Nat) : Int)))))] [(0, none)] [.p ((((decide ((k : Int) ≤ 0)) = true) ∧ True) → AllP [((ν1 0) : Nat) = (ν1 0)])] ⟨(fun ⟨hc0, _⟩ => by replace hc0 := nrm hc0; exact ⟨rfl, trivial⟩), trivial⟩ fun ac wd hS => ?_
 refine hS.condC ((decide ((k : Int) ≤ 0)) && (decide ((0 : Int) < (((E 0).2.2.length : Nat) : Int)))) (fun hb1o hb1 => ?_) (fun hb1o hb1 => ?_)
 ·
  refine hS.regS [0, 0, 0] [] fun _ => seg [(4, vi 0), (5, vb true)] [] [] trivial fun ac wd hS => ?_
  refine wp_ret ?_
  refine pop_block_ret ?_
  refine pop_then_ret ?_
  refine pop_then_ret ?_
  refine pop_block_ret ?_
  refine pop_then_ret ?_
  refine St.retC 0 hS (.tuple #[vi 0, vb true]) [] trivial fun hw => ?_
  refine ⟨retd (tuple2 (vint ?_) (vbool ?_)), hw.fr0⟩
  all_goals (first | (unfold lstB; dsimp only; rw [if_pos (by omega)]) | (unfold lstB; dsimp only; rw [if_neg (by omega), if_pos (by omega)]) | (unfold lstB; dsimp only; rw [if_neg (by omega), if_neg (by omega), if_pos (by omega)]) | (unfold lstB; dsimp only; rw [if_neg (by omega), if_neg (by omega), if_neg (by omega), if_pos (by omega)]) | (unfold lstB; dsimp only; rw [if_neg (by omega), if_neg (by omega), if_neg (by omega), if_neg (by omega), if_pos (by omega)]) | (unfold lstB; dsimp only; rw [if_neg (by omega), if_neg (by omega), if_neg (by omega), if_neg (by omega), if_neg (by omega)]))
 ·
  refine wp_skip ?_
  refine pop_block ?_
  refine pop_then ?_
  refine hS.regC [0, 0, 0] [1, 2] fun _ => seg [(6, vi 1)] [(0, none)] [] trivial fun ac wd hS => ?_
  refine pop_then ?_
  refine rounds_in ?_
  refine wp_seq ?_
  refine hS.regS [0, 0] [1, 2, 6] fun _ => seg [(8, vb true)] [(0, none)] [] trivial fun ac wd hS => ?_
  refine hS.condT ?_
  refine wp_skip ?_
  refine pop_then ?_
  refine wp_seq ?_
  refine wp_block ?_
  refine hS.regS [0, 0, 0, 0, 3, 3, 3, 3, 3, 80] [1, 2, 6] fun _ => seg [(20, vb ((decide ((k : Int) ≤ 1)) && (decide ((0 : Int) < (((E 1).2.2.length : Nat) : Int)))))] [(0, none)] [.p ((((decide ((k : Int) ≤ 1)) = true) ∧ True) → AllP [((ν1 0) : Nat) = (ν1 0)])] ⟨(fun ⟨hc0, _⟩ => by replace hc0 := nrm hc0; exact ⟨rfl, trivial⟩), trivial⟩ fun ac wd hS => ?_
  refine hS.condC ((decide ((k : Int) ≤ 1)) && (decide ((0 : Int) < (((E 1).2.2.length : Nat) : Int)))) (fun hb2o hb2 => ?_) (fun hb2o hb2 => ?_)
  ·
   refine hS.regS [0, 0, 0] [] fun _ => seg [(4, vi 1), (5, vb true)] [] [] trivial fun ac wd hS => ?_
   refine wp_ret ?_
   refine pop_block_ret ?_
   refine pop_then_ret ?_
   refine pop_then_ret ?_
   refine pop_block_ret ?_
   refine pop_then_ret ?_
   refine St.retC 0 hS (.tuple #[vi 1, vb true]) [] trivial fun hw => ?_
   refine ⟨retd (tuple2 (vint ?_) (vbool ?_)), hw.fr0⟩
   all_goals (first | (unfold lstB; dsimp only; rw [if_pos (by omega)]) | (unfold lstB; dsimp only; rw [if_neg (by omega), if_pos (by omega)]) | (unfold lstB; dsimp only; rw [if_neg (by omega), if_neg (by omega), if_pos (by omega)]) | (unfold lstB; dsimp only; rw [if_neg (by omega), if_neg (by omega), if_neg (by omega), if_pos (by omega)]) | (unfold lstB; dsimp only; rw [if_neg (by omega), if_neg (by omega), if_neg (by omega), if_neg (by omega), if_pos (by omega)]) | (unfold lstB; dsimp only; rw [if_neg (by omega), if_neg (by omega), if_neg (by omega), if_neg (by omega), if_neg (by omega)]))
  ·
   refine wp_skip ?_
   refine pop_block ?_
   refine pop_then ?_
   refine hS.regC [0, 0, 0] [1, 2] fun _ => seg [(6, vi 2)] [(0, none)] [] trivial fun ac wd hS => ?_
   refine pop_then ?_
   refine rounds_in ?_
   refine wp_seq ?_
   refine hS.regS [0, 0] [1, 2, 6] fun _ => seg [(8, vb true)] [(0, none)] [] trivial fun ac wd hS => ?_
   refine hS.condT ?_
   refine wp_skip ?_
   refine pop_then ?_
   refine wp_seq ?_
   refine wp_block ?_
   refine hS.regS [0, 0, 0, 0, 3, 3, 3, 3, 3, 80] [1, 2, 6] fun _ => seg [(20, vb ((decide ((k : Int) ≤ 2)) && (decide ((0 : Int) < (((E 2).2.2.length : Nat) : Int)))))] [(0, none)] [.p ((((decide ((k : Int) ≤ 2)) = true) ∧ True) → AllP [((ν1 0) : Nat) = (ν1 0)])] ⟨(fun ⟨hc0, _⟩ => by replace hc0 := nrm hc0; exact ⟨rfl, trivial⟩), trivial⟩ fun ac wd hS => ?_
   refine hS.condC ((decide ((k : Int) ≤ 2)) && (decide ((0 : Int) < (((E 2).2.2.length : Nat) : Int)))) (fun hb3o hb3 => ?_) (fun hb3o hb3 => ?_)
   ·
    refine hS.regS [0, 0, 0] [] fun _ => seg [(4, vi 2), (5, vb true)] [] [] trivial fun ac wd hS => ?_
    refine wp_ret ?_
    refine pop_block_ret ?_
    refine pop_then_ret ?_
    refine pop_then_ret ?_
    refine pop_block_ret ?_
    refine pop_then_ret ?_
    refine St.retC 0 hS (.tuple #[vi 2, vb true]) [] trivial fun hw => ?_
    refine ⟨retd (tuple2 (vint ?_) (vbool ?_)), hw.fr0⟩
    all_goals (first | (unfold lstB; dsimp only; rw [if_pos (by omega)]) | (unfold lstB; dsimp only; rw [if_neg (by omega), if_pos (by omega)]) | (unfold lstB; dsimp only; rw [if_neg (by omega), if_neg (by omega), if_pos (by omega)]) | (unfold lstB; dsimp only; rw [if_neg (by omega), if_neg (by omega), if_neg (by omega), if_pos (by omega)]) | (unfold lstB; dsimp only; rw [if_neg (by omega), if_neg (by omega), if_neg (by omega), if_neg (by omega), if_pos (by omega)]) | (unfold lstB; dsimp only; rw [if_neg (by omega), if_neg (by omega), if_neg (by omega), if_neg (by omega), if_neg (by omega)]))
   ·
    refine wp_skip ?_
    refine pop_block ?_
    refine pop_then ?_
    refine hS.regC [0, 0, 0] [1, 2] fun _ => seg [(6, vi 3)] [(0, none)] [] trivial fun ac wd hS => ?_
    refine pop_then ?_
    refine rounds_in ?_
    refine wp_seq ?_
    refine hS.regS [0, 0] [1, 2, 6] fun _ => seg [(8, vb true)] [(0, none)] [] trivial fun ac wd hS => ?_
    refine hS.condT ?_
    refine wp_skip ?_
    refine pop_then ?_
    refine wp_seq ?_
    refine wp_block ?_
    refine hS.regS [0, 0, 0, 0, 3, 3, 3, 3, 3, 80] [1, 2, 6] fun _ => seg [(20, vb ((decide ((k : Int) ≤ 3)) && (decide ((0 : Int) < (((E 3).2.2.length : Nat) : Int)))))] [(0, none)] [.p ((((decide ((k : Int) ≤ 3)) = true) ∧ True) → AllP [((ν1 0) : Nat) = (ν1 0)])] ⟨(fun ⟨hc0, _⟩ => by replace hc0 := nrm hc0; exact ⟨rfl, trivial⟩), trivial⟩ fun ac wd hS => ?_
    refine hS.condC ((decide ((k : Int) ≤ 3)) && (decide ((0 : Int) < (((E 3).2.2.length : Nat) : Int)))) (fun hb4o hb4 => ?_) (fun hb4o hb4 => ?_)
    ·
     refine hS.regS [0, 0, 0] [] fun _ => seg [(4, vi 3), (5, vb true)] [] [] trivial fun ac wd hS => ?_
     refine wp_ret ?_
     refine pop_block_ret ?_
     refine pop_then_ret ?_
     refine pop_then_ret ?_
     refine pop_block_ret ?_
     refine pop_then_ret ?_
     refine St.retC 0 hS (.tuple #[vi 3, vb true]) [] trivial fun hw => ?_
     refine ⟨retd (tuple2 (vint ?_) (vbool ?_)), hw.fr0⟩
     all_goals (first | (unfold lstB; dsimp only; rw [if_pos (by omega)]) | (unfold lstB; dsimp only; rw [if_neg (by omega), if_pos (by omega)]) | (unfold lstB; dsimp only; rw [if_neg (by omega), if_neg (by omega), if_pos (by omega)]) | (unfold lstB; dsimp only; rw [if_neg (by omega), if_neg (by omega), if_neg (by omega), if_pos (by omega)]) | (unfold lstB; dsimp only; rw [if_neg (by omega), if_neg (by omega), if_neg (by omega), if_neg (by omega), if_pos (by omega)]) | (unfold lstB; dsimp only; rw [if_neg (by omega), if_neg (by omega), if_neg (by omega), if_neg (by omega), if_neg (by omega)]))
    ·
     refine wp_skip ?_
     refine pop_block ?_
     refine pop_then ?_
     refine hS.regC [0, 0, 0] [1, 2] fun _ => seg [(6, vi 4)] [(0, none)] [] trivial fun ac wd hS => ?_
     refine pop_then ?_
     refine rounds_in ?_
     refine wp_seq ?_
     refine hS.regS [0, 0] [1, 2, 6] fun _ => seg [(8, vb true)] [(0, none)] [] trivial fun ac wd hS => ?_
     refine hS.condT ?_
     refine wp_skip ?_
     refine pop_then ?_
     refine wp_seq ?_
     refine wp_block ?_
     refine hS.regS [0, 0, 0, 0, 3, 3, 3, 3, 3, 80] [1, 2, 6] fun _ => seg [(20, vb ((decide ((k : Int) ≤ 4)) && (decide ((0 : Int) < (((E 4).2.2.length : Nat) : Int)))))] [(0, none)] [.p ((((decide ((k : Int) ≤ 4)) = true) ∧ True) → AllP [((ν1 0) : Nat) = (ν1 0)])] ⟨(fun ⟨hc0, _⟩ => by replace hc0 := nrm hc0; exact ⟨rfl, trivial⟩), trivial⟩ fun ac wd hS => ?_
     refine hS.condC ((decide ((k : Int) ≤ 4)) && (decide ((0 : Int) < (((E 4).2.2.length : Nat) : Int)))) (fun hb5o hb5 => ?_) (fun hb5o hb5 => ?_)
     ·
      refine hS.regS [0, 0, 0] [] fun _ => seg [(4, vi 4), (5, vb true)] [] [] trivial fun ac wd hS => ?_
      refine wp_ret ?_
      refine pop_block_ret ?_
      refine pop_then_ret ?_
      refine pop_then_ret ?_
      refine pop_block_ret ?_
      refine pop_then_ret ?_
      refine St.retC 0 hS (.tuple #[vi 4, vb true]) [] trivial fun hw => ?_
      refine ⟨retd (tuple2 (vint ?_) (vbool ?_)), hw.fr0⟩
      all_goals (first | (unfold lstB; dsimp only; rw [if_pos (by omega)]) | (unfold lstB; dsimp only; rw [if_neg (by omega), if_pos (by omega)]) | (unfold lstB; dsimp only; rw [if_neg (by omega), if_neg (by omega), if_pos (by omega)]) | (unfold lstB; dsimp only; rw [if_neg (by omega), if_neg (by omega), if_neg (by omega), if_pos (by omega)]) | (unfold lstB; dsimp only; rw [if_neg (by omega), if_neg (by omega), if_neg (by omega), if_neg (by omega), if_pos (by omega)]) | (unfold lstB; dsimp only; rw [if_neg (by omega), if_neg (by omega), if_neg (by omega), if_neg (by omega), if_neg (by omega)]))
     ·
      refine wp_skip ?_
      refine pop_block ?_
      refine pop_then ?_
      refine hS.regC [0, 0, 0] [1, 2] fun _ => seg [(6, vi 5)] [(0, none)] [] trivial fun ac wd hS => ?_
      refine pop_then ?_
      refine rounds_in ?_
      refine wp_seq ?_
      refine hS.regS [0, 0] [1, 2, 6] fun _ => seg [(8, vb false)] [(0, none)] [] trivial fun ac wd hS => ?_
      refine hS.condF ?_
      refine wp_exit ?_
      refine pop_then_exit ?_
      refine pop_then_exit ?_
      refine pop_block_hit ?_
      refine pop_then ?_
      refine hS.regS [0, 0] [] fun _ => seg [(4, vi 0), (5, vb false)] [] [] trivial fun ac wd hS => ?_
      refine wp_ret ?_
      refine St.retC 0 hS (.tuple #[vi 0, vb false]) [] trivial fun hw => ?_
      refine ⟨retd (tuple2 (vint ?_) (vbool ?_)), hw.fr0⟩
      all_goals (first | (unfold lstB; dsimp only; rw [if_pos (by omega)]) | (unfold lstB; dsimp only; rw [if_neg (by omega), if_pos (by omega)]) | (unfold lstB; dsimp only; rw [if_neg (by omega), if_neg (by omega), if_pos (by omega)]) | (unfold lstB; dsimp only; rw [if_neg (by omega), if_neg (by omega), if_neg (by omega), if_pos (by omega)]) | (unfold lstB; dsimp only; rw [if_neg (by omega), if_neg (by omega), if_neg (by omega), if_neg (by omega), if_pos (by omega)]) | (unfold lstB; dsimp only; rw [if_neg (by omega), if_neg (by omega), if_neg (by omega), if_neg (by omega), if_neg (by omega)]))

set_option maxRecDepth 100000 in
set_option maxHeartbeats 1000000 in
theorem r11_Count (E : Nat → HdI) (w : World) (hB : ∀ i, i < 5 → (E i).2.2.length ≤ 1000) :
    Calls Tryd.prog 99 #[.agg #[.slice ((E 0).1) ((E 0).2.2.length) ((E 0).2.1), .slice ((E 1).1) ((E 1).2.2.length) ((E 1).2.1), .slice ((E 2).1) ((E 2).2.2.length) ((E 2).2.1), .slice ((E 3).1) ((E 3).2.2.length) ((E 3).2.1), .slice ((E 4).1) ((E 4).2.2.length) ((E 4).2.1)]] w fun e w' => e = .returned (vi (cntB (fun j_ => (E j_).2.2))) ∧ Fr w w' no no := by
 have b0 := hB 0 (by decide)
 have b1 := hB 1 (by decide)
 have b2 := hB 2 (by decide)
 have b3 := hB 3 (by decide)
 have b4 := hB 4 (by decide)
 refine enter (args := [.agg #[.slice ((E 0).1) ((E 0).2.2.length) ((E 0).2.1), .slice ((E 1).1) ((E 1).2.2.length) ((E 1).2.1), .slice ((E 2).1) ((E 2).2.2.length) ((E 2).2.1), .slice ((E 3).1) ((E 3).2.2.length) ((E 3).2.1), .slice ((E 4).1) ((E 4).2.2.length) ((E 4).2.1)]]) (D := no) (A := []) Tryd.func99 rfl 21 rfl [] (WS.startL trivial) fun ac hS => ?_
 refine hS.regS [0, 0] [] fun ν1 => seg [(1, pt (ν1 0) 0)] [(0, some ((ν1 0), .cells [.slice ((E 0).1) ((E 0).2.2.length) ((E 0).2.1), .slice ((E 1).1) ((E 1).2.2.length) ((E 1).2.1), .slice ((E 2).1) ((E 2).2.2.length) ((E 2).2.1), .slice ((E 3).1) ((E 3).2.2.length) ((E 3).2.1), .slice ((E 4).1) ((E 4).2.2.length) ((E 4).2.1)] 72))] [] trivial fun ac wd hS => ?_
 refine hS.regS [0, 0] [1] fun _ => seg [(3, vi 0), (4, vi 1)] [(0, none)] [] trivial fun ac wd hS => ?_
 refine wp_seq ?_
 refine hS.regS [0] [1, 3, 4] fun _ => seg [(5, vi 0)] [(0, none)] [] trivial fun ac wd hS => ?_
 refine wp_block ?_
 refine wp_loop_rounds 6 ?_
 refine rounds_in ?_
 refine wp_seq ?_
 refine hS.regS [0, 0] [1, 3, 4, 5] fun _ => seg [(7, vb true)] [(0, none)] [] trivial fun ac wd hS => ?_
 refine hS.condT ?_
 refine wp_skip ?_
 refine pop_then ?_
 refine wp_seq ?_
 refine wp_block ?_
 refine hS.regS [0, 0, 0, 0, 0, 0, 20, 20, 0] [1, 4, 5] fun _ => seg [(3, vi (0 + (1 * (((E 0).2.2.length : Nat) : Int))))] [(0, none)] [.p (fit .i64 (0 + (1 * (((E 0).2.2.length : Nat) : Int)))), .p (fit .i64 (1 * (((E 0).2.2.length : Nat) : Int))), .e (ν1 0)] ⟨fit_i64 (by omega), fit_i64 (by omega), trivial⟩ fun ac wd hS => ?_
 refine hS.regC [0, 0, 0] [1, 3, 5] fun _ => seg [(4, vi 2)] [(0, none)] [] trivial fun ac wd hS => ?_
 refine pop_block ?_
 refine pop_then ?_
 refine hS.regC [0, 0, 0] [1, 3, 4] fun _ => seg [(5, vi 1)] [(0, none)] [] trivial fun ac wd hS => ?_
 refine pop_then ?_
 refine rounds_in ?_
 refine wp_seq ?_
 refine hS.regS [0, 0] [1, 3, 4, 5] fun _ => seg [(7, vb true)] [(0, none)] [] trivial fun ac wd hS => ?_
 refine hS.condT ?_
 refine wp_skip ?_
 refine pop_then ?_
 refine wp_seq ?_
 refine wp_block ?_
 refine hS.regS [0, 0, 0, 0, 0, 0, 20, 20, 0] [1, 4, 5] fun _ => seg [(3, vi ((0 + (1 * (((E 0).2.2.length : Nat) : Int))) + (2 * (((E 1).2.2.length : Nat) : Int))))] [(0, none)] [.p (fit .i64 ((0 + (1 * (((E 0).2.2.length : Nat) : Int))) + (2 * (((E 1).2.2.length : Nat) : Int)))), .p (fit .i64 (2 * (((E 1).2.2.length : Nat) : Int))), .e (ν1 0)] ⟨fit_i64 (by omega), fit_i64 (by omega), trivial⟩ fun ac wd hS => ?_
 refine hS.regC [0, 0, 0] [1, 3, 5] fun _ => seg [(4, vi 4)] [(0, none)] [] trivial fun ac wd hS => ?_
 refine pop_block ?_
 refine pop_then ?_
 refine hS.regC [0, 0, 0] [1, 3, 4] fun _ => seg [(5, vi 2)] [(0, none)] [] trivial fun ac wd hS => ?_
 refine pop_then ?_
 refine rounds_in ?_
 refine wp_seq ?_
 refine hS.regS [0, 0] [1, 3, 4, 5] fun _ => seg [(7, vb true)] [(0, none)] [] trivial fun ac wd hS => ?_
 refine hS.condT ?_
 refine wp_skip ?_
 refine pop_then ?_
 refine wp_seq ?_
 refine wp_block ?_
 refine hS.regS [0, 0, 0, 0, 0, 0, 20, 20, 0] [1, 4, 5] fun _ => seg [(3, vi (((0 + (1 * (((E 0).2.2.length : Nat) : Int))) + (2 * (((E 1).2.2.length : Nat) : Int))) + (4 * (((E 2).2.2.length : Nat) : Int))))] [(0, none)] [.p (fit .i64 (((0 + (1 * (((E 0).2.2.length : Nat) : Int))) + (2 * (((E 1).2.2.length : Nat) : Int))) + (4 * (((E 2).2.2.length : Nat) : Int)))), .p (fit .i64 (4 * (((E 2).2.2.length : Nat) : Int))), .e (ν1 0)] ⟨fit_i64 (by omega), fit_i64 (by omega), trivial⟩ fun ac wd hS => ?_
 refine hS.regC [0, 0, 0] [1, 3, 5] fun _ => seg [(4, vi 8)] [(0, none)] [] trivial fun ac wd hS => ?_
 refine pop_block ?_
 refine pop_then ?_
 refine hS.regC [0, 0, 0] [1, 3, 4] fun _ => seg [(5, vi 3)] [(0, none)] [] trivial fun ac wd hS => ?_
 refine pop_then ?_
 refine rounds_in ?_
 refine wp_seq ?_
 refine hS.regS [0, 0] [1, 3, 4, 5] fun _ => seg [(7, vb true)] [(0, none)] [] trivial fun ac wd hS => ?_
 refine hS.condT ?_
 refine wp_skip ?_
 refine pop_then ?_
 refine wp_seq ?_
 refine wp_block ?_
 refine hS.regS [0, 0, 0, 0, 0, 0, 20, 20, 0] [1, 4, 5] fun _ => seg [(3, vi ((((0 + (1 * (((E 0).2.2.length : Nat) : Int))) + (2 * (((E 1).2.2.length : Nat) : Int))) + (4 * (((E 2).2.2.length : Nat) : Int))) + (8 * (((E 3).2.2.length : Nat) : Int))))] [(0, none)] [.p (fit .i64 ((((0 + (1 * (((E 0).2.2.length : Nat) : Int))) + (2 * (((E 1).2.2.length : Nat) : Int))) + (4 * (((E 2).2.2.length : Nat) : Int))) + (8 * (((E 3).2.2.length : Nat) : Int)))), .p (fit .i64 (8 * (((E 3).2.2.length : Nat) : Int))), .e (ν1 0)] ⟨fit_i64 (by omega), fit_i64 (by omega), trivial⟩ fun ac wd hS => ?_
 refine hS.regC [0, 0, 0] [1, 3, 5] fun _ => seg [(4, vi 16)] [(0, none)] [] trivial fun ac wd hS => ?_
 refine pop_block ?_
 refine pop_then ?_
 refine hS.regC [0, 0, 0] [1, 3, 4] fun _ => seg [(5, vi 4)] [(0, none)] [] trivial fun ac wd hS => ?_
 refine pop_then ?_
 refine rounds_in ?_
 refine wp_seq ?_
 refine hS.regS [0, 0] [1, 3, 4, 5] fun _ => seg [(7, vb true)] [(0, none)] [] trivial fun ac wd hS => ?_
 refine hS.condT ?_
 refine wp_skip ?_
 refine pop_then ?_
 refine wp_seq ?_
 refine wp_block ?_
 refine hS.regS [0, 0, 0, 0, 0, 0, 20, 20, 0] [1, 4, 5] fun _ => seg [(3, vi (((((0 + (1 * (((E 0).2.2.length : Nat) : Int))) + (2 * (((E 1).2.2.length : Nat) : Int))) + (4 * (((E 2).2.2.length : Nat) : Int))) + (8 * (((E 3).2.2.length : Nat) : Int))) + (16 * (((E 4).2.2.length : Nat) : Int))))] [(0, none)] [.p (fit .i64 (((((0 + (1 * (((E 0).2.2.length : Nat) : Int))) + (2 * (((E 1).2.2.length : Nat) : Int))) + (4 * (((E 2).2.2.length : Nat) : Int))) + (8 * (((E 3).2.2.length : Nat) : Int))) + (16 * (((E 4).2.2.length : Nat) : Int)))), .p (fit .i64 (16 * (((E 4).2.2.length : Nat) : Int))), .e (ν1 0)] ⟨fit_i64 (by omega), fit_i64 (by omega), trivial⟩ fun ac wd hS => ?_
 refine hS.regC [0, 0, 0] [1, 3, 5] fun _ => seg [(4, vi 32)] [(0, none)] [] trivial fun ac wd hS => ?_
 refine pop_block ?_
 refine pop_then ?_
 refine hS.regC [0, 0, 0] [1, 3, 4] fun _ => seg [(5, vi 5)] [(0, none)] [] trivial fun ac wd hS => ?_
 refine pop_then ?_
 refine rounds_in ?_
 refine wp_seq ?_
 refine hS.regS [0, 0] [1, 3, 4, 5] fun _ => seg [(7, vb false)] [(0, none)] [] trivial fun ac wd hS => ?_
 refine hS.condF ?_
 refine wp_exit ?_
 refine pop_then_exit ?_
 refine pop_then_exit ?_
 refine pop_block_hit ?_
 refine pop_then ?_
 refine hS.regS [0, 0] [] fun _ => seg [(2, vi (((((0 + (1 * (((E 0).2.2.length : Nat) : Int))) + (2 * (((E 1).2.2.length : Nat) : Int))) + (4 * (((E 2).2.2.length : Nat) : Int))) + (8 * (((E 3).2.2.length : Nat) : Int))) + (16 * (((E 4).2.2.length : Nat) : Int))))] [] [] trivial fun ac wd hS => ?_
 refine wp_ret ?_
 refine St.retC 0 hS (vi (((((0 + (1 * (((E 0).2.2.length : Nat) : Int))) + (2 * (((E 1).2.2.length : Nat) : Int))) + (4 * (((E 2).2.2.length : Nat) : Int))) + (8 * (((E 3).2.2.length : Nat) : Int))) + (16 * (((E 4).2.2.length : Nat) : Int)))) [] trivial fun hw => ?_
 refine ⟨retd (vint ?_), hw.fr0⟩
 all_goals ((unfold cntB; dsimp only; omega))

set_option maxRecDepth 100000 in
set_option maxHeartbeats 1000000 in
theorem r11_Push (E : Nat → HdI) (k : Int) (a : Int) (w : World) (hh0 : HE.holds w 0 (.fn 0 64 dbT)) (hQ : ∀ i, i < 5 → rgH w (E i)) (hB : ∀ i, i < 5 → (E i).2.2.length ≤ 1000) (hk : 0 ≤ k ∧ k ≤ 4) :
    Calls Tryd.prog 36 #[.agg #[.slice ((E 0).1) ((E 0).2.2.length) ((E 0).2.1), .slice ((E 1).1) ((E 1).2.2.length) ((E 1).2.1), .slice ((E 2).1) ((E 2).2.2.length) ((E 2).2.1), .slice ((E 3).1) ((E 3).2.2.length) ((E 3).2.1), .slice ((E 4).1) ((E 4).2.2.length) ((E 4).2.1)], vi k, vi a] w fun e w' => ∃ (ao2 : Option Addr) (c2 : Nat) (nl2 : List Int) (F' : Nat → Prop), e = .returned (.agg #[.slice (((updF E (Int.toNat k) ((ao2, c2, nl2) : HdI)) 0).1) (((updF E (Int.toNat k) ((ao2, c2, nl2) : HdI)) 0).2.2.length) (((updF E (Int.toNat k) ((ao2, c2, nl2) : HdI)) 0).2.1), .slice (((updF E (Int.toNat k) ((ao2, c2, nl2) : HdI)) 1).1) (((updF E (Int.toNat k) ((ao2, c2, nl2) : HdI)) 1).2.2.length) (((updF E (Int.toNat k) ((ao2, c2, nl2) : HdI)) 1).2.1), .slice (((updF E (Int.toNat k) ((ao2, c2, nl2) : HdI)) 2).1) (((updF E (Int.toNat k) ((ao2, c2, nl2) : HdI)) 2).2.2.length) (((updF E (Int.toNat k) ((ao2, c2, nl2) : HdI)) 2).2.1), .slice (((updF E (Int.toNat k) ((ao2, c2, nl2) : HdI)) 3).1) (((updF E (Int.toNat k) ((ao2, c2, nl2) : HdI)) 3).2.2.length) (((updF E (Int.toNat k) ((ao2, c2, nl2) : HdI)) 3).2.1), .slice (((updF E (Int.toNat k) ((ao2, c2, nl2) : HdI)) 4).1) (((updF E (Int.toNat k) ((ao2, c2, nl2) : HdI)) 4).2.2.length) (((updF E (Int.toNat k) ((ao2, c2, nl2) : HdI)) 4).2.1)]) ∧ nl2 = a :: (E (Int.toNat k)).2.2 ∧ (grR 3 1 (.slice ao2 nl2.length c2) F' (nl2.length, (ints nl2 0))).R w' ∧ Fr w w' no F' := by
 refine enter (args := [.agg #[.slice ((E 0).1) ((E 0).2.2.length) ((E 0).2.1), .slice ((E 1).1) ((E 1).2.2.length) ((E 1).2.1), .slice ((E 2).1) ((E 2).2.2.length) ((E 2).2.1), .slice ((E 3).1) ((E 3).2.2.length) ((E 3).2.1), .slice ((E 4).1) ((E 4).2.2.length) ((E 4).2.1)], vi k, vi a]) (D := no) (A := []) Tryd.func36 rfl 20 rfl [(0, .fn 0 64 dbT)] (WS.startL ⟨⟨rfl, hh0⟩, trivial⟩) fun ac hS => ?_
 refine hS.regS [0, 0] [1, 2] fun ν1 => seg [(3, pt (ν1 0) 0), (6, pt (ν1 1) 0)] [(0, none), (1, some ((ν1 0), .cells [.slice ((E 0).1) ((E 0).2.2.length) ((E 0).2.1), .slice ((E 1).1) ((E 1).2.2.length) ((E 1).2.1), .slice ((E 2).1) ((E 2).2.2.length) ((E 2).2.1), .slice ((E 3).1) ((E 3).2.2.length) ((E 3).2.1), .slice ((E 4).1) ((E 4).2.2.length) ((E 4).2.1)] 72)), (2, some ((ν1 1), .cells [vnil, vnil, vnil, vnil, vnil] 72))] [] trivial fun ac wd hS => ?_
 refine hS.regS [0] [1, 2, 3, 6] fun _ => seg [(7, vnil)] [(0, none), (1, none), (2, none)] [] trivial fun ac wd hS => ?_
 replace hS := hS.to (hS.mem.grNew 3 1 (ints ([] : List (Int)) 0))
 refine wp_region_seq ?_
 refine hS.opsC 3 [0, 0, 0] [1, 3, 6, 7] fun ν3 => seg [(8, vnil), (10, sc (ν3 0) 0 1 1)] [(0, none), (1, none), (2, none), (3, some ((ν3 0), .cells [vi a] 3))] [] trivial fun ac wd hS => ?_
 obtain ⟨i_, hi_, hz_, hs_, hb_⟩ := info_get (P := Tryd.prog) (e := 3) (z := vi 0) (s := 1) (b := 8) (by kernel_rfl)
 refine Runs1.list ?_
 refine St.appV (m := (([] : List (Int)).length)) (f := (ints ([] : List (Int)) 0)) (news := [vi a]) (bx := (ν3 0)) (cx := 1) (Tx := 3) 0 hS (.tmp 8) (.tmp 10) 70 rfl rfl (by decide) Tryd.underlying70 hi_ hz_ hs_ (by omega) rfl (by decide) 3 rfl rfl (by first | omega | (simp; done) | (simp; omega)) fun ac wd v2_ F3 hB4 hS => ?_
 obtain ⟨xo1, xc2, rfl⟩ := hB4.slice
 replace hS := hS.to (hS.mem.grTell (m := ((([] : List (Int)).length) + 1)) 0 (ints (([] : List (Int)) ++ [a]) 0) (ints_app1 ([] : List (Int)) a))
 have hm_ : (([] : List (Int)).length) + 1 = ((([] : List (Int)) ++ [a])).length := by simp
 replace hS := hS.to (hS.mem.grRe (v := .slice xo1 ((([] : List (Int)).length) + 1) xc2) (v' := .slice xo1 (((([] : List (Int)) ++ [a])).length) xc2) (m := ((([] : List (Int)).length) + 1)) (m' := ((([] : List (Int)) ++ [a])).length) (f := (ints (([] : List (Int)) ++ [a]) 0)) 0 (by rw [hm_]) hm_)
 replace hS := hS.fix 11 (.slice xo1 (((([] : List (Int)) ++ [a])).length) xc2) (show (.slice xo1 ((([] : List (Int)).length) + 1) xc2 : Value) = .slice xo1 (((([] : List (Int)) ++ [a])).length) xc2 by rw [hm_])
 refine hS.opsC 1 [0] [1, 3, 6] fun _ => seg [(7, .slice xo1 (((([] : List (Int)) ++ [a])).length) xc2)] [(0, none), (1, none), (2, none)] [] trivial fun ac wd hS => ?_
 refine list_nil_seq ?_
 replace hS := hS.to (hS.mem.tell 1 (b := (ν1 0)) (x := (.cells [.slice ((E 0).1) ((E 0).2.2.length) ((E 0).2.1), .slice ((E 1).1) ((E 1).2.2.length) ((E 1).2.1), .slice ((E 2).1) ((E 2).2.2.length) ((E 2).2.1), .slice ((E 3).1) ((E 3).2.2.length) ((E 3).2.1), .slice ((E 4).1) ((E 4).2.2.length) ((E 4).2.1)] 72)) (.row 72 5 5 (hdV E 0)) (hh := fun h_ => HE.row5 h_))
 obtain ⟨⟨ya, yc, yL⟩, hy⟩ : ∃ q_ : HdI, q_ = E (Int.toNat k) := ⟨_, rfl⟩
 have hyr := hQ (Int.toNat k) (by omega)
 rw [← hy] at hyr
 have hyl := hB (Int.toNat k) (by omega)
 rw [← hy] at hyl
 replace hyl : yL.length ≤ 1000 := hyl
 have hyq : (E (Int.toNat k)).2.2 = yL := by rw [← hy]
 obtain ⟨yg, yo, hyv, hyh⟩ : ∃ g o, (yL.length = 0 ∨ ya = some ⟨g, o, none⟩) ∧ HE.holds w g (.fn o (o + yL.length) (ints yL o)) := hyr.open hh0
 replace hS := hS.to (hS.mem.acq (g := yg) (lo := yo) (hi := yo + yL.length) (f := ints yL yo) hyh (fun h_ => h_))
 refine wp_region_seq ?_
 refine hS.opsC 5 [0, 0, 0, 30, fx 100 (.slice ya yL.length yc)] [3, 6] fun _ => seg [(12, vi k), (13, .slice xo1 (((([] : List (Int)) ++ [a])).length) xc2), (16, .slice ya yL.length yc)] [(0, none), (1, none), (2, none), (3, none)] [.p ((((hdV E 0) (0 + Int.toNat k * 1)) : Value) = .slice ya yL.length yc), .e (ν1 0), .p (0 + Int.toNat k * 1 < 5), .p (0 ≤ k ∧ k < ((5 : Nat) : Int))] ⟨(((hdV_0 E 0 (Int.toNat k))).trans (by rw [← hy])), (by omega), (by omega), trivial⟩ fun ac wd hS => ?_
 obtain ⟨i_, hi_, hz_, hs_, hb_⟩ := info_get (P := Tryd.prog) (e := 3) (z := vi 0) (s := 1) (b := 8) (by kernel_rfl)
 refine Runs1.list ?_
 refine St.appL (m := (((([] : List (Int)) ++ [a])).length)) (f := (ints (([] : List (Int)) ++ [a]) 0)) (ak := ya) (k := yL.length) (ck := yc) (g := yg) (so := yo) (F := (fun j => (ints yL yo) (yo + j))) 0 hS (.tmp 13) (.tmp 16) 70 rfl rfl (by decide) Tryd.underlying70 hi_ hz_ hs_ (by omega) rfl (by decide) hyv (CellsV.fn (hS.mem.get 3 yg (.fn yo (yo + yL.length) (ints yL yo))) (by omega) (by omega)) (fun q_ _ => ints_one _ _ _) (by first | omega | (simp; done) | (simp; omega)) fun ac wd v2_ F7 hB8 hS => ?_
 obtain ⟨xo5, xc6, rfl⟩ := hB8.slice
 replace hS := hS.to (hS.mem.grTell (m := (((([] : List (Int)) ++ [a])).length + yL.length)) 0 (ints ((([] : List (Int)) ++ [a]) ++ yL) 0) (ints_catS (([] : List (Int)) ++ [a]) yL yL yo 0 yo _ (.inl rfl) rfl (fun i_ _ => by rw [Nat.zero_add])))
 have hm_ : ((([] : List (Int)) ++ [a])).length + yL.length = (((([] : List (Int)) ++ [a]) ++ yL)).length := by first | (simp only [List.length_append]; done) | (simp; done) | (simp; omega)
 replace hS := hS.to (hS.mem.grRe (v := .slice xo5 (((([] : List (Int)) ++ [a])).length + yL.length) xc6) (v' := .slice xo5 ((((([] : List (Int)) ++ [a]) ++ yL)).length) xc6) (m := (((([] : List (Int)) ++ [a])).length + yL.length)) (m' := (((([] : List (Int)) ++ [a]) ++ yL)).length) (f := (ints ((([] : List (Int)) ++ [a]) ++ yL) 0)) 0 (by rw [hm_]) hm_)
 replace hS := hS.fix 17 (.slice xo5 ((((([] : List (Int)) ++ [a]) ++ yL)).length) xc6) (show (.slice xo5 (((([] : List (Int)) ++ [a])).length + yL.length) xc6 : Value) = .slice xo5 ((((([] : List (Int)) ++ [a]) ++ yL)).length) xc6 by rw [hm_])
 refine hS.opsC 2 [30, 100] [3, 6] fun _ => seg [] [(0, none), (1, some ((ν1 0), .row 72 5 5 (fun x => if x = 0 + Int.toNat k * 1 then .slice xo5 ((((([] : List (Int)) ++ [a]) ++ yL)).length) xc6 else (hdV E 0) x))), (2, none), (3, none)] [.e (ν1 0), .p (0 + Int.toNat k * 1 < 5), .p (0 ≤ k ∧ k < ((5 : Nat) : Int))] ⟨(by omega), (by omega), trivial⟩ fun ac wd hS => ?_
 replace hS := hS.to (hS.mem.tellR 1 (b := (ν1 0)) (e := 72) (m := 5) (tot := 5) (f := (fun x => if x = 0 + Int.toNat k * 1 then .slice xo5 ((((([] : List (Int)) ++ [a]) ++ yL)).length) xc6 else (hdV E 0) x)) (hdV (updF E (Int.toNat k) ((xo5, xc6, (([] : List (Int)) ++ [a]) ++ yL) : HdI)) 0) (fun o ho => by first | exact hdV_put E (Int.toNat k) ((xo5, xc6, (([] : List (Int)) ++ [a]) ++ yL) : HdI) o | (rw [Nat.mul_one, Nat.zero_add]; exact hdV_put E (Int.toNat k) ((xo5, xc6, (([] : List (Int)) ++ [a]) ++ yL) : HdI) o) | (rw [Nat.mul_one, Nat.zero_add]; exact (hdV_put E (Int.toNat k) ((xo5, xc6, (([] : List (Int)) ++ [a]) ++ yL) : HdI) o).symm) | exact (hdV_put E (Int.toNat k) ((xo5, xc6, (([] : List (Int)) ++ [a]) ++ yL) : HdI) o).symm))
 refine list_nil_seq ?_
 refine hS.regS [fx 100 (.agg #[.slice (((updF E (Int.toNat k) ((xo5, xc6, (([] : List (Int)) ++ [a]) ++ yL) : HdI)) 0).1) (((updF E (Int.toNat k) ((xo5, xc6, (([] : List (Int)) ++ [a]) ++ yL) : HdI)) 0).2.2.length) (((updF E (Int.toNat k) ((xo5, xc6, (([] : List (Int)) ++ [a]) ++ yL) : HdI)) 0).2.1), .slice (((updF E (Int.toNat k) ((xo5, xc6, (([] : List (Int)) ++ [a]) ++ yL) : HdI)) 1).1) (((updF E (Int.toNat k) ((xo5, xc6, (([] : List (Int)) ++ [a]) ++ yL) : HdI)) 1).2.2.length) (((updF E (Int.toNat k) ((xo5, xc6, (([] : List (Int)) ++ [a]) ++ yL) : HdI)) 1).2.1), .slice (((updF E (Int.toNat k) ((xo5, xc6, (([] : List (Int)) ++ [a]) ++ yL) : HdI)) 2).1) (((updF E (Int.toNat k) ((xo5, xc6, (([] : List (Int)) ++ [a]) ++ yL) : HdI)) 2).2.2.length) (((updF E (Int.toNat k) ((xo5, xc6, (([] : List (Int)) ++ [a]) ++ yL) : HdI)) 2).2.1), .slice (((updF E (Int.toNat k) ((xo5, xc6, (([] : List (Int)) ++ [a]) ++ yL) : HdI)) 3).1) (((updF E (Int.toNat k) ((xo5, xc6, (([] : List (Int)) ++ [a]) ++ yL) : HdI)) 3).2.2.length) (((updF E (Int.toNat k) ((xo5, xc6, (([] : List (Int)) ++ [a]) ++ yL) : HdI)) 3).2.1), .slice (((updF E (Int.toNat k) ((xo5, xc6, (([] : List (Int)) ++ [a]) ++ yL) : HdI)) 4).1) (((updF E (Int.toNat k) ((xo5, xc6, (([] : List (Int)) ++ [a]) ++ yL) : HdI)) 4).2.2.length) (((updF E (Int.toNat k) ((xo5, xc6, (([] : List (Int)) ++ [a]) ++ yL) : HdI)) 4).2.1)]), 200] [6] fun _ => seg [] [(0, none), (2, some ((ν1 1), .cells [.slice (((updF E (Int.toNat k) ((xo5, xc6, (([] : List (Int)) ++ [a]) ++ yL) : HdI)) 0).1) (((updF E (Int.toNat k) ((xo5, xc6, (([] : List (Int)) ++ [a]) ++ yL) : HdI)) 0).2.2.length) (((updF E (Int.toNat k) ((xo5, xc6, (([] : List (Int)) ++ [a]) ++ yL) : HdI)) 0).2.1), .slice (((updF E (Int.toNat k) ((xo5, xc6, (([] : List (Int)) ++ [a]) ++ yL) : HdI)) 1).1) (((updF E (Int.toNat k) ((xo5, xc6, (([] : List (Int)) ++ [a]) ++ yL) : HdI)) 1).2.2.length) (((updF E (Int.toNat k) ((xo5, xc6, (([] : List (Int)) ++ [a]) ++ yL) : HdI)) 1).2.1), .slice (((updF E (Int.toNat k) ((xo5, xc6, (([] : List (Int)) ++ [a]) ++ yL) : HdI)) 2).1) (((updF E (Int.toNat k) ((xo5, xc6, (([] : List (Int)) ++ [a]) ++ yL) : HdI)) 2).2.2.length) (((updF E (Int.toNat k) ((xo5, xc6, (([] : List (Int)) ++ [a]) ++ yL) : HdI)) 2).2.1), .slice (((updF E (Int.toNat k) ((xo5, xc6, (([] : List (Int)) ++ [a]) ++ yL) : HdI)) 3).1) (((updF E (Int.toNat k) ((xo5, xc6, (([] : List (Int)) ++ [a]) ++ yL) : HdI)) 3).2.2.length) (((updF E (Int.toNat k) ((xo5, xc6, (([] : List (Int)) ++ [a]) ++ yL) : HdI)) 3).2.1), .slice (((updF E (Int.toNat k) ((xo5, xc6, (([] : List (Int)) ++ [a]) ++ yL) : HdI)) 4).1) (((updF E (Int.toNat k) ((xo5, xc6, (([] : List (Int)) ++ [a]) ++ yL) : HdI)) 4).2.2.length) (((updF E (Int.toNat k) ((xo5, xc6, (([] : List (Int)) ++ [a]) ++ yL) : HdI)) 4).2.1)] 72)), (3, none)] [.e (ν1 1), .e (ν1 1), .e (ν1 1), .e (ν1 1), .e (ν1 1), .p ((.agg #[((hdV (updF E (Int.toNat k) ((xo5, xc6, (([] : List (Int)) ++ [a]) ++ yL) : HdI)) 0) 0), ((hdV (updF E (Int.toNat k) ((xo5, xc6, (([] : List (Int)) ++ [a]) ++ yL) : HdI)) 0) 1), ((hdV (updF E (Int.toNat k) ((xo5, xc6, (([] : List (Int)) ++ [a]) ++ yL) : HdI)) 0) 2), ((hdV (updF E (Int.toNat k) ((xo5, xc6, (([] : List (Int)) ++ [a]) ++ yL) : HdI)) 0) 3), ((hdV (updF E (Int.toNat k) ((xo5, xc6, (([] : List (Int)) ++ [a]) ++ yL) : HdI)) 0) 4)] : Value) = .agg #[.slice (((updF E (Int.toNat k) ((xo5, xc6, (([] : List (Int)) ++ [a]) ++ yL) : HdI)) 0).1) (((updF E (Int.toNat k) ((xo5, xc6, (([] : List (Int)) ++ [a]) ++ yL) : HdI)) 0).2.2.length) (((updF E (Int.toNat k) ((xo5, xc6, (([] : List (Int)) ++ [a]) ++ yL) : HdI)) 0).2.1), .slice (((updF E (Int.toNat k) ((xo5, xc6, (([] : List (Int)) ++ [a]) ++ yL) : HdI)) 1).1) (((updF E (Int.toNat k) ((xo5, xc6, (([] : List (Int)) ++ [a]) ++ yL) : HdI)) 1).2.2.length) (((updF E (Int.toNat k) ((xo5, xc6, (([] : List (Int)) ++ [a]) ++ yL) : HdI)) 1).2.1), .slice (((updF E (Int.toNat k) ((xo5, xc6, (([] : List (Int)) ++ [a]) ++ yL) : HdI)) 2).1) (((updF E (Int.toNat k) ((xo5, xc6, (([] : List (Int)) ++ [a]) ++ yL) : HdI)) 2).2.2.length) (((updF E (Int.toNat k) ((xo5, xc6, (([] : List (Int)) ++ [a]) ++ yL) : HdI)) 2).2.1), .slice (((updF E (Int.toNat k) ((xo5, xc6, (([] : List (Int)) ++ [a]) ++ yL) : HdI)) 3).1) (((updF E (Int.toNat k) ((xo5, xc6, (([] : List (Int)) ++ [a]) ++ yL) : HdI)) 3).2.2.length) (((updF E (Int.toNat k) ((xo5, xc6, (([] : List (Int)) ++ [a]) ++ yL) : HdI)) 3).2.1), .slice (((updF E (Int.toNat k) ((xo5, xc6, (([] : List (Int)) ++ [a]) ++ yL) : HdI)) 4).1) (((updF E (Int.toNat k) ((xo5, xc6, (([] : List (Int)) ++ [a]) ++ yL) : HdI)) 4).2.2.length) (((updF E (Int.toNat k) ((xo5, xc6, (([] : List (Int)) ++ [a]) ++ yL) : HdI)) 4).2.1)]), .e (ν1 0), .p (4 < 5), .e (ν1 0), .p (3 < 5), .e (ν1 0), .p (2 < 5), .e (ν1 0), .p (1 < 5), .e (ν1 0), .p (0 < 5)] ⟨(agg5 (hdV_a (updF E (Int.toNat k) ((xo5, xc6, (([] : List (Int)) ++ [a]) ++ yL) : HdI)) 0 0) (hdV_a (updF E (Int.toNat k) ((xo5, xc6, (([] : List (Int)) ++ [a]) ++ yL) : HdI)) 0 1) (hdV_a (updF E (Int.toNat k) ((xo5, xc6, (([] : List (Int)) ++ [a]) ++ yL) : HdI)) 0 2) (hdV_a (updF E (Int.toNat k) ((xo5, xc6, (([] : List (Int)) ++ [a]) ++ yL) : HdI)) 0 3) (hdV_a (updF E (Int.toNat k) ((xo5, xc6, (([] : List (Int)) ++ [a]) ++ yL) : HdI)) 0 4)), (by omega), (by omega), (by omega), (by omega), (by omega), trivial⟩ fun ac wd hS => ?_
 refine wp_ret ?_
 have hN2 : ((([] : List (Int)) ++ [a]) ++ yL) = a :: (E (Int.toNat k)).2.2 := by rw [hyq]; rfl
 refine St.retC 1 hS (.agg #[.slice (((updF E (Int.toNat k) ((xo5, xc6, (([] : List (Int)) ++ [a]) ++ yL) : HdI)) 0).1) (((updF E (Int.toNat k) ((xo5, xc6, (([] : List (Int)) ++ [a]) ++ yL) : HdI)) 0).2.2.length) (((updF E (Int.toNat k) ((xo5, xc6, (([] : List (Int)) ++ [a]) ++ yL) : HdI)) 0).2.1), .slice (((updF E (Int.toNat k) ((xo5, xc6, (([] : List (Int)) ++ [a]) ++ yL) : HdI)) 1).1) (((updF E (Int.toNat k) ((xo5, xc6, (([] : List (Int)) ++ [a]) ++ yL) : HdI)) 1).2.2.length) (((updF E (Int.toNat k) ((xo5, xc6, (([] : List (Int)) ++ [a]) ++ yL) : HdI)) 1).2.1), .slice (((updF E (Int.toNat k) ((xo5, xc6, (([] : List (Int)) ++ [a]) ++ yL) : HdI)) 2).1) (((updF E (Int.toNat k) ((xo5, xc6, (([] : List (Int)) ++ [a]) ++ yL) : HdI)) 2).2.2.length) (((updF E (Int.toNat k) ((xo5, xc6, (([] : List (Int)) ++ [a]) ++ yL) : HdI)) 2).2.1), .slice (((updF E (Int.toNat k) ((xo5, xc6, (([] : List (Int)) ++ [a]) ++ yL) : HdI)) 3).1) (((updF E (Int.toNat k) ((xo5, xc6, (([] : List (Int)) ++ [a]) ++ yL) : HdI)) 3).2.2.length) (((updF E (Int.toNat k) ((xo5, xc6, (([] : List (Int)) ++ [a]) ++ yL) : HdI)) 3).2.1), .slice (((updF E (Int.toNat k) ((xo5, xc6, (([] : List (Int)) ++ [a]) ++ yL) : HdI)) 4).1) (((updF E (Int.toNat k) ((xo5, xc6, (([] : List (Int)) ++ [a]) ++ yL) : HdI)) 4).2.2.length) (((updF E (Int.toNat k) ((xo5, xc6, (([] : List (Int)) ++ [a]) ++ yL) : HdI)) 4).2.1)]) [.e (ν1 1), .e (ν1 1), .e (ν1 1), .e (ν1 1), .e (ν1 1)] trivial fun hw => ?_
 refine ⟨xo5, xc6, ((([] : List (Int)) ++ [a]) ++ yL), F7, retd (agg5 (slN ?_) (slN ?_) (slN ?_) (slN ?_) (slN ?_)), ?_, (hw.res 0), hw.frA⟩
 all_goals (first | rfl | exact hN2 | omega)

set_option maxRecDepth 100000 in
set_option maxHeartbeats 1000000 in
theorem r11_Pop (E : Nat → HdI) (k : Int) (w : World) (hh0 : HE.holds w 0 (.fn 0 64 dbT)) (hQ : ∀ i, i < 5 → rgH w (E i)) (hB : ∀ i, i < 5 → (E i).2.2.length ≤ 1000) (hC : ∀ i, i < 5 → (E i).2.2.length ≤ (E i).2.1) :
    Calls Tryd.prog 31 #[.agg #[.slice ((E 0).1) ((E 0).2.2.length) ((E 0).2.1), .slice ((E 1).1) ((E 1).2.2.length) ((E 1).2.1), .slice ((E 2).1) ((E 2).2.2.length) ((E 2).2.1), .slice ((E 3).1) ((E 3).2.2.length) ((E 3).2.1), .slice ((E 4).1) ((E 4).2.2.length) ((E 4).2.1)], vi k] w fun e w' => ∃ (ao2 : Option Addr) (c2 : Nat) (nl2 : List Int) (F' : Nat → Prop), e = .returned (.tuple #[.agg #[.slice (((popE E k ((ao2, c2, nl2) : HdI)) 0).1) (((popE E k ((ao2, c2, nl2) : HdI)) 0).2.2.length) (((popE E k ((ao2, c2, nl2) : HdI)) 0).2.1), .slice (((popE E k ((ao2, c2, nl2) : HdI)) 1).1) (((popE E k ((ao2, c2, nl2) : HdI)) 1).2.2.length) (((popE E k ((ao2, c2, nl2) : HdI)) 1).2.1), .slice (((popE E k ((ao2, c2, nl2) : HdI)) 2).1) (((popE E k ((ao2, c2, nl2) : HdI)) 2).2.2.length) (((popE E k ((ao2, c2, nl2) : HdI)) 2).2.1), .slice (((popE E k ((ao2, c2, nl2) : HdI)) 3).1) (((popE E k ((ao2, c2, nl2) : HdI)) 3).2.2.length) (((popE E k ((ao2, c2, nl2) : HdI)) 3).2.1), .slice (((popE E k ((ao2, c2, nl2) : HdI)) 4).1) (((popE E k ((ao2, c2, nl2) : HdI)) 4).2.2.length) (((popE E k ((ao2, c2, nl2) : HdI)) 4).2.1)], vi (popA E k), vb (popS E k)]) ∧ nl2 = popN E k ∧ (grR 3 1 (.slice ao2 nl2.length c2) F' (nl2.length, (ints nl2 0))).R w' ∧ Fr w w' no F' := by
 refine enter (args := [.agg #[.slice ((E 0).1) ((E 0).2.2.length) ((E 0).2.1), .slice ((E 1).1) ((E 1).2.2.length) ((E 1).2.1), .slice ((E 2).1) ((E 2).2.2.length) ((E 2).2.1), .slice ((E 3).1) ((E 3).2.2.length) ((E 3).2.1), .slice ((E 4).1) ((E 4).2.2.length) ((E 4).2.1)], vi k]) (D := no) (A := []) Tryd.func31 rfl 38 rfl [(0, .fn 0 64 dbT)] (WS.startL ⟨⟨rfl, hh0⟩, trivial⟩) fun ac hS => ?_
 refine hS.regS [0, 0, 0, 0] [1] fun ν1 => seg [(2, pt (ν1 0) 0), (4, pt (ν1 1) 0)] [(0, none), (1, some ((ν1 0), .cells [.slice ((E 0).1) ((E 0).2.2.length) ((E 0).2.1), .slice ((E 1).1) ((E 1).2.2.length) ((E 1).2.1), .slice ((E 2).1) ((E 2).2.2.length) ((E 2).2.1), .slice ((E 3).1) ((E 3).2.2.length) ((E 3).2.1), .slice ((E 4).1) ((E 4).2.2.length) ((E 4).2.1)] 72)), (2, some ((ν1 1), .cells [vnil, vnil, vnil, vnil, vnil] 72))] [] trivial fun ac wd hS => ?_
 refine wp_seq ?_
 replace hS := hS.to (hS.mem.tell 1 (b := (ν1 0)) (x := (.cells [.slice ((E 0).1) ((E 0).2.2.length) ((E 0).2.1), .slice ((E 1).1) ((E 1).2.2.length) ((E 1).2.1), .slice ((E 2).1) ((E 2).2.2.length) ((E 2).2.1), .slice ((E 3).1) ((E 3).2.2.length) ((E 3).2.1), .slice ((E 4).1) ((E 4).2.2.length) ((E 4).2.1)] 72)) (.row 72 5 5 (hdV E 0)) (hh := fun h_ => HE.row5 h_))
 refine hS.regS [0, 0, 0, 3, 3, 80, 0, 3, 33, fx 103 (.slice ((E (Int.toNat k)).1) ((E (Int.toNat k)).2.2.length) ((E (Int.toNat k)).2.1)), 3, 3, 80] [1, 2, 4] fun _ => seg [(21, vb (((decide ((k : Int) < 0)) || (decide ((4 : Int) < k))) || (((((E (Int.toNat k)).2.2.length : Nat) : Int) : Int) == 0)))] [(0, none), (1, none), (2, none)] [.p (((((decide ((k : Int) < 0)) || (decide ((4 : Int) < k))) = false) ∧ True) → AllP [(((hdV E 0) (0 + Int.toNat k * 1)) : Value) = .slice ((E (Int.toNat k)).1) ((E (Int.toNat k)).2.2.length) ((E (Int.toNat k)).2.1), ((ν1 0) : Nat) = (ν1 0), 0 + Int.toNat k * 1 < 5]), .p (((((decide ((k : Int) < 0)) || (decide ((4 : Int) < k))) = false) ∧ True) → AllP [0 ≤ k ∧ k < ((5 : Nat) : Int)])] ⟨(fun ⟨hc0, _⟩ => by replace hc0 := nrm hc0; exact ⟨((hdV_0 E 0 (Int.toNat k))), rfl, (by omega), trivial⟩), (fun ⟨hc0, _⟩ => by replace hc0 := nrm hc0; exact ⟨(by omega), trivial⟩), trivial⟩ fun ac wd hS => ?_
 refine hS.condC (((decide ((k : Int) < 0)) || (decide ((4 : Int) < k))) || (((((E (Int.toNat k)).2.2.length : Nat) : Int) : Int) == 0)) (fun hb1o hb1 => ?_) (fun hb1o hb1 => ?_)
 ·
  have hz9 := hb1
  refine hS.regS [fx 100 (.agg #[.slice ((E 0).1) ((E 0).2.2.length) ((E 0).2.1), .slice ((E 1).1) ((E 1).2.2.length) ((E 1).2.1), .slice ((E 2).1) ((E 2).2.2.length) ((E 2).2.1), .slice ((E 3).1) ((E 3).2.2.length) ((E 3).2.1), .slice ((E 4).1) ((E 4).2.2.length) ((E 4).2.1)]), 200, 0, 0] [4] fun _ => seg [(5, vi 0), (6, vb false)] [(0, none), (2, some ((ν1 1), .cells [.slice ((E 0).1) ((E 0).2.2.length) ((E 0).2.1), .slice ((E 1).1) ((E 1).2.2.length) ((E 1).2.1), .slice ((E 2).1) ((E 2).2.2.length) ((E 2).2.1), .slice ((E 3).1) ((E 3).2.2.length) ((E 3).2.1), .slice ((E 4).1) ((E 4).2.2.length) ((E 4).2.1)] 72))] [.e (ν1 1), .e (ν1 1), .e (ν1 1), .e (ν1 1), .e (ν1 1), .p ((.agg #[((hdV E 0) 0), ((hdV E 0) 1), ((hdV E 0) 2), ((hdV E 0) 3), ((hdV E 0) 4)] : Value) = .agg #[.slice ((E 0).1) ((E 0).2.2.length) ((E 0).2.1), .slice ((E 1).1) ((E 1).2.2.length) ((E 1).2.1), .slice ((E 2).1) ((E 2).2.2.length) ((E 2).2.1), .slice ((E 3).1) ((E 3).2.2.length) ((E 3).2.1), .slice ((E 4).1) ((E 4).2.2.length) ((E 4).2.1)]), .e (ν1 0), .p (4 < 5), .e (ν1 0), .p (3 < 5), .e (ν1 0), .p (2 < 5), .e (ν1 0), .p (1 < 5), .e (ν1 0), .p (0 < 5)] ⟨(agg5 (hdV_a E 0 0) (hdV_a E 0 1) (hdV_a E 0 2) (hdV_a E 0 3) (hdV_a E 0 4)), (by omega), (by omega), (by omega), (by omega), (by omega), trivial⟩ fun ac wd hS => ?_
  refine wp_ret ?_
  refine pop_then_ret ?_
  replace hS := hS.to (hS.mem.grNew 3 1 (ints ([] : List (Int)) 0))
  have hp : popS E k = false := by unfold popS; exact decide_eq_false (fun q_ => by omega)
  obtain ⟨hp1, hp2, hp3⟩ := pop_no hp
  have hN2 : ([] : List (Int)) = popN E k := hp2.symm
  have hE9 := hp3 ((none, 0, ([] : List (Int))) : HdI)
  replace hS := hS.to (hS.mem.tell 1 (b := (ν1 1)) (x := (.cells [.slice ((E 0).1) ((E 0).2.2.length) ((E 0).2.1), .slice ((E 1).1) ((E 1).2.2.length) ((E 1).2.1), .slice ((E 2).1) ((E 2).2.2.length) ((E 2).2.1), .slice ((E 3).1) ((E 3).2.2.length) ((E 3).2.1), .slice ((E 4).1) ((E 4).2.2.length) ((E 4).2.1)] 72)) (.cells [.slice (((popE E k ((none, 0, ([] : List (Int))) : HdI)) 0).1) (((popE E k ((none, 0, ([] : List (Int))) : HdI)) 0).2.2.length) (((popE E k ((none, 0, ([] : List (Int))) : HdI)) 0).2.1), .slice (((popE E k ((none, 0, ([] : List (Int))) : HdI)) 1).1) (((popE E k ((none, 0, ([] : List (Int))) : HdI)) 1).2.2.length) (((popE E k ((none, 0, ([] : List (Int))) : HdI)) 1).2.1), .slice (((popE E k ((none, 0, ([] : List (Int))) : HdI)) 2).1) (((popE E k ((none, 0, ([] : List (Int))) : HdI)) 2).2.2.length) (((popE E k ((none, 0, ([] : List (Int))) : HdI)) 2).2.1), .slice (((popE E k ((none, 0, ([] : List (Int))) : HdI)) 3).1) (((popE E k ((none, 0, ([] : List (Int))) : HdI)) 3).2.2.length) (((popE E k ((none, 0, ([] : List (Int))) : HdI)) 3).2.1), .slice (((popE E k ((none, 0, ([] : List (Int))) : HdI)) 4).1) (((popE E k ((none, 0, ([] : List (Int))) : HdI)) 4).2.2.length) (((popE E k ((none, 0, ([] : List (Int))) : HdI)) 4).2.1)] 72) (hh := fun h_ => by rw [hE9]; exact h_))
  refine St.retC 1 hS (.tuple #[.agg #[.slice (((popE E k ((none, 0, ([] : List (Int))) : HdI)) 0).1) (((popE E k ((none, 0, ([] : List (Int))) : HdI)) 0).2.2.length) (((popE E k ((none, 0, ([] : List (Int))) : HdI)) 0).2.1), .slice (((popE E k ((none, 0, ([] : List (Int))) : HdI)) 1).1) (((popE E k ((none, 0, ([] : List (Int))) : HdI)) 1).2.2.length) (((popE E k ((none, 0, ([] : List (Int))) : HdI)) 1).2.1), .slice (((popE E k ((none, 0, ([] : List (Int))) : HdI)) 2).1) (((popE E k ((none, 0, ([] : List (Int))) : HdI)) 2).2.2.length) (((popE E k ((none, 0, ([] : List (Int))) : HdI)) 2).2.1), .slice (((popE E k ((none, 0, ([] : List (Int))) : HdI)) 3).1) (((popE E k ((none, 0, ([] : List (Int))) : HdI)) 3).2.2.length) (((popE E k ((none, 0, ([] : List (Int))) : HdI)) 3).2.1), .slice (((popE E k ((none, 0, ([] : List (Int))) : HdI)) 4).1) (((popE E k ((none, 0, ([] : List (Int))) : HdI)) 4).2.2.length) (((popE E k ((none, 0, ([] : List (Int))) : HdI)) 4).2.1)], vi 0, vb false]) [.e (ν1 1), .e (ν1 1), .e (ν1 1), .e (ν1 1), .e (ν1 1)] trivial fun hw => ?_
  refine ⟨none, 0, ([] : List (Int)), no, retd (tuple3 rfl (vint ?_) (vbool ?_)), ?_, (hw.res 0), hw.frA⟩
  all_goals (first | rfl | exact hN2 | exact hp1.symm | exact hp.symm | (rw [hp1, hyq]) | (rw [hE9]) | omega)
 ·
  have hz9 := hb1
  refine wp_skip ?_
  refine pop_then ?_
  obtain ⟨⟨ya, yc, yL⟩, hy⟩ : ∃ q_ : HdI, q_ = E (Int.toNat k) := ⟨_, rfl⟩
  have hyr := hQ (Int.toNat k) (by omega)
  rw [← hy] at hyr
  have hyl := hB (Int.toNat k) (by omega)
  rw [← hy] at hyl
  replace hyl : yL.length ≤ 1000 := hyl
  have hyq : (E (Int.toNat k)).2.2 = yL := by rw [← hy]
  obtain ⟨yg, yo, hyv, hyh⟩ : ∃ g o, (yL.length = 0 ∨ ya = some ⟨g, o, none⟩) ∧ HE.holds w g (.fn o (o + yL.length) (ints yL o)) := hyr.open hh0
  have hyp : 0 < yL.length := by rw [← hyq]; omega
  have hyc := hC (Int.toNat k) (by omega)
  rw [← hy] at hyc
  replace hyc : yL.length ≤ yc := hyc
  obtain rfl : ya = some ⟨yg, yo, none⟩ := hyv.resolve_left (by omega)
  replace hS := hS.to (hS.mem.acq (g := yg) (lo := yo) (hi := yo + yL.length) (f := ints yL yo) hyh (fun h_ => h_))
  refine hS.regS [0, 30, fx 100 (sc yg yo yL.length yc), 20, fx 300 (vi (List.getD yL 0 0)), 0] [1, 2, 4] fun _ => seg [(7, vi (List.getD yL 0 0))] [(0, none), (1, none), (2, none), (3, none)] [.p ((((ints yL yo) (yo + Int.toNat 0 * 1)) : Value) = vi (List.getD yL 0 0)), .e yg, .p (yo ≤ yo + Int.toNat 0 * 1 ∧ yo + Int.toNat 0 * 1 < (yo + yL.length)), .p ((0 : Int) ≤ 0 ∧ (0 : Int) < ((yL.length : Nat) : Int)), .p ((((hdV E 0) (0 + Int.toNat k * 1)) : Value) = sc yg yo yL.length yc), .e (ν1 0), .p (0 + Int.toNat k * 1 < 5), .p (0 ≤ k ∧ k < ((5 : Nat) : Int))] ⟨(ints_rel yL yo 0), (by omega), (by omega), (((hdV_0 E 0 (Int.toNat k))).trans (by rw [← hy])), (by omega), (by omega), trivial⟩ fun ac wd hS => ?_
  replace hS := hS.to (hS.mem.grNew 3 1 (ints ([] : List (Int)) 0))
  refine hS.regS [0] [1, 2, 4, 7] fun _ => seg [(8, vnil)] [(0, none), (1, none), (2, none), (3, none)] [] trivial fun ac wd hS => ?_
  refine wp_region_seq ?_
  refine hS.opsC 6 [0, 0, 0, 30, fx 100 (sc yg yo yL.length yc), fx 10 (sc yg (sadd yc (Int.toNat (1 : Int)) yo 1) (yL.length - 1) (yc - 1))] [2, 4, 7] fun _ => seg [(28, vi k), (29, vnil), (33, sc yg (sadd yc (Int.toNat (1 : Int)) yo 1) (yL.length - 1) (yc - 1))] [(0, none), (1, none), (2, none), (3, none)] [.p ((sc yg (sadd yc (Int.toNat (1 : Int)) yo 1) (Int.toNat ((yL.length : Nat) : Int) - Int.toNat (1 : Int)) (yc - Int.toNat (1 : Int)) : Value) = sc yg (sadd yc (Int.toNat (1 : Int)) yo 1) (yL.length - 1) (yc - 1)), .p (0 ≤ (1 : Int) ∧ (1 : Int) ≤ ((yL.length : Nat) : Int) ∧ ((yL.length : Nat) : Int) ≤ ((yc : Nat) : Int) ∧ yL.length ≤ yc), .p ((((hdV E 0) (0 + Int.toNat k * 1)) : Value) = sc yg yo yL.length yc), .e (ν1 0), .p (0 + Int.toNat k * 1 < 5), .p (0 ≤ k ∧ k < ((5 : Nat) : Int))] ⟨(rfl), (by omega), (((hdV_0 E 0 (Int.toNat k))).trans (by rw [← hy])), (by omega), (by omega), trivial⟩ fun ac wd hS => ?_
  obtain ⟨i_, hi_, hz_, hs_, hb_⟩ := info_get (P := Tryd.prog) (e := 3) (z := vi 0) (s := 1) (b := 8) (by kernel_rfl)
  refine Runs1.list ?_
  have hsd_ := sadd_or yc (Int.toNat (1 : Int)) yo 1
  have hkl_ : (yL.length - 1) = (yL.drop 1).length := by first | (rw [List.length_take]; omega) | (rw [List.length_drop]; done) | (rw [List.length_drop]; omega)
  refine St.appL (m := (([] : List (Int)).length)) (f := (ints ([] : List (Int)) 0)) (ak := (some ⟨yg, (sadd yc (Int.toNat (1 : Int)) yo 1), none⟩)) (k := (yL.length - 1)) (ck := (yc - 1)) (g := yg) (so := (sadd yc (Int.toNat (1 : Int)) yo 1)) (F := (fun j => (ints yL yo) ((sadd yc (Int.toNat (1 : Int)) yo 1) + j))) 0 hS (.tmp 29) (.tmp 33) 70 rfl rfl (by decide) Tryd.underlying70 hi_ hz_ hs_ (by omega) rfl (by decide) (.inr rfl) (CellsV.fn (hS.mem.get 3 yg (.fn yo (yo + yL.length) (ints yL yo))) (by omega) (by omega)) (fun q_ _ => ints_one _ _ _) (by first | omega | (simp; done) | (simp; omega)) fun ac wd v2_ F4 hB5 hS => ?_
  obtain ⟨xo2, xc3, rfl⟩ := hB5.slice
  replace hS := hS.to (hS.mem.grTell (m := ((([] : List (Int)).length) + (yL.length - 1))) 0 (ints (yL.drop 1) 0) (ints_catS ([] : List (Int)) (yL.drop 1) yL yo 1 (sadd yc (Int.toNat (1 : Int)) yo 1) (yL.length - 1) (by omega) hkl_ (fun i_ _ => by rw [List.getD_eq_getElem?_getD, List.getD_eq_getElem?_getD, List.getElem?_drop])))
  have hm_ : (([] : List (Int)).length) + (yL.length - 1) = ((yL.drop 1)).length := by first | (rw [List.length_append, ← hkl_]; done) | (rw [← hkl_]; simp; done) | (simp only [List.length_append, List.length_nil]; omega)
  replace hS := hS.to (hS.mem.grRe (v := .slice xo2 (([] : List (Int)).length + (yL.length - 1)) xc3) (v' := .slice xo2 (((yL.drop 1)).length) xc3) (m := ((([] : List (Int)).length) + (yL.length - 1))) (m' := ((yL.drop 1)).length) (f := (ints (yL.drop 1) 0)) 0 (by rw [hm_]) hm_)
  replace hS := hS.fix 34 (.slice xo2 (((yL.drop 1)).length) xc3) (show (.slice xo2 (([] : List (Int)).length + (yL.length - 1)) xc3 : Value) = .slice xo2 (((yL.drop 1)).length) xc3 by rw [hm_])
  refine hS.opsC 2 [30, 100] [2, 4, 7] fun _ => seg [] [(0, none), (1, some ((ν1 0), .row 72 5 5 (fun x => if x = 0 + Int.toNat k * 1 then .slice xo2 (((yL.drop 1)).length) xc3 else (hdV E 0) x))), (2, none), (3, none)] [.e (ν1 0), .p (0 + Int.toNat k * 1 < 5), .p (0 ≤ k ∧ k < ((5 : Nat) : Int))] ⟨(by omega), (by omega), trivial⟩ fun ac wd hS => ?_
  replace hS := hS.to (hS.mem.tellR 1 (b := (ν1 0)) (e := 72) (m := 5) (tot := 5) (f := (fun x => if x = 0 + Int.toNat k * 1 then .slice xo2 (((yL.drop 1)).length) xc3 else (hdV E 0) x)) (hdV (updF E (Int.toNat k) ((xo2, xc3, yL.drop 1) : HdI)) 0) (fun o ho => by first | exact hdV_put E (Int.toNat k) ((xo2, xc3, yL.drop 1) : HdI) o | (rw [Nat.mul_one, Nat.zero_add]; exact hdV_put E (Int.toNat k) ((xo2, xc3, yL.drop 1) : HdI) o) | (rw [Nat.mul_one, Nat.zero_add]; exact (hdV_put E (Int.toNat k) ((xo2, xc3, yL.drop 1) : HdI) o).symm) | exact (hdV_put E (Int.toNat k) ((xo2, xc3, yL.drop 1) : HdI) o).symm))
  refine list_nil_seq ?_
  refine hS.regS [fx 100 (.agg #[.slice (((updF E (Int.toNat k) ((xo2, xc3, yL.drop 1) : HdI)) 0).1) (((updF E (Int.toNat k) ((xo2, xc3, yL.drop 1) : HdI)) 0).2.2.length) (((updF E (Int.toNat k) ((xo2, xc3, yL.drop 1) : HdI)) 0).2.1), .slice (((updF E (Int.toNat k) ((xo2, xc3, yL.drop 1) : HdI)) 1).1) (((updF E (Int.toNat k) ((xo2, xc3, yL.drop 1) : HdI)) 1).2.2.length) (((updF E (Int.toNat k) ((xo2, xc3, yL.drop 1) : HdI)) 1).2.1), .slice (((updF E (Int.toNat k) ((xo2, xc3, yL.drop 1) : HdI)) 2).1) (((updF E (Int.toNat k) ((xo2, xc3, yL.drop 1) : HdI)) 2).2.2.length) (((updF E (Int.toNat k) ((xo2, xc3, yL.drop 1) : HdI)) 2).2.1), .slice (((updF E (Int.toNat k) ((xo2, xc3, yL.drop 1) : HdI)) 3).1) (((updF E (Int.toNat k) ((xo2, xc3, yL.drop 1) : HdI)) 3).2.2.length) (((updF E (Int.toNat k) ((xo2, xc3, yL.drop 1) : HdI)) 3).2.1), .slice (((updF E (Int.toNat k) ((xo2, xc3, yL.drop 1) : HdI)) 4).1) (((updF E (Int.toNat k) ((xo2, xc3, yL.drop 1) : HdI)) 4).2.2.length) (((updF E (Int.toNat k) ((xo2, xc3, yL.drop 1) : HdI)) 4).2.1)]), 0, 200, 0, 0] [4] fun _ => seg [(5, vi (List.getD yL 0 0)), (6, vb true)] [(0, none), (2, some ((ν1 1), .cells [.slice (((updF E (Int.toNat k) ((xo2, xc3, yL.drop 1) : HdI)) 0).1) (((updF E (Int.toNat k) ((xo2, xc3, yL.drop 1) : HdI)) 0).2.2.length) (((updF E (Int.toNat k) ((xo2, xc3, yL.drop 1) : HdI)) 0).2.1), .slice (((updF E (Int.toNat k) ((xo2, xc3, yL.drop 1) : HdI)) 1).1) (((updF E (Int.toNat k) ((xo2, xc3, yL.drop 1) : HdI)) 1).2.2.length) (((updF E (Int.toNat k) ((xo2, xc3, yL.drop 1) : HdI)) 1).2.1), .slice (((updF E (Int.toNat k) ((xo2, xc3, yL.drop 1) : HdI)) 2).1) (((updF E (Int.toNat k) ((xo2, xc3, yL.drop 1) : HdI)) 2).2.2.length) (((updF E (Int.toNat k) ((xo2, xc3, yL.drop 1) : HdI)) 2).2.1), .slice (((updF E (Int.toNat k) ((xo2, xc3, yL.drop 1) : HdI)) 3).1) (((updF E (Int.toNat k) ((xo2, xc3, yL.drop 1) : HdI)) 3).2.2.length) (((updF E (Int.toNat k) ((xo2, xc3, yL.drop 1) : HdI)) 3).2.1), .slice (((updF E (Int.toNat k) ((xo2, xc3, yL.drop 1) : HdI)) 4).1) (((updF E (Int.toNat k) ((xo2, xc3, yL.drop 1) : HdI)) 4).2.2.length) (((updF E (Int.toNat k) ((xo2, xc3, yL.drop 1) : HdI)) 4).2.1)] 72)), (3, none)] [.e (ν1 1), .e (ν1 1), .e (ν1 1), .e (ν1 1), .e (ν1 1), .p ((.agg #[((hdV (updF E (Int.toNat k) ((xo2, xc3, yL.drop 1) : HdI)) 0) 0), ((hdV (updF E (Int.toNat k) ((xo2, xc3, yL.drop 1) : HdI)) 0) 1), ((hdV (updF E (Int.toNat k) ((xo2, xc3, yL.drop 1) : HdI)) 0) 2), ((hdV (updF E (Int.toNat k) ((xo2, xc3, yL.drop 1) : HdI)) 0) 3), ((hdV (updF E (Int.toNat k) ((xo2, xc3, yL.drop 1) : HdI)) 0) 4)] : Value) = .agg #[.slice (((updF E (Int.toNat k) ((xo2, xc3, yL.drop 1) : HdI)) 0).1) (((updF E (Int.toNat k) ((xo2, xc3, yL.drop 1) : HdI)) 0).2.2.length) (((updF E (Int.toNat k) ((xo2, xc3, yL.drop 1) : HdI)) 0).2.1), .slice (((updF E (Int.toNat k) ((xo2, xc3, yL.drop 1) : HdI)) 1).1) (((updF E (Int.toNat k) ((xo2, xc3, yL.drop 1) : HdI)) 1).2.2.length) (((updF E (Int.toNat k) ((xo2, xc3, yL.drop 1) : HdI)) 1).2.1), .slice (((updF E (Int.toNat k) ((xo2, xc3, yL.drop 1) : HdI)) 2).1) (((updF E (Int.toNat k) ((xo2, xc3, yL.drop 1) : HdI)) 2).2.2.length) (((updF E (Int.toNat k) ((xo2, xc3, yL.drop 1) : HdI)) 2).2.1), .slice (((updF E (Int.toNat k) ((xo2, xc3, yL.drop 1) : HdI)) 3).1) (((updF E (Int.toNat k) ((xo2, xc3, yL.drop 1) : HdI)) 3).2.2.length) (((updF E (Int.toNat k) ((xo2, xc3, yL.drop 1) : HdI)) 3).2.1), .slice (((updF E (Int.toNat k) ((xo2, xc3, yL.drop 1) : HdI)) 4).1) (((updF E (Int.toNat k) ((xo2, xc3, yL.drop 1) : HdI)) 4).2.2.length) (((updF E (Int.toNat k) ((xo2, xc3, yL.drop 1) : HdI)) 4).2.1)]), .e (ν1 0), .p (4 < 5), .e (ν1 0), .p (3 < 5), .e (ν1 0), .p (2 < 5), .e (ν1 0), .p (1 < 5), .e (ν1 0), .p (0 < 5)] ⟨(agg5 (hdV_a (updF E (Int.toNat k) ((xo2, xc3, yL.drop 1) : HdI)) 0 0) (hdV_a (updF E (Int.toNat k) ((xo2, xc3, yL.drop 1) : HdI)) 0 1) (hdV_a (updF E (Int.toNat k) ((xo2, xc3, yL.drop 1) : HdI)) 0 2) (hdV_a (updF E (Int.toNat k) ((xo2, xc3, yL.drop 1) : HdI)) 0 3) (hdV_a (updF E (Int.toNat k) ((xo2, xc3, yL.drop 1) : HdI)) 0 4)), (by omega), (by omega), (by omega), (by omega), (by omega), trivial⟩ fun ac wd hS => ?_
  refine wp_ret ?_
  have hp : popS E k = true := by unfold popS; exact decide_eq_true ⟨by omega, by omega, by omega⟩
  obtain ⟨hp1, hp2, hp3⟩ := pop_yes hp
  have hN2 : (yL.drop 1) = popN E k := by rw [hp2, hyq]
  have hE9 := hp3 ((xo2, xc3, (yL.drop 1)) : HdI)
  replace hS := hS.to (hS.mem.tell 1 (b := (ν1 1)) (x := (.cells [.slice (((updF E (Int.toNat k) ((xo2, xc3, yL.drop 1) : HdI)) 0).1) (((updF E (Int.toNat k) ((xo2, xc3, yL.drop 1) : HdI)) 0).2.2.length) (((updF E (Int.toNat k) ((xo2, xc3, yL.drop 1) : HdI)) 0).2.1), .slice (((updF E (Int.toNat k) ((xo2, xc3, yL.drop 1) : HdI)) 1).1) (((updF E (Int.toNat k) ((xo2, xc3, yL.drop 1) : HdI)) 1).2.2.length) (((updF E (Int.toNat k) ((xo2, xc3, yL.drop 1) : HdI)) 1).2.1), .slice (((updF E (Int.toNat k) ((xo2, xc3, yL.drop 1) : HdI)) 2).1) (((updF E (Int.toNat k) ((xo2, xc3, yL.drop 1) : HdI)) 2).2.2.length) (((updF E (Int.toNat k) ((xo2, xc3, yL.drop 1) : HdI)) 2).2.1), .slice (((updF E (Int.toNat k) ((xo2, xc3, yL.drop 1) : HdI)) 3).1) (((updF E (Int.toNat k) ((xo2, xc3, yL.drop 1) : HdI)) 3).2.2.length) (((updF E (Int.toNat k) ((xo2, xc3, yL.drop 1) : HdI)) 3).2.1), .slice (((updF E (Int.toNat k) ((xo2, xc3, yL.drop 1) : HdI)) 4).1) (((updF E (Int.toNat k) ((xo2, xc3, yL.drop 1) : HdI)) 4).2.2.length) (((updF E (Int.toNat k) ((xo2, xc3, yL.drop 1) : HdI)) 4).2.1)] 72)) (.cells [.slice (((popE E k ((xo2, xc3, (yL.drop 1)) : HdI)) 0).1) (((popE E k ((xo2, xc3, (yL.drop 1)) : HdI)) 0).2.2.length) (((popE E k ((xo2, xc3, (yL.drop 1)) : HdI)) 0).2.1), .slice (((popE E k ((xo2, xc3, (yL.drop 1)) : HdI)) 1).1) (((popE E k ((xo2, xc3, (yL.drop 1)) : HdI)) 1).2.2.length) (((popE E k ((xo2, xc3, (yL.drop 1)) : HdI)) 1).2.1), .slice (((popE E k ((xo2, xc3, (yL.drop 1)) : HdI)) 2).1) (((popE E k ((xo2, xc3, (yL.drop 1)) : HdI)) 2).2.2.length) (((popE E k ((xo2, xc3, (yL.drop 1)) : HdI)) 2).2.1), .slice (((popE E k ((xo2, xc3, (yL.drop 1)) : HdI)) 3).1) (((popE E k ((xo2, xc3, (yL.drop 1)) : HdI)) 3).2.2.length) (((popE E k ((xo2, xc3, (yL.drop 1)) : HdI)) 3).2.1), .slice (((popE E k ((xo2, xc3, (yL.drop 1)) : HdI)) 4).1) (((popE E k ((xo2, xc3, (yL.drop 1)) : HdI)) 4).2.2.length) (((popE E k ((xo2, xc3, (yL.drop 1)) : HdI)) 4).2.1)] 72) (hh := fun h_ => by rw [hE9]; exact h_))
  refine St.retC 1 hS (.tuple #[.agg #[.slice (((popE E k ((xo2, xc3, (yL.drop 1)) : HdI)) 0).1) (((popE E k ((xo2, xc3, (yL.drop 1)) : HdI)) 0).2.2.length) (((popE E k ((xo2, xc3, (yL.drop 1)) : HdI)) 0).2.1), .slice (((popE E k ((xo2, xc3, (yL.drop 1)) : HdI)) 1).1) (((popE E k ((xo2, xc3, (yL.drop 1)) : HdI)) 1).2.2.length) (((popE E k ((xo2, xc3, (yL.drop 1)) : HdI)) 1).2.1), .slice (((popE E k ((xo2, xc3, (yL.drop 1)) : HdI)) 2).1) (((popE E k ((xo2, xc3, (yL.drop 1)) : HdI)) 2).2.2.length) (((popE E k ((xo2, xc3, (yL.drop 1)) : HdI)) 2).2.1), .slice (((popE E k ((xo2, xc3, (yL.drop 1)) : HdI)) 3).1) (((popE E k ((xo2, xc3, (yL.drop 1)) : HdI)) 3).2.2.length) (((popE E k ((xo2, xc3, (yL.drop 1)) : HdI)) 3).2.1), .slice (((popE E k ((xo2, xc3, (yL.drop 1)) : HdI)) 4).1) (((popE E k ((xo2, xc3, (yL.drop 1)) : HdI)) 4).2.2.length) (((popE E k ((xo2, xc3, (yL.drop 1)) : HdI)) 4).2.1)], vi (List.getD yL 0 0), vb true]) [.e (ν1 1), .e (ν1 1), .e (ν1 1), .e (ν1 1), .e (ν1 1)] trivial fun hw => ?_
  refine ⟨xo2, xc3, (yL.drop 1), F4, retd (tuple3 rfl (vint ?_) (vbool ?_)), ?_, (hw.res 0), hw.frA⟩
  all_goals (first | rfl | exact hN2 | exact hp1.symm | exact hp.symm | (rw [hp1, hyq]) | (rw [hE9]) | omega)

end Go.Proofs.YtdjhdcaanmkblaaDoor.K
