/-
  Walks, printed by w2.py.
-/
import Derived.Test.YtlnecfdbmoilbaaDoorBa
import Derived.Test.YtlnecfdbmoilbaaDoorRx
import Derived.Test.YtlnecfdbmoilbaaDoorBv
import Derived.Test.YtlnecfdbmoilbaaDoorProg
namespace Go.Proofs.YtlnecfdbmoilbaaDoor.K
set_option linter.unusedVariables false
set_option linter.unusedSimpArgs false

set_option maxRecDepth 100000 in
set_option maxHeartbeats 1000000 in
theorem bits_Ones (x : Nat) (w : World) :
    Calls Tryd.prog 76 #[vu ((x : Nat) : Int)] w fun e w' => e = .returned (vi (pcI ((x : Nat) : Int))) ∧ Fr w w' no no := by
 refine enter (args := [vu ((x : Nat) : Int)]) (D := no) (A := []) Tryd.func76 rfl 35 rfl [] (WS.startL trivial) fun ac hS => ?_
 refine hS.regS [0] [0] fun _ => seg [] [] [] trivial fun ac wd hS => ?_
 refine hS.regS [0, 0, 0, 0, 0, fx 0 (vu (pc1 ((x : Nat) : Int))), 0] [] fun _ => seg [(0, vu (pc1 ((x : Nat) : Int)))] [] [.p ((vu (IntKind.wrap .u64 ((iand .u64 (Int.fdiv ((x : Nat) : Int) (2 ^ 1)) 6148914691236517205) + (iand .u64 ((x : Nat) : Int) 6148914691236517205))) : Value) = vu (pc1 ((x : Nat) : Int)))] ⟨(vint (rfl)), trivial⟩ fun ac wd hS => ?_
 refine hS.regS [0, 0, 0, 0, 0, fx 0 (vu (pc2 (pc1 ((x : Nat) : Int)))), 0] [] fun _ => seg [(0, vu (pc2 (pc1 ((x : Nat) : Int))))] [] [.p ((vu (IntKind.wrap .u64 ((iand .u64 (Int.fdiv (pc1 ((x : Nat) : Int)) (2 ^ 2)) 3689348814741910323) + (iand .u64 (pc1 ((x : Nat) : Int)) 3689348814741910323))) : Value) = vu (pc2 (pc1 ((x : Nat) : Int))))] ⟨(vint (rfl)), trivial⟩ fun ac wd hS => ?_
 refine hS.regS [0, 0, 0, 0, fx 0 (vu (pc3 (pc2 (pc1 ((x : Nat) : Int))))), 0] [] fun _ => seg [(0, vu (pc3 (pc2 (pc1 ((x : Nat) : Int)))))] [] [.p ((vu (iand .u64 (IntKind.wrap .u64 ((Int.fdiv (pc2 (pc1 ((x : Nat) : Int))) (2 ^ 4)) + (pc2 (pc1 ((x : Nat) : Int))))) 1085102592571150095) : Value) = vu (pc3 (pc2 (pc1 ((x : Nat) : Int)))))] ⟨(vint (rfl)), trivial⟩ fun ac wd hS => ?_
 refine hS.regS [0, 0, 0, fx 0 (vu (pc4 8 (pc3 (pc2 (pc1 ((x : Nat) : Int)))))), 0] [] fun _ => seg [(0, vu (pc4 8 (pc3 (pc2 (pc1 ((x : Nat) : Int))))))] [] [.p ((vu (IntKind.wrap .u64 ((pc3 (pc2 (pc1 ((x : Nat) : Int)))) + (Int.fdiv (pc3 (pc2 (pc1 ((x : Nat) : Int)))) (2 ^ 8)))) : Value) = vu (pc4 8 (pc3 (pc2 (pc1 ((x : Nat) : Int))))))] ⟨(vint (rfl)), trivial⟩ fun ac wd hS => ?_
 refine hS.regS [0, 0, 0, fx 0 (vu (pc4 16 (pc4 8 (pc3 (pc2 (pc1 ((x : Nat) : Int))))))), 0] [] fun _ => seg [(0, vu (pc4 16 (pc4 8 (pc3 (pc2 (pc1 ((x : Nat) : Int)))))))] [] [.p ((vu (IntKind.wrap .u64 ((pc4 8 (pc3 (pc2 (pc1 ((x : Nat) : Int))))) + (Int.fdiv (pc4 8 (pc3 (pc2 (pc1 ((x : Nat) : Int))))) (2 ^ 16)))) : Value) = vu (pc4 16 (pc4 8 (pc3 (pc2 (pc1 ((x : Nat) : Int)))))))] ⟨(vint (rfl)), trivial⟩ fun ac wd hS => ?_
 refine hS.regS [0, 0, 0, fx 0 (vu (pc4 32 (pc4 16 (pc4 8 (pc3 (pc2 (pc1 ((x : Nat) : Int)))))))), 0] [] fun _ => seg [(0, vu (pc4 32 (pc4 16 (pc4 8 (pc3 (pc2 (pc1 ((x : Nat) : Int))))))))] [] [.p ((vu (IntKind.wrap .u64 ((pc4 16 (pc4 8 (pc3 (pc2 (pc1 ((x : Nat) : Int)))))) + (Int.fdiv (pc4 16 (pc4 8 (pc3 (pc2 (pc1 ((x : Nat) : Int)))))) (2 ^ 32)))) : Value) = vu (pc4 32 (pc4 16 (pc4 8 (pc3 (pc2 (pc1 ((x : Nat) : Int))))))))] ⟨(vint (rfl)), trivial⟩ fun ac wd hS => ?_
 refine hS.regS [0, 0, 0, 0] [] fun _ => seg [(2, vi (iand .i64 (IntKind.wrap .i64 (pc4 32 (pc4 16 (pc4 8 (pc3 (pc2 (pc1 ((x : Nat) : Int)))))))) 127))] [] [] trivial fun ac wd hS => ?_
 refine wp_ret ?_
 refine St.retC 0 hS (vi (iand .i64 (IntKind.wrap .i64 (pc4 32 (pc4 16 (pc4 8 (pc3 (pc2 (pc1 ((x : Nat) : Int)))))))) 127)) [] trivial fun hw => ?_
 refine ⟨retd (vint ?_), hw.fr0⟩
 all_goals (rfl)

set_option maxRecDepth 100000 in
set_option maxHeartbeats 1000000 in
theorem bits_Count (g : Nat) (o : Nat) (c : Nat) (nw : Nat) (ws : Nat → Nat) (n : Nat) (f : Int) (k : Int) (p : Nat → Bool) (w : World) (hh0 : HE.holds w g (.fn o (o + nw) (u64s ws o))) (hW : Words ws nw n p) (hn : n ≤ 1048576) :
    Calls Tryd.prog 32 #[.agg #[vi ((n : Nat) : Int), sc g o nw c], vi f, vi k] w fun e w' => e = .returned (.tuple #[vi (cntV p n f k), vi (trnE n f k)]) ∧ Fr w w' no no := by
 have hnw := hW.many
 have hsm := hW.small
 refine enter (args := [.agg #[vi ((n : Nat) : Int), sc g o nw c], vi f, vi k]) (D := no) (A := []) Tryd.func32 rfl 42 rfl [(g, .fn o (o + nw) (u64s ws o))] (WS.startL ⟨⟨rfl, hh0⟩, trivial⟩) fun ac hS => ?_
 refine hS.regS [0, 0, 0] [1, 2] fun ν1 => seg [(3, pt (ν1 0) 0)] [(0, none), (1, some ((ν1 0), .cells [vi ((n : Nat) : Int), sc g o nw c] 58))] [] trivial fun ac wd hS => ?_
 refine wp_seq ?_
 refine wp_region_seq ?_
 refine hS.opsC 3 [100, 0, 0] [1, 2, 3] fun _ => seg [(11, .agg #[vi ((n : Nat) : Int), sc g o nw c]), (12, vi f), (13, vi k)] [(0, none), (1, none)] [.e (ν1 0), .e (ν1 0)] trivial fun ac wd hS => ?_
 refine hS.call0 74 #[.agg #[vi ((n : Nat) : Int), sc g o nw c], vi f, vi k] 14 (bits_within g o c nw n f k _  (by first | assumption | omega | (simp_all; done) | (simp_all; omega))) fun ac wd hS => ?_
 refine hS.opsC 1 [0] [1, 2, 3] fun _ => seg [(15, vb (!(wth n f k)))] [(0, none), (1, none)] [] trivial fun ac wd hS => ?_
 refine list_nil_seq ?_
 refine hS.condC (!(wth n f k)) (fun hb1o hb1 => ?_) (fun hb1o hb1 => ?_)
 ·
  refine hS.regS [0, 0] [] fun _ => seg [(6, vi 0), (7, vi 3)] [] [] trivial fun ac wd hS => ?_
  refine wp_ret ?_
  refine pop_then_ret ?_
  refine St.retC 0 hS (.tuple #[vi 0, vi 3]) [] trivial fun hw => ?_
  refine ⟨retd (tuple2 (vint ?_) (vint ?_)), hw.fr0⟩
  all_goals (first | rfl | exact cntV_no (by assumption) | exact trnE_no (by assumption) | exact trnE_yes (by assumption) | (rw [cntV_yes (by assumption), i1, show k.toNat = (x1 - f).toNat by omega]))
 ·
  have hwt : wth n f k = true := by simpa using hb1o
  obtain ⟨hw0, hw1, hw2⟩ := wth_facts hwt
  refine wp_skip ?_
  refine pop_then ?_
  refine hS.regS [0] [1, 2, 3] fun _ => seg [(8, vi 0)] [(0, none), (1, none)] [] trivial fun ac wd hS => ?_
  refine wp_seq ?_
  refine wp_block ?_
  refine St.loopC (σ := Int × Int × Int) (fun (x : Int × Int × Int) => match x with | (x1, x2, x8) => ⟨[(1, [], vi x1), (2, [], vi x2), (3, [], pt (ν1 0) 0), (8, [], vi x8)], [(g, .fn o (o + nw) (u64s ws o)), ((ν1 0), .cells [vi ((n : Nat) : Int), sc g o nw c] 58)], [], (f ≤ x1 ∧ 0 ≤ x2 ∧ x1 + x2 = f + k) ∧ (x8 = ((cntR p f.toNat (x1 - f).toNat : Nat) : Int)) ∧ True, Int.toNat x2⟩) (f, k, 0) ⟨(by first | omega | (rw [show (f - f).toNat = 0 by omega]; rfl)), (by first | omega | (rw [show (f - f).toNat = 0 by omega]; rfl)), trivial⟩ hS ?_
  clear hS
  rintro ⟨x1, x2, x8⟩ ⟨i0, i1, -⟩ ac wd hS
  replace i0 : f ≤ x1 ∧ 0 ≤ x2 ∧ x1 + x2 = f + k := i0
  replace i1 : x8 = ((cntR p f.toNat (x1 - f).toNat : Nat) : Int) := i1
  have him : 0 < x2 → 1 ≤ imin x2 (64 - (x1 % 64)) ∧ imin x2 (64 - (x1 % 64)) ≤ 64 - (x1 % 64) ∧ imin x2 (64 - (x1 % 64)) ≤ x2 := fun h => by unfold imin; split <;> omega
  have hpc : 0 < x2 → pcI (((ws (Int.toNat (x1 / 64)) &&& mkM (Int.toNat (x1 % 64)) (Int.toNat (imin x2 (64 - (x1 % 64)))) : Nat)) : Int) = ((cntR p x1.toNat (imin x2 (64 - (x1 % 64))).toNat : Nat) : Int) := fun h => hW.countI (by omega) (him h).1 (him h).2.1 (by have := (him h).2.2; omega)
  have hb8 := cntR_le p (x1 - f).toNat f.toNat
  have hbm := cntR_le p (imin x2 (64 - (x1 % 64))).toNat x1.toNat
  refine wp_seq ?_
  refine hS.regS [0, 0] [1, 2, 3, 8] fun _ => seg [(17, vb (decide ((0 : Int) < x2)))] [(0, none), (1, none)] [] trivial fun ac wd hS => ?_
  refine hS.condC (decide ((0 : Int) < x2)) (fun hb2o hb2 => ?_) (fun hb2o hb2 => ?_)
  ·
   refine wp_skip ?_
   refine pop_then ?_
   refine wp_block ?_
   refine wp_region_seq ?_
   refine hS.opsC 2 [0, 0] [1, 2, 3, 8] fun _ => seg [(19, vi x1), (20, vi x2)] [(0, none), (1, none)] [] trivial fun ac wd hS => ?_
   refine hS.call0 75 #[vi x1, vi x2] 21 (bits_mask x1 x2 _  (by first | assumption | omega | (simp_all; done) | (simp_all; omega)) (by first | assumption | omega | (simp_all; done) | (simp_all; omega))) fun ac wd hS => ?_
   refine hS.opsC 5 [0, 0, 0, 0, 0] [1, 2, 3, 8] fun _ => seg [(9, vu ((mkM (x1 % 64).toNat (imin x2 (64 - x1 % 64)).toNat : Nat) : Int)), (10, vi (imin x2 (64 - x1 % 64)))] [(0, none), (1, none)] [] trivial fun ac wd hS => ?_
   refine list_nil_seq ?_
   refine wp_region_seq ?_
   refine hS.opsC 9 [0, 0, 100, 0, 20, 20, fx 0 (vu ((ws (Int.toNat (x1 / 64)) : Nat) : Int)), 0, 20] [1, 2, 3, 8, 10] fun _ => seg [(24, vi x8), (32, vu (((ws (Int.toNat (x1 / 64))) &&& (mkM (x1 % 64).toNat (imin x2 (64 - x1 % 64)).toNat) : Nat) : Int))] [(0, none), (1, none)] [.p (bitRaw .and .u64 ((ws (Int.toNat (x1 / 64)) : Nat) : Int) ((mkM (x1 % 64).toNat (imin x2 (64 - x1 % 64)).toNat : Nat) : Int) = (((ws (Int.toNat (x1 / 64))) &&& (mkM (x1 % 64).toNat (imin x2 (64 - x1 % 64)).toNat) : Nat) : Int)), .p ((((u64s ws o) (o + Int.toNat (x1 / 64) * 1)) : Value) = vu ((ws (Int.toNat (x1 / 64)) : Nat) : Int)), .e g, .p (o ≤ o + Int.toNat (x1 / 64) * 1 ∧ o + Int.toNat (x1 / 64) * 1 < (o + nw)), .p (0 ≤ (x1 / 64) ∧ (x1 / 64) < ((nw : Nat) : Int)), .p (64 ≠ 0 ∧ IntKind.i64.wrap (Int.tdiv x1 64) = x1 / 64), .e (ν1 0)] ⟨iand_u (a := ws (Int.toNat (x1 / 64))) (b := mkM (x1 % 64).toNat (imin x2 (64 - x1 % 64)).toNat) (by first | exact hW.small _ (by rw [hW.many]; omega) | exact mkM_lt (by omega)) (by first | exact hW.small _ (by rw [hW.many]; omega) | exact mkM_lt (by omega)), (u64s_rel ws o (Int.toNat (x1 / 64))), (by omega), (by omega), quo2 (by omega) (by omega) (by omega), trivial⟩ fun ac wd hS => ?_
   refine hS.call0 76 #[vu (((ws (Int.toNat (x1 / 64))) &&& (mkM (x1 % 64).toNat (imin x2 (64 - x1 % 64)).toNat) : Nat) : Int)] 33 (bits_Ones ((ws (Int.toNat (x1 / 64))) &&& (mkM (x1 % 64).toNat (imin x2 (64 - x1 % 64)).toNat)) _  ) fun ac wd hS => ?_
   refine hS.opsC 2 [20, 0] [1, 2, 3, 10] fun _ => seg [(8, vi (x8 + (pcI ((((ws (Int.toNat (x1 / 64))) &&& (mkM (x1 % 64).toNat (imin x2 (64 - x1 % 64)).toNat)) : Nat) : Int))))] [(0, none), (1, none)] [.p (fit .i64 (x8 + (pcI ((((ws (Int.toNat (x1 / 64))) &&& (mkM (x1 % 64).toNat (imin x2 (64 - x1 % 64)).toNat)) : Nat) : Int))))] ⟨fit_i64 (by first | omega | (rw [hpc (by omega)]; omega)), trivial⟩ fun ac wd hS => ?_
   refine list_nil_seq ?_
   refine hS.regC [0, 0, 20, 0, 0, 20, 0, 0] [3, 8] fun _ => seg [(1, vi (x1 + (imin x2 (64 - x1 % 64)))), (2, vi (x2 - (imin x2 (64 - x1 % 64))))] [(0, none), (1, none)] [.p (fit .i64 (x2 - (imin x2 (64 - x1 % 64)))), .p (fit .i64 (x1 + (imin x2 (64 - x1 % 64))))] ⟨fit_i64 (by first | omega | (rw [hpc (by omega)]; omega)), fit_i64 (by first | omega | (rw [hpc (by omega)]; omega)), trivial⟩ fun ac wd hS => ?_
   refine pop_block ?_
   exact pop_then (hS.next ((x1 + (imin x2 (64 - x1 % 64))), (x2 - (imin x2 (64 - x1 % 64))), (x8 + (pcI ((((ws (Int.toNat (x1 / 64))) &&& (mkM (x1 % 64).toNat (imin x2 (64 - x1 % 64)).toNat)) : Nat) : Int)))) ⟨(by first | omega | assumption | (simp; done) | (simp; omega)), (by rw [hpc (by omega), i1]; exact cnt_step hw0 i0.1 (by omega)), trivial⟩ (by dsimp only; omega))
  ·
   refine wp_exit ?_
   refine pop_then_exit ?_
   refine pop_then_exit ?_
   refine pop_block_hit ?_
   refine pop_then ?_
   refine hS.regS [0, 0, 0] [] fun _ => seg [(6, vi x8), (7, vi 0)] [] [] trivial fun ac wd hS => ?_
   refine wp_ret ?_
   refine St.retC 0 hS (.tuple #[vi x8, vi 0]) [] trivial fun hw => ?_
   refine ⟨retd (tuple2 (vint ?_) (vint ?_)), hw.fr0⟩
   all_goals (first | rfl | exact cntV_no (by assumption) | exact trnE_no (by assumption) | exact trnE_yes (by assumption) | (rw [cntV_yes (by assumption), i1, show k.toNat = (x1 - f).toNat by omega]))



set_option maxRecDepth 100000 in
set_option maxHeartbeats 1000000 in
theorem slices_EqualI (g1 : Nat) (o1 : Nat) (c1 : Nat) (l1 : List Int) (g2 : Nat) (o2 : Nat) (c2 : Nat) (l2 : List Int) (w : World) (hh0 : HE.holds w g1 (.fn o1 (o1 + l1.length) (ints l1 o1))) (hh1 : HE.holds w g2 (.fn o2 (o2 + l2.length) (ints l2 o2))) (hl : l1.length ≤ 4611686018427387904) :
    Calls Tryd.prog 110 #[sc g1 o1 l1.length c1, sc g2 o2 l2.length c2] w fun e w' => e = .returned (vb (l1 == l2)) ∧ Fr w w' no no := by
 refine enter (args := [sc g1 o1 l1.length c1, sc g2 o2 l2.length c2]) (D := no) (A := []) Tryd.func110 rfl 26 rfl [(g1, .fn o1 (o1 + l1.length) (ints l1 o1)), (g2, .fn o2 (o2 + l2.length) (ints l2 o2))] (WS.startL ⟨⟨rfl, hh0⟩, ⟨rfl, hh1⟩, trivial⟩) fun ac hS => ?_
 refine hS.regS [0] [0, 1] fun _ => seg [] [(0, none), (1, none)] [] trivial fun ac wd hS => ?_
 refine wp_seq ?_
 refine hS.regS [0, 0, 0, 0, 0] [0, 1] fun _ => seg [(10, vb ((((l1.length : Nat) : Int) : Int) != ((l2.length : Nat) : Int)))] [(0, none), (1, none)] [] trivial fun ac wd hS => ?_
 refine hS.condC ((((l1.length : Nat) : Int) : Int) != ((l2.length : Nat) : Int)) (fun hb1o hb1 => ?_) (fun hb1o hb1 => ?_)
 ·
  refine hS.regS [0] [] fun _ => seg [(4, vb false)] [] [] trivial fun ac wd hS => ?_
  refine wp_ret ?_
  refine pop_then_ret ?_
  refine St.retC 0 hS (vb false) [] trivial fun hw => ?_
  refine ⟨retd (vbool ?_), hw.fr0⟩
  all_goals (first | exact eqL_len (by omega) | exact eqL_at (x := x13) (by omega) (by omega) (by assumption) | exact eqL_all (x := x13) (by omega) (by omega) i2)
 ·
  refine wp_skip ?_
  refine pop_then ?_
  refine wp_seq ?_
  refine hS.regS [0, 0, 0] [0, 1] fun _ => seg [(12, vi ((l1.length : Nat) : Int)), (13, vi 0)] [(0, none), (1, none)] [] trivial fun ac wd hS => ?_
  refine wp_block ?_
  refine St.loopC (σ := Int) (fun (x13 : Int) => ⟨[(0, [], sc g1 o1 l1.length c1), (1, [], sc g2 o2 l2.length c2), (12, [], vi ((l1.length : Nat) : Int)), (13, [], vi x13)], [(g1, .fn o1 (o1 + l1.length) (ints l1 o1)), (g2, .fn o2 (o2 + l2.length) (ints l2 o2))], [], (0 ≤ x13) ∧ (x13 ≤ (l1.length : Int)) ∧ (l1.take (Int.toNat x13) = l2.take (Int.toNat x13)) ∧ True, l1.length - Int.toNat x13⟩) 0 ⟨(by first | omega | rfl), (by first | omega | rfl), (by first | omega | rfl), trivial⟩ hS ?_
  clear hS
  rintro x13 ⟨i0, i1, i2, -⟩ ac wd hS
  replace i0 : 0 ≤ x13 := i0
  replace i1 : x13 ≤ (l1.length : Int) := i1
  replace i2 : l1.take (Int.toNat x13) = l2.take (Int.toNat x13) := i2
  refine hS.regS [0] [0, 1, 12, 13] fun _ => seg [(14, vb (decide ((x13 : Int) < ((l1.length : Nat) : Int))))] [(0, none), (1, none)] [] trivial fun ac wd hS => ?_
  refine wp_seq ?_
  refine hS.condC (decide ((x13 : Int) < ((l1.length : Nat) : Int))) (fun hb2o hb2 => ?_) (fun hb2o hb2 => ?_)
  ·
   refine wp_skip ?_
   refine pop_then ?_
   refine wp_seq ?_
   refine wp_block ?_
   refine hS.regS [0, 0] [0, 1, 12, 13] fun _ => seg [(5, vi x13)] [(0, none), (1, none)] [] trivial fun ac wd hS => ?_
   refine hS.drawS [0, 0, 20, fx 0 (vi (List.getD l1 (Int.toNat x13) 0)), 0, 0, 20, fx 100 (vi (List.getD l2 (Int.toNat x13) 0)), 0] [0, 1, 12, 13] <| seg [(24, vb (((List.getD l1 (Int.toNat x13) 0) : Int) != (List.getD l2 (Int.toNat x13) 0)))] [(0, none), (1, none)] [.p ((((ints l2 o2) (o2 + Int.toNat x13 * 1)) : Value) = vi (List.getD l2 (Int.toNat x13) 0)), .e g2, .p (o2 ≤ o2 + Int.toNat x13 * 1 ∧ o2 + Int.toNat x13 * 1 < (o2 + l2.length)), .p (0 ≤ x13 ∧ x13 < ((l2.length : Nat) : Int)), .p ((((ints l1 o1) (o1 + Int.toNat x13 * 1)) : Value) = vi (List.getD l1 (Int.toNat x13) 0)), .e g1, .p (o1 ≤ o1 + Int.toNat x13 * 1 ∧ o1 + Int.toNat x13 * 1 < (o1 + l1.length)), .p (0 ≤ x13 ∧ x13 < ((l1.length : Nat) : Int))] ⟨(ints_rel l2 o2 (Int.toNat x13)), (by omega), (by omega), (ints_rel l1 o1 (Int.toNat x13)), (by omega), (by omega), trivial⟩ fun ac wd hS => ?_
   refine hS.condC (((List.getD l1 (Int.toNat x13) 0) : Int) != (List.getD l2 (Int.toNat x13) 0)) (fun hb3o hb3 => ?_) (fun hb3o hb3 => ?_)
   ·
    refine hS.regS [0] [] fun _ => seg [(4, vb false)] [] [] trivial fun ac wd hS => ?_
    refine wp_ret ?_
    refine pop_block_ret ?_
    refine pop_then_ret ?_
    refine pop_then_ret ?_
    refine pop_block_ret ?_
    refine pop_then_ret ?_
    refine St.retC 0 hS (vb false) [] trivial fun hw => ?_
    refine ⟨retd (vbool ?_), hw.fr0⟩
    all_goals (first | exact eqL_len (by omega) | exact eqL_at (x := x13) (by omega) (by omega) (by assumption) | exact eqL_all (x := x13) (by omega) (by omega) i2)
   ·
    refine wp_skip ?_
    refine pop_block ?_
    refine pop_then ?_
    refine hS.regC [20, 0] [0, 1, 12] fun _ => seg [(13, vi (x13 + 1))] [(0, none), (1, none)] [.p (fit .i64 (x13 + 1))] ⟨fit_i64 (by omega), trivial⟩ fun ac wd hS => ?_
    exact pop_then (hS.next (x13 + 1) ⟨(by first | omega | assumption | (simp; done) | (simp; omega)), (by first | omega | assumption | (simp; done) | (simp; omega)), (by exact take_step (by omega) (by omega) i2 (by assumption)), trivial⟩ (by dsimp only; omega))
  ·
   refine wp_exit ?_
   refine pop_then_exit ?_
   refine pop_then_exit ?_
   refine pop_block_hit ?_
   refine pop_then ?_
   refine hS.regS [0] [] fun _ => seg [(4, vb true)] [] [] trivial fun ac wd hS => ?_
   refine wp_ret ?_
   refine St.retC 0 hS (vb true) [] trivial fun hw => ?_
   refine ⟨retd (vbool ?_), hw.fr0⟩
   all_goals (first | exact eqL_len (by omega) | exact eqL_at (x := x13) (by omega) (by omega) (by assumption) | exact eqL_all (x := x13) (by omega) (by omega) i2)

set_option maxRecDepth 100000 in
set_option maxHeartbeats 1000000 in
theorem law02_awake (w : World) (hh0 : HE.holds w 1 (.fn 0 64 dbT)) :
    Calls Tryd.prog 96 #[] w fun e w' => e = .returned (vb true) ∧ Fr w w' no no := by
 refine enter (args := []) (D := no) (A := []) Tryd.func96 rfl 40 rfl [(1, .fn 0 64 dbT)] (WS.startL ⟨⟨rfl, hh0⟩, trivial⟩) fun ac hS => ?_
 refine hS.regS [0] [] fun _ => seg [] [(0, none)] [] trivial fun ac wd hS => ?_
 refine wp_region_seq ?_
 refine hS.callC 56 #[vi 10] (bits_New 10 _  ) ?_
 rintro _ wd ⟨g21, c22, rfl, hog0, hoh0, hF⟩
 have ho3 : w.heap.size ≤ g21 := Nat.le_trans hS.mem.fr.size hog0
 refine ⟨.agg #[vi ((capN 10 : Nat) : Int), sc g21 0 ((capN 10 + 63) / 64) c22], rfl, ?_⟩
 replace hS := (hS.to (hS.mem.outs hF [(g21, .fn 0 (0 + ((capN 10 + 63) / 64)) (u64s (fun _ => 0) 0))] ⟨⟨rfl, hoh0, .inr hog0⟩, trivial⟩)).put (d := 7) (v := .agg #[vi ((capN 10 : Nat) : Int), sc g21 0 ((capN 10 + 63) / 64) c22]) (by decide)
 clear hF
 refine hS.callC 58 #[.agg #[vi ((capN 10 : Nat) : Int), sc g21 0 ((capN 10 + 63) / 64) c22], vi 2, vi 3] (bits_With g21 0 c22 ((capN 10 + 63) / 64) (fun _ => 0) (capN 10) 2 3 (fun _ => false) _ (hS.mem.get 1 g21 (.fn 0 (0 + ((capN 10 + 63) / 64)) (u64s (fun _ => 0) 0))) (by first | exact words_none _ | exact capN_le _ | decide) (by first | exact words_none _ | exact capN_le _ | decide)) ?_
 rintro _ wd ⟨g24, o25, c26, ws27, rfl, hW28, hog0, hoh0, hF⟩
 have ho9 : w.heap.size ≤ g24 := by rcases hog0 with hx | hx; rw [hx]; exact ho3; exact Nat.le_trans hS.mem.fr.size hx
 refine ⟨.tuple #[.agg #[vi (((capN 10) : Nat) : Int), sc g24 o25 ((capN 10 + 63) / 64) c26], vi (trnE (capN 10) 2 3)], rfl, ?_⟩
 replace hS := (hS.to (hS.mem.outs hF [(g24, .fn o25 (o25 + ((capN 10 + 63) / 64)) (u64s ws27 o25))] ⟨⟨rfl, hoh0, hog0.imp (fun e => ⟨1, .fn 0 (0 + ((capN 10 + 63) / 64)) (u64s (fun _ => 0) 0), by rw [e]; rfl, rfl⟩) id⟩, trivial⟩)).put (d := 8) (v := .tuple #[.agg #[vi (((capN 10) : Nat) : Int), sc g24 o25 ((capN 10 + 63) / 64) c26], vi (trnE (capN 10) 2 3)]) (by decide)
 clear hF
 refine hS.opsC 6 [0, 0, 0, 0, 300, 0] [] fun ν2 => seg [(1, pt (ν2 0) 0), (2, vi (trnE (capN 10) 2 3))] [(0, none), (2, none), (3, some ((ν2 0), .cells [vi (((capN 10) : Nat) : Int), sc g24 o25 ((capN 10 + 63) / 64) c26] 58))] [.e (ν2 0), .e (ν2 0)] trivial fun ac wd hS => ?_
 refine list_nil_seq ?_
 refine wp_region_seq ?_
 refine hS.opsC 1 [200] [1, 2] fun _ => seg [(12, .agg #[vi (((capN 10) : Nat) : Int), sc g24 o25 ((capN 10 + 63) / 64) c26])] [(0, none), (1, none), (2, none)] [.e (ν2 0), .e (ν2 0)] trivial fun ac wd hS => ?_
 refine hS.callC 66 #[.agg #[vi (((capN 10) : Nat) : Int), sc g24 o25 ((capN 10 + 63) / 64) c26], vi 3, vi 1] (bits_Without g24 o25 c26 ((capN 10 + 63) / 64) ws27 (capN 10) 3 1 (trn (fun _ => false) (capN 10) 2 3 true) _ (hS.mem.get 1 g24 (.fn o25 (o25 + ((capN 10 + 63) / 64)) (u64s ws27 o25))) (by first | assumption | exact capN_le _) (by first | assumption | exact capN_le _)) ?_
 rintro _ wd ⟨g210, o211, c212, ws213, rfl, hW214, hog0, hoh0, hF⟩
 have ho15 : w.heap.size ≤ g210 := by rcases hog0 with hx | hx; rw [hx]; exact ho9; exact Nat.le_trans hS.mem.fr.size hx
 refine ⟨.tuple #[.agg #[vi (((capN 10) : Nat) : Int), sc g210 o211 ((capN 10 + 63) / 64) c212], vi (trnE (capN 10) 3 1)], rfl, ?_⟩
 replace hS := (hS.to (hS.mem.outs hF [(g210, .fn o211 (o211 + ((capN 10 + 63) / 64)) (u64s ws213 o211))] ⟨⟨rfl, hoh0, hog0.imp (fun e => ⟨1, .fn o25 (o25 + ((capN 10 + 63) / 64)) (u64s ws27 o25), by rw [e]; rfl, rfl⟩) id⟩, trivial⟩)).put (d := 13) (v := .tuple #[.agg #[vi (((capN 10) : Nat) : Int), sc g210 o211 ((capN 10 + 63) / 64) c212], vi (trnE (capN 10) 3 1)]) (by decide)
 clear hF
 refine hS.opsC 5 [0, 0, 0, 200, 0] [1, 2] fun _ => seg [(3, vi (trnE (capN 10) 3 1))] [(0, none), (2, some ((ν2 0), .cells [vi (((capN 10) : Nat) : Int), sc g210 o211 ((capN 10 + 63) / 64) c212] 58)), (3, none)] [.e (ν2 0), .e (ν2 0)] trivial fun ac wd hS => ?_
 refine list_nil_seq ?_
 refine wp_region_seq ?_
 refine hS.opsC 1 [100] [1, 2, 3] fun _ => seg [(17, .agg #[vi (((capN 10) : Nat) : Int), sc g210 o211 ((capN 10 + 63) / 64) c212])] [(0, none), (1, none), (2, none)] [.e (ν2 0), .e (ν2 0)] trivial fun ac wd hS => ?_
 refine hS.call0 109 #[.agg #[vi (((capN 10) : Nat) : Int), sc g210 o211 ((capN 10 + 63) / 64) c212], vi 3, vb false] 18 (bits_First g210 o211 c212 ((capN 10 + 63) / 64) ws213 (capN 10) 3 false (trn (trn (fun _ => false) (capN 10) 2 3 true) (capN 10) 3 1 false) _ (hS.mem.get 0 1 (.fn 0 64 dbT)) (hS.mem.get 2 g210 (.fn o211 (o211 + ((capN 10 + 63) / 64)) (u64s ws213 o211))) (by first | assumption | exact capN_le _) (by first | assumption | exact capN_le _)) fun ac wd hS => ?_
 refine hS.opsC 5 [0, 0, 0, 0, 0] [1, 2, 3] fun _ => seg [(4, vi (fst1 (trn (trn (fun _ => false) (capN 10) 2 3 true) (capN 10) 3 1 false) (capN 10) 3 false)), (5, vb (fst2 (trn (trn (fun _ => false) (capN 10) 2 3 true) (capN 10) 3 1 false) (capN 10) 3 false))] [(0, none), (1, none), (2, none)] [] trivial fun ac wd hS => ?_
 refine list_nil_seq ?_
 refine wp_region_seq ?_
 refine hS.opsC 14 [0, 0, 0, 3, 3, 80, 0, 3, 80, 0, 3, 3, 80, 0] [1] fun _ => seg [(34, vb ((((((trnE (capN 10) 2 3) : Int) == 0) && (((trnE (capN 10) 3 1) : Int) == 0)) && (fst2 (trn (trn (fun _ => false) (capN 10) 2 3 true) (capN 10) 3 1 false) (capN 10) 3 false)) && (((fst1 (trn (trn (fun _ => false) (capN 10) 2 3 true) (capN 10) 3 1 false) (capN 10) 3 false) : Int) == 3)))] [(0, none), (1, none), (2, none)] [] trivial fun ac wd hS => ?_
 have hg16o : ((((((trnE (capN 10) 2 3) : Int) == 0) && (((trnE (capN 10) 3 1) : Int) == 0)) && (fst2 (trn (trn (fun _ => false) (capN 10) 2 3 true) (capN 10) 3 1 false) (capN 10) 3 false)) && (((fst1 (trn (trn (fun _ => false) (capN 10) 2 3 true) (capN 10) 3 1 false) (capN 10) 3 false) : Int) == 3)) = true := by decide +kernel
 replace hS := hS.fix 34 (vb true) (congrArg Value.bool hg16o)
 refine hS.opsC 1 [101] [34] fun _ => seg [(35, .agg #[vi (((capN 10) : Nat) : Int), sc g210 o211 ((capN 10 + 63) / 64) c212])] [(0, none), (2, none)] [.t true, .e (ν2 0), .e (ν2 0)] trivial fun ac wd hS => ?_
 refine hS.callG true 111 #[.agg #[vi (((capN 10) : Nat) : Int), sc g210 o211 ((capN 10 + 63) / 64) c212]] (law02_rows_some g210 o211 c212 ((capN 10 + 63) / 64) ws213 (capN 10) (trn (trn (fun _ => false) (capN 10) 2 3 true) (capN 10) 3 1 false) _ (hS.mem.get 0 1 (.fn 0 64 dbT)) (hS.mem.get 1 g210 (.fn o211 (o211 + ((capN 10 + 63) / 64)) (u64s ws213 o211))) (by first | assumption | exact capN_le _ | decide +kernel) (by first | assumption | exact capN_le _ | decide +kernel) (by first | assumption | exact capN_le _ | decide +kernel)) ?_
 rintro _ wd ⟨g217, c218, rfl, hog0, hoh0, hF⟩
 have ho19 : w.heap.size ≤ g217 := Nat.le_trans hS.mem.fr.size hog0
 refine ⟨sc g217 0 ((flat (runs (trn (trn (fun _ => false) (capN 10) 2 3 true) (capN 10) 3 1 false) (capN 10))).length) c218, rfl, ?_⟩
 replace hS := (hS.to (hS.mem.outs hF [(g217, .fn 0 (0 + (flat (runs (trn (trn (fun _ => false) (capN 10) 2 3 true) (capN 10) 3 1 false) (capN 10))).length) (ints (flat (runs (trn (trn (fun _ => false) (capN 10) 2 3 true) (capN 10) 3 1 false) (capN 10))) 0))] ⟨⟨rfl, hoh0, .inr hog0⟩, trivial⟩)).put (d := 36) (v := sc g217 0 ((flat (runs (trn (trn (fun _ => false) (capN 10) 2 3 true) (capN 10) 3 1 false) (capN 10))).length) c218) (by decide)
 clear hF
 refine hS.opsC 1 [1] [34, 36] fun ν9 => seg [(37, sc (ν9 0) 0 4 4)] [(0, none), (2, none), (3, some ((ν9 0), .cells [vi 2, vi 1, vi 4, vi 1] 3))] [.t true] trivial fun ac wd hS => ?_
 refine hS.callG true 110 #[sc g217 0 ((flat (runs (trn (trn (fun _ => false) (capN 10) 2 3 true) (capN 10) 3 1 false) (capN 10))).length) c218, sc (ν9 0) 0 4 4] (slices_EqualI g217 0 c218 (flat (runs (trn (trn (fun _ => false) (capN 10) 2 3 true) (capN 10) 3 1 false) (capN 10))) (ν9 0) 0 4 ([2, 1, 4, 1]) _ (hS.mem.get 1 g217 (.fn 0 (0 + (flat (runs (trn (trn (fun _ => false) (capN 10) 2 3 true) (capN 10) 3 1 false) (capN 10))).length) (ints (flat (runs (trn (trn (fun _ => false) (capN 10) 2 3 true) (capN 10) 3 1 false) (capN 10))) 0))) (HE.of_cells (hS.mem.get 2 (ν9 0) (.cells [vi 2, vi 1, vi 4, vi 1] 3)) (fun o ho => by have ho : o < 4 := ho; rcases (by omega : o = 0 ∨ o = 1 ∨ o = 2 ∨ o = 3) with rfl | rfl | rfl | rfl <;> rfl)) (by decide +kernel)) ?_
 rintro _ wd ⟨rfl, hF⟩
 refine ⟨vb ((flat (runs (trn (trn (fun _ => false) (capN 10) 2 3 true) (capN 10) 3 1 false) (capN 10))) == ([2, 1, 4, 1])), rfl, ?_⟩
 replace hS := (hS.to (hS.mem.keep0 hF)).put (d := 38) (v := vb ((flat (runs (trn (trn (fun _ => false) (capN 10) 2 3 true) (capN 10) 3 1 false) (capN 10))) == ([2, 1, 4, 1]))) (by decide)
 clear hF
 refine hS.opsC 2 [70, 0] [] fun _ => seg [(0, vb ((flat (runs (trn (trn (fun _ => false) (capN 10) 2 3 true) (capN 10) 3 1 false) (capN 10))) == ([2, 1, 4, 1])))] [(0, none)] [.t true] trivial fun ac wd hS => ?_
 refine list_nil_seq ?_
 refine wp_ret ?_
 refine St.retC 0 hS (vb ((flat (runs (trn (trn (fun _ => false) (capN 10) 2 3 true) (capN 10) 3 1 false) (capN 10))) == ([2, 1, 4, 1]))) [] trivial fun hw => ?_
 refine ⟨retd (vbool ?_), hw.fr0⟩
 all_goals (first | rfl | decide +kernel)

set_option maxRecDepth 100000 in
set_option maxHeartbeats 1000000 in
theorem law02_Awake (w : World) (hh0 : HE.holds w 1 (.fn 0 64 dbT)) :
    Calls Tryd.prog 55 #[] w fun e w' => e = .returned (vb true) ∧ Fr w w' no no := by
 refine enter (args := []) (D := no) (A := []) Tryd.func55 rfl 2 rfl [(1, .fn 0 64 dbT)] (WS.startL ⟨⟨rfl, hh0⟩, trivial⟩) fun ac hS => ?_
 refine hS.regS [0] [] fun _ => seg [] [(0, none)] [] trivial fun ac wd hS => ?_
 refine wp_region_seq ?_
 refine hS.call0 96 #[] 1 (law02_awake  _ (hS.mem.get 0 1 (.fn 0 64 dbT)) ) fun ac wd hS => ?_
 refine hS.opsC 1 [0] [] fun _ => seg [(0, vb true)] [(0, none)] [] trivial fun ac wd hS => ?_
 refine list_nil_seq ?_
 refine wp_ret ?_
 refine St.retC 0 hS (vb true) [] trivial fun hw => ?_
 refine ⟨retd rfl, hw.fr0⟩

end Go.Proofs.YtlnecfdbmoilbaaDoor.K
