/-
  Walks, printed by w2.py.
-/
import Derived.Test.YtindbpffbjhfaaaDoorHc
import Derived.Test.YtindbpffbjhfaaaDoorQa
import Derived.Test.YtindbpffbjhfaaaDoorQz
import Derived.Test.YtindbpffbjhfaaaDoorProg
namespace Go.Proofs.YtindbpffbjhfaaaDoor.K
set_option linter.unusedVariables false
set_option linter.unusedSimpArgs false

set_option maxRecDepth 100000 in
set_option maxHeartbeats 1000000 in
theorem r17_with (ao1 : Option Addr) (c1 : Nat) (g1 : Nat) (o1 : Nat) (t : List (Int × Int)) (i : Int) (sa : Int) (sg : Int) (w : World) (hh0 : HE.holds w g1 (.fn o1 (o1 + t.length * 2) (slV (gtD t) o1))) (hv1 : (t.length = 0 ∨ ao1 = some ⟨g1, o1, none⟩)) (ht : t.length ≤ 4294967296) (hi : 0 ≤ i ∧ i < (t.length : Int)) :
    Calls Tryd.prog 162 #[.slice ao1 t.length c1, vi i, .agg #[vi sa, vu sg]] w fun e w' => ∃ (ao2 : Option Addr) (c2 : Nat) (g2 : Nat) (o2 : Nat), e = .returned (.slice ao2 ((t.set (Int.toNat i) (sa, sg)).length) c2) ∧ ((t.set (Int.toNat i) (sa, sg)).length = 0 ∨ ao2 = some ⟨g2, o2, none⟩) ∧ (w.heap.size ≤ g2) ∧ HE.holds w' g2 (.fn o2 (o2 + (t.set (Int.toNat i) (sa, sg)).length * 2) (slV (gtD (t.set (Int.toNat i) (sa, sg))) o2)) ∧ Fr w w' no no := by
 refine enter (args := [.slice ao1 t.length c1, vi i, .agg #[vi sa, vu sg]]) (D := no) (A := []) Tryd.func162 rfl 19 rfl [(g1, .fn o1 (o1 + t.length * 2) (slV (gtD t) o1))] (WS.startL ⟨⟨rfl, hh0⟩, trivial⟩) fun ac hS => ?_
 refine hS.regS [0, 0] [0, 1] fun ν1 => seg [(5, pt (ν1 0) 0)] [(0, none), (1, some ((ν1 0), .cells [vi sa, vu sg] 260))] [] trivial fun ac wd hS => ?_
 refine wp_region_seq ?_
 refine hS.opsC 2 [0, 0] [0, 1, 5] fun _ => seg [(9, vi ((t.length : Nat) : Int))] [(0, none), (1, none)] [] trivial fun ac wd hS => ?_
 refine Runs1.list ?_
 obtain ⟨i_, hi_, hz_, hs_, hb_⟩ := info_get (P := Tryd.prog) (e := 260) (z := .agg #[vi 0, vu 0]) (s := 2) (b := 16) (by kernel_rfl)
 refine St.makeV hS 161 (.tmp 9) (.tmp 9) rfl rfl (by decide) Tryd.underlying161 hi_ hz_ hs_ rfl (by omega) (by decide) (q := ((t.length : Nat) : Int)) (q2 := ((t.length : Nat) : Int)) rfl (by omega) (f := (slV (fun _ => (0, 0)) 0)) (slV_zero) fun ac wd gm1 hm2 hS => ?_
 rw [show Int.toNat ((t.length : Nat) : Int) = t.length by omega] at hS
 refine hS.opsC 1 [0] [0, 1, 5] fun _ => seg [(7, sc gm1 0 t.length t.length)] [(0, none), (1, none), (2, none)] [] trivial fun ac wd hS => ?_
 refine list_nil_seq ?_
 refine wp_region_seq ?_
 refine hS.opsC 2 [0, 0] [1, 5, 7] fun _ => seg [(11, sc gm1 0 t.length t.length), (12, .slice ao1 t.length c1)] [(0, none), (1, none), (2, none)] [] trivial fun ac wd hS => ?_
 refine Runs1.list ?_
 obtain ⟨i_, hi_, hz_, hs_, hb_⟩ := info_get (P := Tryd.prog) (e := 260) (z := .agg #[vi 0, vu 0]) (s := 2) (b := 16) (by kernel_rfl)
 refine St.copyW hS (.tmp 11) (.tmp 12) 161 161 rfl rfl (by decide) Tryd.underlying161 hi_ hs_ (b := gm1) (off := 0) (k := t.length) (cp := t.length) (m := (t.length * 2)) (tot := (t.length * 2)) (g := g1) (so := o1) (ks := t.length) (cps := c1) (ak := ao1) (e2 := 260) (f := (slV (fun _ => (0, 0)) 0)) (F := (fun j => (slV (gtD t) o1) (o1 + j))) 2 (by rw [Nat.min_self]; omega) hv1 (by rw [Nat.min_self]; exact CellsV.fn (hS.mem.get 0 g1 (.fn o1 (o1 + t.length * 2) (slV (gtD t) o1))) (by omega) (by omega)) (fun q_ _ => slV_one _ _ _) fun ac wd hS => ?_
 rw [Nat.min_self] at hS
 replace hS := hS.to (hS.mem.tellR 2 (b := gm1) (e := 260) (m := (t.length * 2)) (tot := (t.length * 2)) (f := (segV (slV (fun _ => (0, 0)) 0) 0 (t.length * 2) (fun j => (slV (gtD t) o1) (o1 + j)))) (slV (gtD t) 0) (fun o_ ho_ => (slV_copy (gtD t) (fun _ => (0, 0)) o1 t.length o_ ho_).symm))
 refine list_nil_seq ?_
 refine hS.regS [0, 0, 100, 20, 200] [7] fun _ => seg [] [(2, some (gm1, .row 260 (t.length * 2) (t.length * 2) (fun x => if x = 0 + Int.toNat i * 2 + 1 then vu sg else (fun x => if x = 0 + Int.toNat i * 2 then vi sa else (slV (gtD t) 0) x) x)))] [.e gm1, .p (0 + Int.toNat i * 2 + 1 < (t.length * 2)), .e gm1, .p (0 + Int.toNat i * 2 < (t.length * 2)), .p ((0 : Int) ≤ i ∧ (i : Int) < ((t.length : Nat) : Int)), .e (ν1 0), .e (ν1 0)] ⟨(by omega), (by omega), (by omega), trivial⟩ fun ac wd hS => ?_
 replace hS := hS.to (hS.mem.tellR 0 (b := gm1) (e := 260) (m := (t.length * 2)) (tot := (t.length * 2)) (f := (fun x => if x = 0 + Int.toNat i * 2 + 1 then vu sg else (fun x => if x = 0 + Int.toNat i * 2 then vi sa else (slV (gtD t) 0) x) x)) (slV (updF (gtD t) (Int.toNat i) (sa, sg)) 0) (fun o ho => slV_put (gtD t) (Int.toNat i) sa sg o))
 refine hS.regS [0, 0] [] fun _ => seg [(6, sc gm1 0 t.length t.length)] [(0, none)] [] trivial fun ac wd hS => ?_
 refine wp_ret ?_
 refine St.retC 0 hS (sc gm1 0 t.length t.length) [] trivial fun hw => ?_
 refine ⟨(some ⟨gm1, 0, none⟩), t.length, gm1, 0, retd (slN ?_), (by first | exact (.inr rfl) | exact .inl hz_ | (rw [← hD]; exact (.inr rfl))), (by have hg_ : w.heap.size ≤ gm1 := (hw.getm 0 gm1 (.row 260 (t.length * 2) (t.length * 2) (slV (updF (gtD t) (Int.toNat i) (sa, sg)) 0))).resolve_right (fun h => h); omega), (HE.row_to (hw.get 0 gm1 (.row 260 (t.length * 2) (t.length * 2) (slV (updF (gtD t) (Int.toNat i) (sa, sg)) 0))) ?_ ?_), hw.fr0⟩
 all_goals (first | (first | (simp; done) | exact slV_cg0 (fun k _ => (gtD_set t (Int.toNat i) _ k (by omega)).symm)) | (intro x_ hx_; rfl) | (intro x_ hx_ hy_; rfl))

set_option maxRecDepth 100000 in
set_option maxHeartbeats 1000000 in
theorem r17_find (ao1 : Option Addr) (c1 : Nat) (g1 : Nat) (o1 : Nat) (t : List (Int × Int)) (h : Int) (w : World) (hh0 : HE.holds w g1 (.fn o1 (o1 + t.length * 2) (slV (gtD t) o1))) (hv1 : (t.length = 0 ∨ ao1 = some ⟨g1, o1, none⟩)) (hok : OkT t) :
    Calls Tryd.prog 161 #[.slice ao1 t.length c1, vu h] w fun e w' => e = .returned (vi (rFind t h)) ∧ Fr w w' no no := by
 have hl4 : t.length ≤ 256 := hok.1
 refine enter (args := [.slice ao1 t.length c1, vu h]) (D := no) (A := []) Tryd.func161 rfl 29 rfl [(g1, .fn o1 (o1 + t.length * 2) (slV (gtD t) o1))] (WS.startL ⟨⟨rfl, hh0⟩, trivial⟩) fun ac hS => ?_
 refine hS.regS [0] [0, 1] fun _ => seg [] [(0, none)] [] trivial fun ac wd hS => ?_
 refine wp_seq ?_
 refine hS.regS [0, 0, 0] [1] fun _ => seg [(7, .slice ao1 t.length c1), (8, vi ((t.length : Nat) : Int)), (9, vi 0)] [(0, none)] [] trivial fun ac wd hS => ?_
 refine wp_block ?_
 refine St.loopC (σ := Int) (fun (x9 : Int) => ⟨[(1, [], vu h), (7, [], .slice ao1 t.length c1), (8, [], vi ((t.length : Nat) : Int)), (9, [], vi x9)], [(g1, .fn o1 (o1 + t.length * 2) (slV (gtD t) o1))], [], (0 ≤ x9 ∧ x9 ≤ (t.length : Int)) ∧ (NoUp (rNm t h) x9) ∧ True, t.length - Int.toNat x9⟩) 0 ⟨(by first | omega | exact noUp_zero _), (by first | omega | exact noUp_zero _), trivial⟩ hS ?_
 clear hS
 rintro x9 ⟨i0, i1, -⟩ ac wd hS
 replace i0 : 0 ≤ x9 ∧ x9 ≤ (t.length : Int) := i0
 replace i1 : NoUp (rNm t h) x9 := i1
 refine hS.regS [0] [1, 7, 8, 9] fun _ => seg [(10, vb (decide ((x9 : Int) < ((t.length : Nat) : Int))))] [(0, none)] [] trivial fun ac wd hS => ?_
 refine wp_seq ?_
 refine hS.condC (decide ((x9 : Int) < ((t.length : Nat) : Int))) (fun hb1o hb1 => ?_) (fun hb1o hb1 => ?_)
 ·
  have hr9 := hok.2 _ (show Int.toNat x9 < t.length by omega)
  refine wp_skip ?_
  refine pop_then ?_
  refine wp_seq ?_
  refine wp_block ?_
  obtain rfl : ao1 = some ⟨g1, o1, none⟩ := Or.resolve_left hv1 (by omega)
  refine hS.regS [0, 20, fx 0 (.agg #[vi (((gtD t) (Int.toNat x9)).1), vu (((gtD t) (Int.toNat x9)).2)]), 0, 0, 100] [1, 7, 8, 9] fun ν4 => seg [(5, vi x9), (6, pt (ν4 0) 0)] [(0, none), (1, some ((ν4 0), .cells [vi (((gtD t) (Int.toNat x9)).1), vu (((gtD t) (Int.toNat x9)).2)] 260))] [.e (ν4 0), .e (ν4 0), .p ((.agg #[((slV (gtD t) o1) (o1 + Int.toNat x9 * 2)), ((slV (gtD t) o1) (o1 + Int.toNat x9 * 2 + 1))] : Value) = .agg #[vi (((gtD t) (Int.toNat x9)).1), vu (((gtD t) (Int.toNat x9)).2)]), .e g1, .p (o1 ≤ o1 + Int.toNat x9 * 2 + 1 ∧ o1 + Int.toNat x9 * 2 + 1 < (o1 + t.length * 2)), .e g1, .p (o1 ≤ o1 + Int.toNat x9 * 2 ∧ o1 + Int.toNat x9 * 2 < (o1 + t.length * 2)), .p ((0 : Int) ≤ x9 ∧ (x9 : Int) < ((t.length : Nat) : Int))] ⟨(agg2 (slV_0 (gtD t) o1 (Int.toNat x9)) (slV_1 (gtD t) o1 (Int.toNat x9))), (by omega), (by omega), (by omega), trivial⟩ fun ac wd hS => ?_
  refine hS.regS [0, 100, 0, 0, 3, 3, 103, 23, 3, 23, 23, 3, 80] [1, 5, 7, 8, 9] fun _ => seg [(26, vb ((decide ((0 : Int) < (((gtD t) (Int.toNat x9)).1))) && ((h : Int) == ((256 * (((gtD t) (Int.toNat x9)).2)) + x9))))] [(0, none)] [.p ((((decide ((0 : Int) < (((gtD t) (Int.toNat x9)).1))) = true) ∧ True) → AllP [fit .u64 ((256 * (((gtD t) (Int.toNat x9)).2)) + x9)]), .p ((((decide ((0 : Int) < (((gtD t) (Int.toNat x9)).1))) = true) ∧ True) → AllP [fit .u64 x9]), .p ((((decide ((0 : Int) < (((gtD t) (Int.toNat x9)).1))) = true) ∧ True) → AllP [fit .u64 (256 * (((gtD t) (Int.toNat x9)).2))]), .p ((((decide ((0 : Int) < (((gtD t) (Int.toNat x9)).1))) = true) ∧ True) → AllP [((ν4 0) : Nat) = (ν4 0)]), .e (ν4 0)] ⟨(fun ⟨hc0, _⟩ => by replace hc0 := nrm hc0; exact ⟨fit_u64 (by omega), trivial⟩), (fun ⟨hc0, _⟩ => by replace hc0 := nrm hc0; exact ⟨fit_u64 (by omega), trivial⟩), (fun ⟨hc0, _⟩ => by replace hc0 := nrm hc0; exact ⟨fit_u64 (by omega), trivial⟩), (fun ⟨hc0, _⟩ => by replace hc0 := nrm hc0; exact ⟨rfl, trivial⟩), trivial⟩ fun ac wd hS => ?_
  refine hS.condC ((decide ((0 : Int) < (((gtD t) (Int.toNat x9)).1))) && ((h : Int) == ((256 * (((gtD t) (Int.toNat x9)).2)) + x9))) (fun hb2o hb2 => ?_) (fun hb2o hb2 => ?_)
  ·
   have hn : rNm t h (Int.toNat x9) = true := by unfold rNm; rw [Int.toNat_of_nonneg i0.1]; exact hb2o
   refine hS.regS [0, 0] [] fun _ => seg [(4, vi x9)] [] [] trivial fun ac wd hS => ?_
   refine wp_ret ?_
   refine pop_block_ret ?_
   refine pop_then_ret ?_
   refine pop_then_ret ?_
   refine pop_block_ret ?_
   refine pop_then_ret ?_
   refine St.retC 0 hS (vi x9) [] trivial fun hw => ?_
   refine ⟨retd (vint ?_), hw.fr0⟩
   all_goals (first | exact fIx_at i1 i0.1 (by omega) hn | exact fIx_none i1 (by omega))
  ·
   have hn : rNm t h (Int.toNat x9) = false := by unfold rNm; rw [Int.toNat_of_nonneg i0.1]; exact hb2o
   refine wp_skip ?_
   refine pop_block ?_
   refine pop_then ?_
   refine hS.regC [20, 0] [1, 7, 8] fun _ => seg [(9, vi (x9 + 1))] [(0, none)] [.p (fit .i64 (x9 + 1))] ⟨fit_i64 (by omega), trivial⟩ fun ac wd hS => ?_
   exact pop_then (hS.next (x9 + 1) ⟨(by first | omega | assumption | (simp; done) | (simp; omega)), (by exact noUp_step i1 i0.1 hn), trivial⟩ (by dsimp only; omega))
 ·
  refine wp_exit ?_
  refine pop_then_exit ?_
  refine pop_then_exit ?_
  refine pop_block_hit ?_
  refine pop_then ?_
  refine hS.regS [0] [] fun _ => seg [(4, vi (-1))] [] [] trivial fun ac wd hS => ?_
  refine wp_ret ?_
  refine St.retC 0 hS (vi (-1)) [] trivial fun hw => ?_
  refine ⟨retd (vint ?_), hw.fr0⟩
  all_goals (first | exact fIx_at i1 i0.1 (by omega) hn | exact fIx_none i1 (by omega))

set_option maxRecDepth 100000 in
set_option maxHeartbeats 1000000 in
theorem r17_Get (ao1 : Option Addr) (c1 : Nat) (g1 : Nat) (o1 : Nat) (t : List (Int × Int)) (h : Int) (w : World) (hh0 : HE.holds w g1 (.fn o1 (o1 + t.length * 2) (slV (gtD t) o1))) (hv1 : (t.length = 0 ∨ ao1 = some ⟨g1, o1, none⟩)) (hok : OkT t) :
    Calls Tryd.prog 87 #[.slice ao1 t.length c1, vu h] w fun e w' => e = .returned (.tuple #[vi (rGetA t h), vi (rGetE t h)]) ∧ Fr w w' no no := by
 have hf := rFind_rng t h
 refine enter (args := [.slice ao1 t.length c1, vu h]) (D := no) (A := []) Tryd.func87 rfl 17 rfl [(g1, .fn o1 (o1 + t.length * 2) (slV (gtD t) o1))] (WS.startL ⟨⟨rfl, hh0⟩, trivial⟩) fun ac hS => ?_
 refine hS.regS [0, 0] [0, 1] fun _ => seg [] [(0, none)] [] trivial fun ac wd hS => ?_
 refine wp_region_seq ?_
 refine hS.opsC 2 [0, 0] [0] fun _ => seg [(7, .slice ao1 t.length c1), (8, vu h)] [(0, none)] [] trivial fun ac wd hS => ?_
 refine hS.call0 161 #[.slice ao1 t.length c1, vu h] 9 (r17_find ao1 c1 g1 o1 t h _ (hS.mem.get 0 g1 (.fn o1 (o1 + t.length * 2) (slV (gtD t) o1))) hv1 (by first | assumption | omega | (simp_all; done) | (simp_all; omega))) fun ac wd hS => ?_
 refine hS.opsC 1 [0] [0] fun _ => seg [(6, vi (rFind t h))] [(0, none)] [] trivial fun ac wd hS => ?_
 refine list_nil_seq ?_
 refine wp_seq ?_
 refine hS.regS [0, 0] [0, 6] fun _ => seg [(11, vb (decide (((rFind t h) : Int) < 0)))] [(0, none)] [] trivial fun ac wd hS => ?_
 refine hS.condC (decide (((rFind t h) : Int) < 0)) (fun hb1o hb1 => ?_) (fun hb1o hb1 => ?_)
 ·
  refine hS.regS [0, 0] [] fun _ => seg [(4, vi 0), (5, vi 6)] [] [] trivial fun ac wd hS => ?_
  refine wp_ret ?_
  refine pop_then_ret ?_
  refine St.retC 0 hS (.tuple #[vi 0, vi 6]) [] trivial fun hw => ?_
  refine ⟨retd (tuple2 (vint ?_) (vint ?_)), hw.fr0⟩
  all_goals (first | (unfold rGetA; rw [if_pos (by omega)]; done) | (unfold rGetA; rw [if_neg (by omega)]; done) | (unfold rGetE; rw [if_pos (by omega)]; done) | (unfold rGetE; rw [if_neg (by omega)]; done))
 ·
  refine wp_skip ?_
  refine pop_then ?_
  obtain rfl : ao1 = some ⟨g1, o1, none⟩ := Or.resolve_left hv1 (by omega)
  refine hS.regS [0, 0, 20, 0, fx 0 (vi (((gtD t) (Int.toNat (rFind t h))).1)), 0, 0] [] fun _ => seg [(4, vi (((gtD t) (Int.toNat (rFind t h))).1)), (5, vi 0)] [] [.p ((((slV (gtD t) o1) (o1 + Int.toNat (rFind t h) * 2)) : Value) = vi (((gtD t) (Int.toNat (rFind t h))).1)), .e g1, .p (o1 ≤ o1 + Int.toNat (rFind t h) * 2 ∧ o1 + Int.toNat (rFind t h) * 2 < (o1 + t.length * 2)), .p ((0 : Int) ≤ (rFind t h) ∧ ((rFind t h) : Int) < ((t.length : Nat) : Int))] ⟨((slV_0 (gtD t) o1 (Int.toNat (rFind t h)))), (by omega), (by omega), trivial⟩ fun ac wd hS => ?_
  refine wp_ret ?_
  refine St.retC 0 hS (.tuple #[vi (((gtD t) (Int.toNat (rFind t h))).1), vi 0]) [] trivial fun hw => ?_
  refine ⟨retd (tuple2 (vint ?_) (vint ?_)), hw.fr0⟩
  all_goals (first | (unfold rGetA; rw [if_pos (by omega)]; done) | (unfold rGetA; rw [if_neg (by omega)]; done) | (unfold rGetE; rw [if_pos (by omega)]; done) | (unfold rGetE; rw [if_neg (by omega)]; done))

set_option maxRecDepth 100000 in
set_option maxHeartbeats 1000000 in
theorem r17_Drop (ao1 : Option Addr) (c1 : Nat) (g1 : Nat) (o1 : Nat) (t : List (Int × Int)) (h : Int) (w : World) (hh0 : HE.holds w g1 (.fn o1 (o1 + t.length * 2) (slV (gtD t) o1))) (hv1 : (t.length = 0 ∨ ao1 = some ⟨g1, o1, none⟩)) (hok : OkT t) :
    Calls Tryd.prog 83 #[.slice ao1 t.length c1, vu h] w fun e w' => ∃ (ao2 : Option Addr) (c2 : Nat) (g2 : Nat) (o2 : Nat), e = .returned (.tuple #[.slice ao2 ((rDroT t h).length) c2, vi (rGetE t h)]) ∧ ((rDroT t h).length = 0 ∨ ao2 = some ⟨g2, o2, none⟩) ∧ (g2 = g1 ∨ w.heap.size ≤ g2) ∧ HE.holds w' g2 (.fn o2 (o2 + (rDroT t h).length * 2) (slV (gtD (rDroT t h)) o2)) ∧ Fr w w' no no := by
 have hf := rFind_rng t h
 have hl4 : t.length ≤ 256 := hok.1
 refine enter (args := [.slice ao1 t.length c1, vu h]) (D := no) (A := []) Tryd.func83 rfl 22 rfl [(g1, .fn o1 (o1 + t.length * 2) (slV (gtD t) o1))] (WS.startL ⟨⟨rfl, hh0⟩, trivial⟩) fun ac hS => ?_
 refine hS.regS [0, 0] [0, 1] fun _ => seg [] [(0, none)] [] trivial fun ac wd hS => ?_
 refine wp_region_seq ?_
 refine hS.opsC 2 [0, 0] [0] fun _ => seg [(7, .slice ao1 t.length c1), (8, vu h)] [(0, none)] [] trivial fun ac wd hS => ?_
 refine hS.call0 161 #[.slice ao1 t.length c1, vu h] 9 (r17_find ao1 c1 g1 o1 t h _ (hS.mem.get 0 g1 (.fn o1 (o1 + t.length * 2) (slV (gtD t) o1))) hv1 (by first | assumption | omega | (simp_all; done) | (simp_all; omega))) fun ac wd hS => ?_
 refine hS.opsC 1 [0] [0] fun _ => seg [(6, vi (rFind t h))] [(0, none)] [] trivial fun ac wd hS => ?_
 refine list_nil_seq ?_
 refine wp_seq ?_
 refine hS.regS [0, 0] [0, 6] fun _ => seg [(11, vb (decide (((rFind t h) : Int) < 0)))] [(0, none)] [] trivial fun ac wd hS => ?_
 refine hS.condC (decide (((rFind t h) : Int) < 0)) (fun hb1o hb1 => ?_) (fun hb1o hb1 => ?_)
 ·
  have hD := (rDro_1 (t := t) (h := h) (by omega)).1
  have hE := (rDro_1 (t := t) (h := h) (by omega)).2
  refine hS.regS [0, 0, 0] [] fun _ => seg [(4, .slice ao1 t.length c1), (5, vi 6)] [(0, none)] [] trivial fun ac wd hS => ?_
  refine wp_ret ?_
  refine pop_then_ret ?_
  refine St.retC 0 hS (.tuple #[.slice ao1 t.length c1, vi 6]) [] trivial fun hw => ?_
  refine ⟨ao1, c1, g1, o1, retd (tuple2 (slN ?_) (vint ?_)), (by first | exact hv1 | exact .inl hz_ | (rw [← hD]; exact hv1)), (by omega), (HE.fn_to (hw.get 0 g1 (.fn o1 (o1 + t.length * 2) (slV (gtD t) o1))) ?_ ?_), hw.fr0⟩
  all_goals (first | (first | rfl | (rw [← hD]; done) | (intro x_ _ _; rw [← hD]) | exact hE | exact hV) | (intro x_ hx_; rfl) | (intro x_ hx_ hy_; rfl))
 ·
  have hD := (rDro_2 (t := t) (h := h) (by omega)).1
  have hE := (rDro_2 (t := t) (h := h) (by omega)).2
  refine wp_skip ?_
  refine pop_then ?_
  obtain rfl : ao1 = some ⟨g1, o1, none⟩ := Or.resolve_left hv1 (by omega)
  refine wp_region_seq ?_
  refine hS.opsC 8 [0, 0, 0, 0, 20, 0, fx 0 (vu (((gtD t) (Int.toNat (rFind t h))).2)), 0] [] fun _ => seg [(13, sc g1 o1 t.length c1), (14, vi (rFind t h)), (20, .agg #[vi 0, vu (((gtD t) (Int.toNat (rFind t h))).2)])] [(0, none)] [.p ((((slV (gtD t) o1) (o1 + Int.toNat (rFind t h) * 2 + 1)) : Value) = vu (((gtD t) (Int.toNat (rFind t h))).2)), .e g1, .p (o1 ≤ o1 + Int.toNat (rFind t h) * 2 + 1 ∧ o1 + Int.toNat (rFind t h) * 2 + 1 < (o1 + t.length * 2)), .p ((0 : Int) ≤ (rFind t h) ∧ ((rFind t h) : Int) < ((t.length : Nat) : Int))] ⟨((slV_1 (gtD t) o1 (Int.toNat (rFind t h)))), (by omega), (by omega), trivial⟩ fun ac wd hS => ?_
  refine hS.callC 162 #[sc g1 o1 t.length c1, vi (rFind t h), .agg #[vi 0, vu (((gtD t) (Int.toNat (rFind t h))).2)]] (r17_with (some ⟨g1, o1, none⟩) c1 g1 o1 t (rFind t h) 0 (((gtD t) (Int.toNat (rFind t h))).2) _ (hS.mem.get 0 g1 (.fn o1 (o1 + t.length * 2) (slV (gtD t) o1))) (.inr rfl) (by first | assumption | omega | (simp_all; done) | (simp_all; omega)) (by first | assumption | omega | (simp_all; done) | (simp_all; omega))) ?_
  rintro _ wd ⟨ao22, c23, g24, o25, rfl, hv26, hog0, hoh0, hF⟩
  have ho7 : w.heap.size ≤ g24 := by have := hS.mem.fr.size; have : w.heap.size ≤ _ := this; omega
  refine ⟨.slice ao22 ((t.set (Int.toNat (rFind t h)) (0, (((gtD t) (Int.toNat (rFind t h))).2))).length) c23, rfl, ?_⟩
  replace hS := (hS.to (hS.mem.outs hF [(g24, .fn o25 (o25 + (t.set (Int.toNat (rFind t h)) (0, (((gtD t) (Int.toNat (rFind t h))).2))).length * 2) (slV (gtD (t.set (Int.toNat (rFind t h)) (0, (((gtD t) (Int.toNat (rFind t h))).2)))) o25))] ⟨⟨rfl, hoh0, (fun q_ => .inr q_) hog0⟩, trivial⟩)).put (d := 21) (v := .slice ao22 ((t.set (Int.toNat (rFind t h)) (0, (((gtD t) (Int.toNat (rFind t h))).2))).length) c23) (by decide)
  clear hF
  refine hS.opsC 2 [0, 0] [] fun _ => seg [(4, .slice ao22 ((t.set (Int.toNat (rFind t h)) (0, (((gtD t) (Int.toNat (rFind t h))).2))).length) c23), (5, vi 0)] [(1, none)] [] trivial fun ac wd hS => ?_
  refine list_nil_seq ?_
  refine wp_ret ?_
  refine St.retC 0 hS (.tuple #[.slice ao22 ((t.set (Int.toNat (rFind t h)) (0, (((gtD t) (Int.toNat (rFind t h))).2))).length) c23, vi 0]) [] trivial fun hw => ?_
  refine ⟨ao22, c23, g24, o25, retd (tuple2 (slN ?_) (vint ?_)), (by first | exact hv26 | exact .inl hz_ | (rw [← hD]; exact hv26)), (by omega), (HE.fn_to (hw.get 0 g24 (.fn o25 (o25 + (t.set (Int.toNat (rFind t h)) (0, (((gtD t) (Int.toNat (rFind t h))).2))).length * 2) (slV (gtD (t.set (Int.toNat (rFind t h)) (0, (((gtD t) (Int.toNat (rFind t h))).2)))) o25))) ?_ ?_), hw.fr0⟩
  all_goals (first | (first | rfl | (rw [← hD]; done) | (intro x_ _ _; rw [← hD]) | exact hE | exact hV) | (intro x_ hx_; rfl) | (intro x_ hx_ hy_; rfl))

set_option maxRecDepth 100000 in
set_option maxHeartbeats 1000000 in
theorem r17_Move (ao1 : Option Addr) (c1 : Nat) (g1 : Nat) (o1 : Nat) (t : List (Int × Int)) (h : Int) (a : Int) (w : World) (hh0 : HE.holds w g1 (.fn o1 (o1 + t.length * 2) (slV (gtD t) o1))) (hv1 : (t.length = 0 ∨ ao1 = some ⟨g1, o1, none⟩)) (hok : OkT t) :
    Calls Tryd.prog 85 #[.slice ao1 t.length c1, vu h, vi a] w fun e w' => ∃ (ao2 : Option Addr) (c2 : Nat) (g2 : Nat) (o2 : Nat), e = .returned (.tuple #[.slice ao2 ((rMovT t h a).length) c2, vi (rMovE t h a)]) ∧ ((rMovT t h a).length = 0 ∨ ao2 = some ⟨g2, o2, none⟩) ∧ (g2 = g1 ∨ w.heap.size ≤ g2) ∧ HE.holds w' g2 (.fn o2 (o2 + (rMovT t h a).length * 2) (slV (gtD (rMovT t h a)) o2)) ∧ Fr w w' no no := by
 have hf := rFind_rng t h
 have hl4 : t.length ≤ 256 := hok.1
 refine enter (args := [.slice ao1 t.length c1, vu h, vi a]) (D := no) (A := []) Tryd.func85 rfl 28 rfl [(g1, .fn o1 (o1 + t.length * 2) (slV (gtD t) o1))] (WS.startL ⟨⟨rfl, hh0⟩, trivial⟩) fun ac hS => ?_
 refine hS.regS [0, 0] [0, 1, 2] fun _ => seg [] [(0, none)] [] trivial fun ac wd hS => ?_
 refine wp_seq ?_
 refine hS.regS [0, 0] [0, 1, 2] fun _ => seg [(10, vb (decide ((a : Int) < 1)))] [(0, none)] [] trivial fun ac wd hS => ?_
 refine hS.condC (decide ((a : Int) < 1)) (fun hb1o hb1 => ?_) (fun hb1o hb1 => ?_)
 ·
  obtain ⟨hD, hE⟩ := rMov_0 (t := t) (h := h) (a := a) (by omega)
  refine hS.regS [0, 0, 0] [] fun _ => seg [(6, .slice ao1 t.length c1), (7, vi 2)] [(0, none)] [] trivial fun ac wd hS => ?_
  refine wp_ret ?_
  refine pop_then_ret ?_
  refine St.retC 0 hS (.tuple #[.slice ao1 t.length c1, vi 2]) [] trivial fun hw => ?_
  refine ⟨ao1, c1, g1, o1, retd (tuple2 (slN ?_) (vint ?_)), (by first | exact hv1 | exact .inl hz_ | (rw [← hD]; exact hv1)), (by omega), (HE.fn_to (hw.get 0 g1 (.fn o1 (o1 + t.length * 2) (slV (gtD t) o1))) ?_ ?_), hw.fr0⟩
  all_goals (first | (first | rfl | (rw [← hD]; done) | (intro x_ _ _; rw [← hD]) | exact hE | exact hV) | (intro x_ hx_; rfl) | (intro x_ hx_ hy_; rfl))
 ·
  refine wp_skip ?_
  refine pop_then ?_
  refine wp_region_seq ?_
  refine hS.opsC 2 [0, 0] [0, 2] fun _ => seg [(12, .slice ao1 t.length c1), (13, vu h)] [(0, none)] [] trivial fun ac wd hS => ?_
  refine hS.call0 161 #[.slice ao1 t.length c1, vu h] 14 (r17_find ao1 c1 g1 o1 t h _ (hS.mem.get 0 g1 (.fn o1 (o1 + t.length * 2) (slV (gtD t) o1))) hv1 (by first | assumption | omega | (simp_all; done) | (simp_all; omega))) fun ac wd hS => ?_
  refine hS.opsC 1 [0] [0, 2] fun _ => seg [(8, vi (rFind t h))] [(0, none)] [] trivial fun ac wd hS => ?_
  refine list_nil_seq ?_
  refine wp_seq ?_
  refine hS.regS [0, 0] [0, 2, 8] fun _ => seg [(16, vb (decide (((rFind t h) : Int) < 0)))] [(0, none)] [] trivial fun ac wd hS => ?_
  refine hS.condC (decide (((rFind t h) : Int) < 0)) (fun hb2o hb2 => ?_) (fun hb2o hb2 => ?_)
  ·
   obtain ⟨hD, hE⟩ := rMov_1 (t := t) (h := h) (a := a) (by omega) (by omega)
   refine hS.regS [0, 0, 0] [] fun _ => seg [(6, .slice ao1 t.length c1), (7, vi 6)] [(0, none)] [] trivial fun ac wd hS => ?_
   refine wp_ret ?_
   refine pop_then_ret ?_
   refine St.retC 0 hS (.tuple #[.slice ao1 t.length c1, vi 6]) [] trivial fun hw => ?_
   refine ⟨ao1, c1, g1, o1, retd (tuple2 (slN ?_) (vint ?_)), (by first | exact hv1 | exact .inl hz_ | (rw [← hD]; exact hv1)), (by omega), (HE.fn_to (hw.get 0 g1 (.fn o1 (o1 + t.length * 2) (slV (gtD t) o1))) ?_ ?_), hw.fr0⟩
   all_goals (first | (first | rfl | (rw [← hD]; done) | (intro x_ _ _; rw [← hD]) | exact hE | exact hV) | (intro x_ hx_; rfl) | (intro x_ hx_ hy_; rfl))
  ·
   obtain ⟨hD, hE⟩ := rMov_2 (t := t) (h := h) (a := a) (by omega) (by omega)
   refine wp_skip ?_
   refine pop_then ?_
   obtain rfl : ao1 = some ⟨g1, o1, none⟩ := Or.resolve_left hv1 (by omega)
   refine wp_region_seq ?_
   refine hS.opsC 9 [0, 0, 0, 0, 0, 20, 0, fx 0 (vu (((gtD t) (Int.toNat (rFind t h))).2)), 0] [] fun _ => seg [(18, sc g1 o1 t.length c1), (19, vi (rFind t h)), (26, .agg #[vi a, vu (((gtD t) (Int.toNat (rFind t h))).2)])] [(0, none)] [.p ((((slV (gtD t) o1) (o1 + Int.toNat (rFind t h) * 2 + 1)) : Value) = vu (((gtD t) (Int.toNat (rFind t h))).2)), .e g1, .p (o1 ≤ o1 + Int.toNat (rFind t h) * 2 + 1 ∧ o1 + Int.toNat (rFind t h) * 2 + 1 < (o1 + t.length * 2)), .p ((0 : Int) ≤ (rFind t h) ∧ ((rFind t h) : Int) < ((t.length : Nat) : Int))] ⟨((slV_1 (gtD t) o1 (Int.toNat (rFind t h)))), (by omega), (by omega), trivial⟩ fun ac wd hS => ?_
   refine hS.callC 162 #[sc g1 o1 t.length c1, vi (rFind t h), .agg #[vi a, vu (((gtD t) (Int.toNat (rFind t h))).2)]] (r17_with (some ⟨g1, o1, none⟩) c1 g1 o1 t (rFind t h) a (((gtD t) (Int.toNat (rFind t h))).2) _ (hS.mem.get 0 g1 (.fn o1 (o1 + t.length * 2) (slV (gtD t) o1))) (.inr rfl) (by first | assumption | omega | (simp_all; done) | (simp_all; omega)) (by first | assumption | omega | (simp_all; done) | (simp_all; omega))) ?_
   rintro _ wd ⟨ao23, c24, g25, o26, rfl, hv27, hog0, hoh0, hF⟩
   have ho8 : w.heap.size ≤ g25 := by have := hS.mem.fr.size; have : w.heap.size ≤ _ := this; omega
   refine ⟨.slice ao23 ((t.set (Int.toNat (rFind t h)) (a, (((gtD t) (Int.toNat (rFind t h))).2))).length) c24, rfl, ?_⟩
   replace hS := (hS.to (hS.mem.outs hF [(g25, .fn o26 (o26 + (t.set (Int.toNat (rFind t h)) (a, (((gtD t) (Int.toNat (rFind t h))).2))).length * 2) (slV (gtD (t.set (Int.toNat (rFind t h)) (a, (((gtD t) (Int.toNat (rFind t h))).2)))) o26))] ⟨⟨rfl, hoh0, (fun q_ => .inr q_) hog0⟩, trivial⟩)).put (d := 27) (v := .slice ao23 ((t.set (Int.toNat (rFind t h)) (a, (((gtD t) (Int.toNat (rFind t h))).2))).length) c24) (by decide)
   clear hF
   refine hS.opsC 2 [0, 0] [] fun _ => seg [(6, .slice ao23 ((t.set (Int.toNat (rFind t h)) (a, (((gtD t) (Int.toNat (rFind t h))).2))).length) c24), (7, vi 0)] [(1, none)] [] trivial fun ac wd hS => ?_
   refine list_nil_seq ?_
   refine wp_ret ?_
   refine St.retC 0 hS (.tuple #[.slice ao23 ((t.set (Int.toNat (rFind t h)) (a, (((gtD t) (Int.toNat (rFind t h))).2))).length) c24, vi 0]) [] trivial fun hw => ?_
   refine ⟨ao23, c24, g25, o26, retd (tuple2 (slN ?_) (vint ?_)), (by first | exact hv27 | exact .inl hz_ | (rw [← hD]; exact hv27)), (by omega), (HE.fn_to (hw.get 0 g25 (.fn o26 (o26 + (t.set (Int.toNat (rFind t h)) (a, (((gtD t) (Int.toNat (rFind t h))).2))).length * 2) (slV (gtD (t.set (Int.toNat (rFind t h)) (a, (((gtD t) (Int.toNat (rFind t h))).2)))) o26))) ?_ ?_), hw.fr0⟩
   all_goals (first | (first | rfl | (rw [← hD]; done) | (intro x_ _ _; rw [← hD]) | exact hE | exact hV) | (intro x_ hx_; rfl) | (intro x_ hx_ hy_; rfl))

set_option maxRecDepth 100000 in
set_option maxHeartbeats 1000000 in
theorem r17_New (ao1 : Option Addr) (c1 : Nat) (g1 : Nat) (o1 : Nat) (t : List (Int × Int)) (a : Int) (w : World) (hh0 : HE.holds w g1 (.fn o1 (o1 + t.length * 2) (slV (gtD t) o1))) (hv1 : (t.length = 0 ∨ ao1 = some ⟨g1, o1, none⟩)) (hok : OkT t) :
    Calls Tryd.prog 89 #[.slice ao1 t.length c1, vi a] w fun e w' => ∃ (ao2 : Option Addr) (c2 : Nat) (g2 : Nat) (o2 : Nat), e = .returned (.tuple #[.slice ao2 ((rNewT t a).length) c2, vu (rNewV t a), vi (rNewE t a)]) ∧ ((rNewT t a).length = 0 ∨ ao2 = some ⟨g2, o2, none⟩) ∧ (g2 = g1 ∨ w.heap.size ≤ g2) ∧ HE.holds w' g2 (.fn o2 (o2 + (rNewT t a).length * 2) (slV (gtD (rNewT t a)) o2)) ∧ Fr w w' no no := by
 have hl4 : t.length ≤ 256 := hok.1
 refine enter (args := [.slice ao1 t.length c1, vi a]) (D := no) (A := []) Tryd.func89 rfl 44 rfl [(g1, .fn o1 (o1 + t.length * 2) (slV (gtD t) o1))] (WS.startL ⟨⟨rfl, hh0⟩, trivial⟩) fun ac hS => ?_
 refine hS.regS [0, 0, 0] [0, 1] fun _ => seg [] [(0, none)] [] trivial fun ac wd hS => ?_
 refine wp_seq ?_
 refine hS.regS [0, 0] [0, 1] fun _ => seg [(10, vb (decide ((a : Int) < 1)))] [(0, none)] [] trivial fun ac wd hS => ?_
 refine hS.condC (decide ((a : Int) < 1)) (fun hb1o hb1 => ?_) (fun hb1o hb1 => ?_)
 ·
  obtain ⟨hD, hV, hE⟩ := rNew_0 (t := t) (a := a) (by omega)
  refine hS.regS [0, 0, 0, 0] [] fun _ => seg [(4, .slice ao1 t.length c1), (5, vu 0), (6, vi 2)] [(0, none)] [] trivial fun ac wd hS => ?_
  refine wp_ret ?_
  refine pop_then_ret ?_
  refine St.retC 0 hS (.tuple #[.slice ao1 t.length c1, vu 0, vi 2]) [] trivial fun hw => ?_
  refine ⟨ao1, c1, g1, o1, retd (tuple3 (slN ?_) (vint ?_) (vint ?_)), (by first | exact hv1 | exact .inl hz_ | (rw [← hD]; exact hv1)), (by omega), (HE.fn_to (hw.get 0 g1 (.fn o1 (o1 + t.length * 2) (slV (gtD t) o1))) ?_ ?_), hw.fr0⟩
  all_goals (first | (first | rfl | (rw [← hD]; done) | (intro x_ _ _; rw [← hD]) | exact hE | exact hV) | (intro x_ hx_; rfl) | (intro x_ hx_ hy_; rfl))
 ·
  refine wp_skip ?_
  refine pop_then ?_
  refine wp_seq ?_
  refine hS.regS [0, 0, 0] [0, 1] fun _ => seg [(12, .slice ao1 t.length c1), (13, vi ((t.length : Nat) : Int)), (14, vi 0)] [(0, none)] [] trivial fun ac wd hS => ?_
  refine wp_block ?_
  refine St.loopC (σ := Int) (fun (x14 : Int) => ⟨[(0, [], .slice ao1 t.length c1), (1, [], vi a), (12, [], .slice ao1 t.length c1), (13, [], vi ((t.length : Nat) : Int)), (14, [], vi x14)], [(g1, .fn o1 (o1 + t.length * 2) (slV (gtD t) o1))], [], (0 ≤ x14 ∧ x14 ≤ (t.length : Int)) ∧ (NoUp (rFree t) x14) ∧ True, t.length - Int.toNat x14⟩) 0 ⟨(by first | omega | exact noUp_zero _), (by first | omega | exact noUp_zero _), trivial⟩ hS ?_
  clear hS
  rintro x14 ⟨i0, i1, -⟩ ac wd hS
  replace i0 : 0 ≤ x14 ∧ x14 ≤ (t.length : Int) := i0
  replace i1 : NoUp (rFree t) x14 := i1
  refine hS.regS [0] [0, 1, 12, 13, 14] fun _ => seg [(15, vb (decide ((x14 : Int) < ((t.length : Nat) : Int))))] [(0, none)] [] trivial fun ac wd hS => ?_
  refine wp_seq ?_
  refine hS.condC (decide ((x14 : Int) < ((t.length : Nat) : Int))) (fun hb2o hb2 => ?_) (fun hb2o hb2 => ?_)
  ·
   have hr9 := hok.2 _ (show Int.toNat x14 < t.length by omega)
   refine wp_skip ?_
   refine pop_then ?_
   refine wp_seq ?_
   refine wp_block ?_
   obtain rfl : ao1 = some ⟨g1, o1, none⟩ := Or.resolve_left hv1 (by omega)
   refine hS.regS [0, 20, fx 0 (.agg #[vi (((gtD t) (Int.toNat x14)).1), vu (((gtD t) (Int.toNat x14)).2)]), 0, 0, 100] [0, 1, 12, 13, 14] fun ν6 => seg [(7, vi x14), (8, pt (ν6 0) 0)] [(0, none), (1, some ((ν6 0), .cells [vi (((gtD t) (Int.toNat x14)).1), vu (((gtD t) (Int.toNat x14)).2)] 260))] [.e (ν6 0), .e (ν6 0), .p ((.agg #[((slV (gtD t) o1) (o1 + Int.toNat x14 * 2)), ((slV (gtD t) o1) (o1 + Int.toNat x14 * 2 + 1))] : Value) = .agg #[vi (((gtD t) (Int.toNat x14)).1), vu (((gtD t) (Int.toNat x14)).2)]), .e g1, .p (o1 ≤ o1 + Int.toNat x14 * 2 + 1 ∧ o1 + Int.toNat x14 * 2 + 1 < (o1 + t.length * 2)), .e g1, .p (o1 ≤ o1 + Int.toNat x14 * 2 ∧ o1 + Int.toNat x14 * 2 < (o1 + t.length * 2)), .p ((0 : Int) ≤ x14 ∧ (x14 : Int) < ((t.length : Nat) : Int))] ⟨(agg2 (slV_0 (gtD t) o1 (Int.toNat x14)) (slV_1 (gtD t) o1 (Int.toNat x14))), (by omega), (by omega), (by omega), trivial⟩ fun ac wd hS => ?_
   refine hS.regS [0, 100, 0, 0, 3, 103, 3, 80] [0, 1, 7, 8, 12, 13, 14] fun _ => seg [(26, vb (((((gtD t) (Int.toNat x14)).1 : Int) == 0) && (decide ((((gtD t) (Int.toNat x14)).2 : Int) < 72057594037927935))))] [(0, none), (1, none)] [.p (((((((gtD t) (Int.toNat x14)).1 : Int) == 0) = true) ∧ True) → AllP [((ν6 0) : Nat) = (ν6 0)]), .e (ν6 0)] ⟨(fun ⟨hc0, _⟩ => by replace hc0 := nrm hc0; exact ⟨rfl, trivial⟩), trivial⟩ fun ac wd hS => ?_
   refine hS.condC (((((gtD t) (Int.toNat x14)).1 : Int) == 0) && (decide ((((gtD t) (Int.toNat x14)).2 : Int) < 72057594037927935))) (fun hb3o hb3 => ?_) (fun hb3o hb3 => ?_)
   ·
    have hn : rFree t (Int.toNat x14) = true := hb3o
    have hx : x14 = rNewI t := fIx_at i1 i0.1 (by omega) hn
    obtain ⟨hD, hV, hE⟩ := rNew_2 (t := t) (a := a) (by omega) hx i0.1
    have hg56 : (gtD t (Int.toNat x14)).2 < 72057594037927935 := by have h9 := hn; unfold rFree at h9; simp at h9; exact h9.2
    refine St.ordBeginS [(0, 1), (1, 1), (2, 1), (3, 1), (4, 1), (5, 1), (6, 1), (8, 1), (9, 1), (10, 1), (11, 1), (12, 1), (13, 1), (14, 1), (7, 0), (15, 1), (16, 1), (17, 1)] [(g1, .fn o1 (o1 + t.length * 2) (slV (gtD t) o1)), ((ν6 0), .cells [vi (((gtD t) (Int.toNat x14)).1), vu (((gtD t) (Int.toNat x14)).2)] 260)] [0, 1] hS fun wd hS => ?_
    have hap := hS.mem.pairs (Hf := [(g1, .fn o1 (o1 + t.length * 2) (slV (gtD t) o1)), ((ν6 0), .cells [vi (((gtD t) (Int.toNat x14)).1), vu (((gtD t) (Int.toNat x14)).2)] 260)]) (l := [0, 1])
    refine St.ordF [0, 0, 0, 0, 100, 20, 0, 0, 100, 20, 20, 0, 20, 20] [0, 1, 2, 3, 4, 5, 6, 8, 9, 10, 11, 12, 13, 14] [] (rest := [(7, 0), (15, 1), (16, 1), (17, 1)]) hS hap <| segF [(27, sc g1 o1 t.length c1), (28, vi x14), (33, .agg #[vi a, vu ((((gtD t) (Int.toNat x14)).2) + 1)]), (41, vu ((256 * ((((gtD t) (Int.toNat x14)).2) + 1)) + x14))] [.p (fit .u64 ((256 * ((((gtD t) (Int.toNat x14)).2) + 1)) + x14)), .p (fit .u64 x14), .p (fit .u64 (256 * ((((gtD t) (Int.toNat x14)).2) + 1))), .p (fit .u64 ((((gtD t) (Int.toNat x14)).2) + 1)), .e (ν6 0), .p (fit .u64 ((((gtD t) (Int.toNat x14)).2) + 1)), .e (ν6 0)] ⟨fit_u64 (by omega), fit_u64 (by omega), fit_u64 (by omega), fit_u64 (by omega), fit_u64 (by omega), trivial⟩ fun ac hS => ?_
    refine hS.ordC 7 162 #[sc g1 o1 t.length c1, vi x14, .agg #[vi a, vu ((((gtD t) (Int.toNat x14)).2) + 1)]] (r17_with (some ⟨g1, o1, none⟩) c1 g1 o1 t x14 a ((((gtD t) (Int.toNat x14)).2) + 1) _ (hS.mem.get 0 g1 (.fn o1 (o1 + t.length * 2) (slV (gtD t) o1))) (.inr rfl) (by first | assumption | omega | (simp_all; done) | (simp_all; omega)) (by first | assumption | omega | (simp_all; done) | (simp_all; omega))) ?_
    rintro _ wd ⟨ao24, c25, g26, o27, rfl, hv28, hog0, hoh0, hF⟩
    have ho9 : w.heap.size ≤ g26 := by have := hS.mem.fr.size; have : w.heap.size ≤ _ := this; omega
    refine ⟨.slice ao24 ((t.set (Int.toNat x14) (a, ((((gtD t) (Int.toNat x14)).2) + 1))).length) c25, rfl, ?_⟩
    replace hS := (hS.to (hS.mem.outs hF [(g26, .fn o27 (o27 + (t.set (Int.toNat x14) (a, ((((gtD t) (Int.toNat x14)).2) + 1))).length * 2) (slV (gtD (t.set (Int.toNat x14) (a, ((((gtD t) (Int.toNat x14)).2) + 1)))) o27))] ⟨⟨rfl, hoh0, (fun q_ => .inr q_) hog0⟩, trivial⟩)).put (d := 34) (v := .slice ao24 ((t.set (Int.toNat x14) (a, ((((gtD t) (Int.toNat x14)).2) + 1))).length) c25) (by decide)
    clear hF
    refine hS.ordV (l := [0, 1]) ?_
    refine St.ordF [0, 0, 0] [15, 16, 17] [] (rest := []) hS hap <| segF [(4, .slice ao24 ((t.set (Int.toNat x14) (a, ((((gtD t) (Int.toNat x14)).2) + 1))).length) c25), (5, vu ((256 * ((((gtD t) (Int.toNat x14)).2) + 1)) + x14)), (6, vi 0)] [] trivial fun ac hS => ?_
    refine ord_nil ?_
    refine wp_ret ?_
    refine pop_block_ret ?_
    refine pop_then_ret ?_
    refine pop_then_ret ?_
    refine pop_block_ret ?_
    refine pop_then_ret ?_
    refine St.retC 0 hS (.tuple #[.slice ao24 ((t.set (Int.toNat x14) (a, ((((gtD t) (Int.toNat x14)).2) + 1))).length) c25, vu ((256 * ((((gtD t) (Int.toNat x14)).2) + 1)) + x14), vi 0]) [] trivial fun hw => ?_
    refine ⟨ao24, c25, g26, o27, retd (tuple3 (slN ?_) (vint ?_) (vint ?_)), (by first | exact hv28 | exact .inl hz_ | (rw [← hD]; exact hv28)), (by omega), (HE.fn_to (hw.get 2 g26 (.fn o27 (o27 + (t.set (Int.toNat x14) (a, ((((gtD t) (Int.toNat x14)).2) + 1))).length * 2) (slV (gtD (t.set (Int.toNat x14) (a, ((((gtD t) (Int.toNat x14)).2) + 1)))) o27))) ?_ ?_), hw.fr0⟩
    all_goals (first | (first | rfl | (rw [← hD]; done) | (intro x_ _ _; rw [← hD]) | exact hE | exact hV) | (intro x_ hx_; rfl) | (intro x_ hx_ hy_; rfl))
   ·
    have hn : rFree t (Int.toNat x14) = false := hb3o
    refine wp_skip ?_
    refine pop_block ?_
    refine pop_then ?_
    refine hS.regC [20, 0] [0, 1, 12, 13] fun _ => seg [(14, vi (x14 + 1))] [(0, none)] [.p (fit .i64 (x14 + 1))] ⟨fit_i64 (by omega), trivial⟩ fun ac wd hS => ?_
    exact pop_then (hS.next (x14 + 1) ⟨(by first | omega | assumption | (simp; done) | (simp; omega)), (by exact noUp_step i1 i0.1 hn), trivial⟩ (by dsimp only; omega))
  ·
   have hx : -1 = rNewI t := fIx_none i1 (by omega)
   obtain ⟨hD, hV, hE⟩ := rNew_1 (t := t) (a := a) (by omega) hx
   refine wp_exit ?_
   refine pop_then_exit ?_
   refine pop_then_exit ?_
   refine pop_block_hit ?_
   refine pop_then ?_
   refine hS.regS [0, 0, 0, 0] [] fun _ => seg [(4, .slice ao1 t.length c1), (5, vu 0), (6, vi 10)] [(0, none)] [] trivial fun ac wd hS => ?_
   refine wp_ret ?_
   refine St.retC 0 hS (.tuple #[.slice ao1 t.length c1, vu 0, vi 10]) [] trivial fun hw => ?_
   refine ⟨ao1, c1, g1, o1, retd (tuple3 (slN ?_) (vint ?_) (vint ?_)), (by first | exact hv1 | exact .inl hz_ | (rw [← hD]; exact hv1)), (by omega), (HE.fn_to (hw.get 0 g1 (.fn o1 (o1 + t.length * 2) (slV (gtD t) o1))) ?_ ?_), hw.fr0⟩
   all_goals (first | (first | rfl | (rw [← hD]; done) | (intro x_ _ _; rw [← hD]) | exact hE | exact hV) | (intro x_ hx_; rfl) | (intro x_ hx_ hy_; rfl))

set_option maxRecDepth 100000 in
set_option maxHeartbeats 1000000 in
theorem r17_All (ao1 : Option Addr) (c1 : Nat) (g1 : Nat) (o1 : Nat) (t : List (Int × Int)) (w : World) (hh0 : HE.holds w 1 (.fn 0 64 dbT)) (hh1 : HE.holds w g1 (.fn o1 (o1 + t.length * 2) (slV (gtD t) o1))) (hv1 : (t.length = 0 ∨ ao1 = some ⟨g1, o1, none⟩)) (hok : OkT t) :
    Calls Tryd.prog 158 #[.slice ao1 t.length c1] w fun e w' => ∃ (ao2 : Option Addr) (c2 : Nat) (g2 : Nat) (o2 : Nat), e = .returned (.slice ao2 ((rAll t).length) c2) ∧ ((rAll t).length = 0 ∨ ao2 = some ⟨g2, o2, none⟩) ∧ (g2 = 1 ∨ w.heap.size ≤ g2) ∧ HE.holds w' g2 (.fn o2 (o2 + (rAll t).length) (u1V (gtD (rAll t)) o2)) ∧ Fr w w' no no := by
 have hl4 : t.length ≤ 256 := hok.1
 refine enter (args := [.slice ao1 t.length c1]) (D := no) (A := []) Tryd.func158 rfl 27 rfl [(1, .fn 0 64 dbT), (g1, .fn o1 (o1 + t.length * 2) (slV (gtD t) o1))] (WS.startL ⟨⟨rfl, hh0⟩, ⟨rfl, hh1⟩, trivial⟩) fun ac hS => ?_
 refine hS.regS [0] [0] fun _ => seg [] [(0, none), (1, none)] [] trivial fun ac wd hS => ?_
 refine hS.regS [0] [0] fun _ => seg [(3, vnil)] [(0, none), (1, none)] [] trivial fun ac wd hS => ?_
 refine wp_seq ?_
 replace hS := hS.to (hS.mem.grNew 76 1 (u1V (gtD ([] : List (Int))) 0))
 refine hS.regS [0, 0, 0] [3] fun _ => seg [(6, .slice ao1 t.length c1), (7, vi ((t.length : Nat) : Int)), (8, vi 0)] [(0, none), (1, none)] [] trivial fun ac wd hS => ?_
 refine wp_block ?_
 refine St.loopC (σ := Int × Option Addr × Nat × (Nat → Prop) × List (Int)) (fun (x : Int × Option Addr × Nat × (Nat → Prop) × List (Int)) => match x with | (x8, aoq, cq, Fq, lq) => ⟨[(3, [], .slice aoq lq.length cq), (6, [], .slice ao1 t.length c1), (7, [], vi ((t.length : Nat) : Int)), (8, [], vi x8)], [(1, .fn 0 64 dbT), (g1, .fn o1 (o1 + t.length * 2) (slV (gtD t) o1))], [grR 76 1 (.slice aoq lq.length cq) Fq (lq.length, (u1V (gtD lq) 0))], (0 ≤ x8 ∧ x8 ≤ (t.length : Int)) ∧ (lq = allH (rOn t) (rHv t) (Int.toNat x8)) ∧ True, t.length - Int.toNat x8⟩) (0, none, 0, no, ([] : List (Int))) ⟨(by first | omega | rfl), (by first | omega | rfl), trivial⟩ hS ?_
 clear hS
 rintro ⟨x8, aoq, cq, Fq, lq⟩ ⟨i0, i1, -⟩ ac wd hS
 replace i0 : 0 ≤ x8 ∧ x8 ≤ (t.length : Int) := i0
 replace i1 : lq = allH (rOn t) (rHv t) (Int.toNat x8) := i1
 refine hS.regS [0] [3, 6, 7, 8] fun _ => seg [(9, vb (decide ((x8 : Int) < ((t.length : Nat) : Int))))] [(0, none), (1, none)] [] trivial fun ac wd hS => ?_
 refine wp_seq ?_
 refine hS.condC (decide ((x8 : Int) < ((t.length : Nat) : Int))) (fun hb1o hb1 => ?_) (fun hb1o hb1 => ?_)
 ·
  have hr9 := hok.2 _ (show Int.toNat x8 < t.length by omega)
  refine wp_skip ?_
  refine pop_then ?_
  refine wp_seq ?_
  refine wp_block ?_
  obtain rfl : ao1 = some ⟨g1, o1, none⟩ := Or.resolve_left hv1 (by omega)
  refine hS.regS [0, 20, fx 100 (.agg #[vi (((gtD t) (Int.toNat x8)).1), vu (((gtD t) (Int.toNat x8)).2)]), 0, 0, 200] [3, 6, 7, 8] fun ν5 => seg [(4, vi x8), (5, pt (ν5 0) 0)] [(0, none), (1, none), (2, some ((ν5 0), .cells [vi (((gtD t) (Int.toNat x8)).1), vu (((gtD t) (Int.toNat x8)).2)] 260))] [.e (ν5 0), .e (ν5 0), .p ((.agg #[((slV (gtD t) o1) (o1 + Int.toNat x8 * 2)), ((slV (gtD t) o1) (o1 + Int.toNat x8 * 2 + 1))] : Value) = .agg #[vi (((gtD t) (Int.toNat x8)).1), vu (((gtD t) (Int.toNat x8)).2)]), .e g1, .p (o1 ≤ o1 + Int.toNat x8 * 2 + 1 ∧ o1 + Int.toNat x8 * 2 + 1 < (o1 + t.length * 2)), .e g1, .p (o1 ≤ o1 + Int.toNat x8 * 2 ∧ o1 + Int.toNat x8 * 2 < (o1 + t.length * 2)), .p ((0 : Int) ≤ x8 ∧ (x8 : Int) < ((t.length : Nat) : Int))] ⟨(agg2 (slV_0 (gtD t) o1 (Int.toNat x8)) (slV_1 (gtD t) o1 (Int.toNat x8))), (by omega), (by omega), (by omega), trivial⟩ fun ac wd hS => ?_
  refine hS.regS [0, 200, 0] [3, 4, 5, 6, 7, 8] fun _ => seg [(15, vb (decide ((0 : Int) < (((gtD t) (Int.toNat x8)).1))))] [(0, none), (1, none), (2, none)] [.e (ν5 0)] trivial fun ac wd hS => ?_
  refine hS.condC (decide ((0 : Int) < (((gtD t) (Int.toNat x8)).1))) (fun hb2o hb2 => ?_) (fun hb2o hb2 => ?_)
  ·
   have hn : rOn t (Int.toNat x8) = true := hb2o
   refine wp_region_lit ?_
   refine hS.opsC 8 [0, 0, 200, 20, 0, 20, 20, 0] [3, 6, 7, 8] fun ν7 => seg [(16, .slice aoq lq.length cq), (23, sc (ν7 0) 0 1 1)] [(0, none), (1, none), (3, some ((ν7 0), .cells [vu ((256 * (((gtD t) (Int.toNat x8)).2)) + x8)] 76))] [.p (fit .u64 ((256 * (((gtD t) (Int.toNat x8)).2)) + x8)), .p (fit .u64 x8), .p (fit .u64 (256 * (((gtD t) (Int.toNat x8)).2))), .e (ν5 0)] ⟨fit_u64 (by omega), fit_u64 (by omega), fit_u64 (by omega), trivial⟩ fun ac wd hS => ?_
   obtain ⟨i_, hi_, hz_, hs_, hb_⟩ := info_get (P := Tryd.prog) (e := 76) (z := vu 0) (s := 1) (b := 8) (by kernel_rfl)
   refine Runs1.list ?_
   refine St.appV (m := lq.length) (f := (u1V (gtD lq) 0)) (news := [vu ((256 * (((gtD t) (Int.toNat x8)).2)) + x8)]) (bx := (ν7 0)) (cx := 1) (Tx := 76) 0 hS (.tmp 16) (.tmp 23) 201 rfl rfl (by decide) Tryd.underlying201 hi_ hz_ hs_ (by omega) rfl (by decide) 2 rfl rfl (by (have := allH_len (rOn t) (rHv t) (Int.toNat x8); rw [← i1] at this; omega)) fun ac wd v2_ F5 hB6 hS => ?_
   obtain ⟨xo3, xc4, rfl⟩ := hB6.slice
   replace hS := hS.to (hS.mem.grTell (m := (lq.length + 1)) 0 (u1V (gtD (lq ++ [((256 * (((gtD t) (Int.toNat x8)).2)) + x8)])) 0) (u1V_app lq ((256 * (((gtD t) (Int.toNat x8)).2)) + x8)))
   have hm_ : lq.length + 1 = ((lq ++ [((256 * (((gtD t) (Int.toNat x8)).2)) + x8)])).length := by simp
   replace hS := hS.to (hS.mem.grRe (v := .slice xo3 (lq.length + 1) xc4) (v' := .slice xo3 (((lq ++ [((256 * (((gtD t) (Int.toNat x8)).2)) + x8)])).length) xc4) (m := (lq.length + 1)) (m' := ((lq ++ [((256 * (((gtD t) (Int.toNat x8)).2)) + x8)])).length) (f := (u1V (gtD (lq ++ [((256 * (((gtD t) (Int.toNat x8)).2)) + x8)])) 0)) 0 (by rw [hm_]) hm_)
   replace hS := hS.fix 24 (.slice xo3 (((lq ++ [((256 * (((gtD t) (Int.toNat x8)).2)) + x8)])).length) xc4) (show (.slice xo3 (lq.length + 1) xc4 : Value) = .slice xo3 (((lq ++ [((256 * (((gtD t) (Int.toNat x8)).2)) + x8)])).length) xc4 by rw [hm_])
   refine hS.opsC 1 [0] [6, 7, 8] fun _ => seg [(3, .slice xo3 (((lq ++ [((256 * (((gtD t) (Int.toNat x8)).2)) + x8)])).length) xc4)] [(0, none), (1, none)] [] trivial fun ac wd hS => ?_
   refine list_nil ?_
   refine pop_block ?_
   refine pop_then ?_
   refine hS.regC [20, 0] [3, 6, 7] fun _ => seg [(8, vi (x8 + 1))] [(0, none), (1, none)] [.p (fit .i64 (x8 + 1))] ⟨fit_i64 (by omega), trivial⟩ fun ac wd hS => ?_
   exact pop_then (hS.next ((x8 + 1), xo3, xc4, F5, (lq ++ [((256 * (((gtD t) (Int.toNat x8)).2)) + x8)])) ⟨(by first | omega | assumption | (simp; done) | (simp; omega)), (by first | exact rAll_yes i1 i0.1 hn | exact allH_no i1 i0.1 hn), trivial⟩ (by dsimp only; omega))
  ·
   have hn : rOn t (Int.toNat x8) = false := hb2o
   refine wp_skip ?_
   refine pop_block ?_
   refine pop_then ?_
   refine hS.regC [20, 0] [3, 6, 7] fun _ => seg [(8, vi (x8 + 1))] [(0, none), (1, none)] [.p (fit .i64 (x8 + 1))] ⟨fit_i64 (by omega), trivial⟩ fun ac wd hS => ?_
   exact pop_then (hS.next ((x8 + 1), aoq, cq, Fq, lq) ⟨(by first | omega | assumption | (simp; done) | (simp; omega)), (by first | exact rAll_yes i1 i0.1 hn | exact allH_no i1 i0.1 hn), trivial⟩ (by dsimp only; omega))
 ·
  refine wp_exit ?_
  refine pop_then_exit ?_
  refine pop_then_exit ?_
  refine pop_block_hit ?_
  refine pop_then ?_
  refine hS.regS [0, 0] [] fun _ => seg [(2, .slice aoq lq.length cq)] [(0, none)] [] trivial fun ac wd hS => ?_
  refine wp_ret ?_
  have hq_ : lq = (rAll t) := by rw [i1, show Int.toNat x8 = t.length by omega]; rfl
  subst hq_
  rcases Nat.eq_zero_or_pos ((rAll t).length) with hz_ | hz_
  ·
   have hm_ : (rAll t).length = 0 := by exact hz_
   replace hS := hS.to (hS.mem.grRe (v := .slice aoq ((rAll t).length) cq) (v' := .slice aoq 0 cq) (m := ((rAll t).length)) (m' := 0) (f := (u1V (gtD (rAll t)) 0)) 0 (by rw [hm_]) hm_)
   replace hS := hS.fix 2 (.slice aoq 0 cq) (show (.slice aoq ((rAll t).length) cq : Value) = .slice aoq 0 cq by rw [hm_])
   obtain ⟨hv_, hO⟩ := WS.grNil (e := 76) (sz := 1) (m := 0) (f := (u1V (gtD (rAll t)) 0)) hS.mem (by omega)
   obtain ⟨rfl, rfl⟩ : (none : Option Addr) = aoq ∧ 0 = cq := by cases hv_; exact ⟨rfl, rfl⟩
   clear hv_
   replace hS := hS.to hO
   clear hO
   refine St.retC 0 hS (vnil) [] trivial fun hw => ?_
   refine ⟨none, 0, 1, 0, retd (slN ?_), (by first | exact (.inl rfl) | exact .inl hz_ | (rw [← hD]; exact (.inl rfl))), (by omega), (HE.fn_none (hw.get 0 1 (.fn 0 64 dbT)) ?_), hw.fr0⟩
   all_goals (first | (first | omega | (simp; omega) | rfl) | (intro x_ hx_; rfl) | (intro x_ hx_ hy_; rfl))
  ·
   obtain ⟨gg7, cp8, hv_, hcp_, hO⟩ := WS.grOpen (e := 76) (sz := 1) (m := ((rAll t).length)) (f := (u1V (gtD (rAll t)) 0)) hS.mem (by omega)
   simp only [Nat.mul_one] at hO
   obtain ⟨rfl, rfl⟩ : some (⟨gg7, 0, none⟩ : Addr) = aoq ∧ cp8 = cq := by cases hv_; exact ⟨rfl, rfl⟩
   clear hv_
   replace hS := hS.to hO
   clear hO
   refine St.retC 0 hS (sc gg7 0 ((rAll t).length) cp8) [] trivial fun hw => ?_
   refine ⟨(some ⟨gg7, 0, none⟩), cp8, gg7, 0, retd rfl, (by first | exact (.inr rfl) | exact .inl hz_ | (rw [← hD]; exact (.inr rfl))), (by have hg_ : w.heap.size ≤ gg7 := (hw.getm 1 gg7 (.row 76 ((rAll t).length) cp8 (u1V (gtD (rAll t)) 0))).resolve_right (fun h => h); omega), (HE.row_to (hw.get 1 gg7 (.row 76 ((rAll t).length) cp8 (u1V (gtD (rAll t)) 0))) ?_ ?_), hw.fr0⟩
   all_goals (first | (first | omega | (simp; omega) | rfl) | (intro x_ hx_; rfl) | (intro x_ hx_ hy_; rfl))

set_option maxRecDepth 100000 in
set_option maxHeartbeats 1000000 in
theorem h_All (b : Nat) (F : Nat → Prop) (m : AM) (o_ : Int) (z : Int) (w : World) (hr : (arR b F m).R w) (hh0 : HE.holds w 1 (.fn 0 64 dbT)) (ho : 0 ≤ o_ ∧ 0 ≤ z ∧ o_ + z ≤ 4294967296) :
    Calls Tryd.prog 166 #[.agg #[pt b 0, vi o_, vi z]] w fun e w' => ∃ (ao2 : Option Addr) (c2 : Nat) (g2 : Nat) (o2 : Nat), e = .returned (.slice ao2 ((hAll m o_ z).length) c2) ∧ ((hAll m o_ z).length = 0 ∨ ao2 = some ⟨g2, o2, none⟩) ∧ (g2 = 1 ∨ w.heap.size ≤ g2) ∧ HE.holds w' g2 (.fn o2 (o2 + (hAll m o_ z).length) (u1V (gtD (hAll m o_ z)) o2)) ∧ Fr w w' no no := by
 have hln := hLen_bd (z := z) (by omega)
 refine enter (args := [.agg #[pt b 0, vi o_, vi z]]) (D := no) (A := []) Tryd.func166 rfl 30 rfl [(1, .fn 0 64 dbT)] (WS.startL ⟨⟨rfl, hh0⟩, trivial⟩) fun ac hS => ?_
 refine hS.regS [0, 0] [] fun ν1 => seg [(1, pt (ν1 0) 0)] [(0, none), (1, some ((ν1 0), .cells [pt b 0, vi o_, vi z] 158))] [] trivial fun ac wd hS => ?_
 refine hS.regS [0] [1] fun _ => seg [(3, vnil)] [(0, none), (1, none)] [] trivial fun ac wd hS => ?_
 refine wp_seq ?_
 replace hS := hS.to (hS.mem.grNew 162 1 (u1V (gtD ([] : List (Int))) 0))
 refine wp_region_seq ?_
 refine hS.opsC 1 [100] [1, 3] fun _ => seg [(7, .agg #[pt b 0, vi o_, vi z])] [(0, none), (1, none)] [.e (ν1 0), .e (ν1 0), .e (ν1 0)] trivial fun ac wd hS => ?_
 refine hS.call0 164 #[.agg #[pt b 0, vi o_, vi z]] 8 (h_Len b o_ z _  (by first | assumption | omega | (simp_all; done) | (simp_all; omega))) fun ac wd hS => ?_
 refine hS.opsC 1 [0] [1, 3, 8] fun _ => seg [(9, vi 0)] [(0, none), (1, none)] [] trivial fun ac wd hS => ?_
 refine list_nil_seq ?_
 refine wp_block ?_
 refine St.loopC (σ := Int × Option Addr × Nat × (Nat → Prop) × List (Int)) (fun (x : Int × Option Addr × Nat × (Nat → Prop) × List (Int)) => match x with | (x9, aoq, cq, Fq, lq) => ⟨[(1, [], pt (ν1 0) 0), (3, [], .slice aoq lq.length cq), (8, [], vi (hLen z)), (9, [], vi x9)], [(1, .fn 0 64 dbT), ((ν1 0), .cells [pt b 0, vi o_, vi z] 158)], [grR 162 1 (.slice aoq lq.length cq) Fq (lq.length, (u1V (gtD lq) 0))], (0 ≤ x9 ∧ x9 ≤ hLen z) ∧ (lq = allH (hOn m o_ z) (hHv m o_ z) (Int.toNat x9)) ∧ True, Int.toNat (hLen z - x9)⟩) (0, none, 0, no, ([] : List (Int))) ⟨(by first | omega | rfl), (by first | omega | rfl), trivial⟩ hS ?_
 clear hS
 rintro ⟨x9, aoq, cq, Fq, lq⟩ ⟨i0, i1, -⟩ ac wd hS
 replace i0 : 0 ≤ x9 ∧ x9 ≤ hLen z := i0
 replace i1 : lq = allH (hOn m o_ z) (hHv m o_ z) (Int.toNat x9) := i1
 refine hS.regS [0] [1, 3, 8, 9] fun _ => seg [(10, vb (decide ((x9 : Int) < (hLen z))))] [(0, none), (1, none)] [] trivial fun ac wd hS => ?_
 refine wp_seq ?_
 refine hS.condC (decide ((x9 : Int) < (hLen z))) (fun hb1o hb1 => ?_) (fun hb1o hb1 => ?_)
 ·
  refine wp_skip ?_
  refine pop_then ?_
  refine wp_seq ?_
  refine wp_block ?_
  refine hS.regS [0, 0] [1, 3, 8, 9] fun _ => seg [(4, vi x9)] [(0, none), (1, none)] [] trivial fun ac wd hS => ?_
  refine wp_region_seq ?_
  refine hS.opsC 2 [100, 0] [1, 3, 4, 8, 9] fun _ => seg [(13, .agg #[pt b 0, vi o_, vi z]), (14, vi x9)] [(0, none), (1, none)] [.e (ν1 0), .e (ν1 0), .e (ν1 0)] trivial fun ac wd hS => ?_
  refine hS.call0 165 #[.agg #[pt b 0, vi o_, vi z], vi x9] 15 (h_get b F m o_ z x9 _ (Res.keep hr hS.mem.fr) (by first | assumption | omega | (simp_all; done) | (simp_all; omega)) (by first | assumption | omega | (simp_all; done) | (simp_all; omega))) fun ac wd hS => ?_
  refine hS.opsC 5 [0, 0, 0, 0, 0] [1, 3, 4, 8, 9] fun _ => seg [(5, vi (hAt m o_ z x9)), (6, vu (hGn m o_ z x9))] [(0, none), (1, none)] [] trivial fun ac wd hS => ?_
  refine list_nil_seq ?_
  refine hS.regS [0, 0] [1, 3, 4, 6, 8, 9] fun _ => seg [(19, vb (((hAt m o_ z x9) : Int) != 0))] [(0, none), (1, none)] [] trivial fun ac wd hS => ?_
  refine hS.condC (((hAt m o_ z x9) : Int) != 0) (fun hb2o hb2 => ?_) (fun hb2o hb2 => ?_)
  ·
   have hn : hOn m o_ z (Int.toNat x9) = true := by unfold hOn; rw [Int.toNat_of_nonneg i0.1]; exact hb2o
   refine wp_region_lit ?_
   refine hS.opsC 7 [0, 0, 0, 0, 0, fx 0 (vu (hVl (hGn m o_ z x9) x9)), 0] [1, 3, 8, 9] fun ν10 => seg [(20, .slice aoq lq.length cq), (26, sc (ν10 0) 0 1 1)] [(0, none), (1, none), (2, some ((ν10 0), .cells [vu (hVl (hGn m o_ z x9) x9)] 162))] [.p ((vu (IntKind.wrap .u64 ((IntKind.wrap .u64 ((hGn m o_ z x9) * 256)) + (IntKind.wrap .u64 x9))) : Value) = vu (hVl (hGn m o_ z x9) x9))] ⟨(vint (rfl)), trivial⟩ fun ac wd hS => ?_
   obtain ⟨i_, hi_, hz_, hs_, hb_⟩ := info_get (P := Tryd.prog) (e := 162) (z := vu 0) (s := 1) (b := 8) (by kernel_rfl)
   refine Runs1.list ?_
   refine St.appV (m := lq.length) (f := (u1V (gtD lq) 0)) (news := [vu (hVl (hGn m o_ z x9) x9)]) (bx := (ν10 0)) (cx := 1) (Tx := 162) 0 hS (.tmp 20) (.tmp 26) 263 rfl rfl (by decide) Tryd.underlying263 hi_ hz_ hs_ (by omega) rfl (by decide) 2 rfl rfl (by (have := allH_len (hOn m o_ z) (hHv m o_ z) (Int.toNat x9); rw [← i1] at this; omega)) fun ac wd v2_ F5 hB6 hS => ?_
   obtain ⟨xo3, xc4, rfl⟩ := hB6.slice
   replace hS := hS.to (hS.mem.grTell (m := (lq.length + 1)) 0 (u1V (gtD (lq ++ [(hVl (hGn m o_ z x9) x9)])) 0) (u1V_app lq (hVl (hGn m o_ z x9) x9)))
   have hm_ : lq.length + 1 = ((lq ++ [(hVl (hGn m o_ z x9) x9)])).length := by simp
   replace hS := hS.to (hS.mem.grRe (v := .slice xo3 (lq.length + 1) xc4) (v' := .slice xo3 (((lq ++ [(hVl (hGn m o_ z x9) x9)])).length) xc4) (m := (lq.length + 1)) (m' := ((lq ++ [(hVl (hGn m o_ z x9) x9)])).length) (f := (u1V (gtD (lq ++ [(hVl (hGn m o_ z x9) x9)])) 0)) 0 (by rw [hm_]) hm_)
   replace hS := hS.fix 27 (.slice xo3 (((lq ++ [(hVl (hGn m o_ z x9) x9)])).length) xc4) (show (.slice xo3 (lq.length + 1) xc4 : Value) = .slice xo3 (((lq ++ [(hVl (hGn m o_ z x9) x9)])).length) xc4 by rw [hm_])
   refine hS.opsC 1 [0] [1, 8, 9] fun _ => seg [(3, .slice xo3 (((lq ++ [(hVl (hGn m o_ z x9) x9)])).length) xc4)] [(0, none), (1, none)] [] trivial fun ac wd hS => ?_
   refine list_nil ?_
   refine pop_block ?_
   refine pop_then ?_
   refine hS.regC [20, 0] [1, 3, 8] fun _ => seg [(9, vi (x9 + 1))] [(0, none), (1, none)] [.p (fit .i64 (x9 + 1))] ⟨fit_i64 (by omega), trivial⟩ fun ac wd hS => ?_
   exact pop_then (hS.next ((x9 + 1), xo3, xc4, F5, (lq ++ [(hVl (hGn m o_ z x9) x9)])) ⟨(by first | omega | assumption | (simp; done) | (simp; omega)), (by first | exact hAll_yes i1 i0.1 hn | exact allH_no i1 i0.1 hn), trivial⟩ (by dsimp only; omega))
  ·
   have hn : hOn m o_ z (Int.toNat x9) = false := by unfold hOn; rw [Int.toNat_of_nonneg i0.1]; exact hb2o
   refine wp_skip ?_
   refine pop_block ?_
   refine pop_then ?_
   refine hS.regC [20, 0] [1, 3, 8] fun _ => seg [(9, vi (x9 + 1))] [(0, none), (1, none)] [.p (fit .i64 (x9 + 1))] ⟨fit_i64 (by omega), trivial⟩ fun ac wd hS => ?_
   exact pop_then (hS.next ((x9 + 1), aoq, cq, Fq, lq) ⟨(by first | omega | assumption | (simp; done) | (simp; omega)), (by first | exact hAll_yes i1 i0.1 hn | exact allH_no i1 i0.1 hn), trivial⟩ (by dsimp only; omega))
 ·
  refine wp_exit ?_
  refine pop_then_exit ?_
  refine pop_then_exit ?_
  refine pop_block_hit ?_
  refine pop_then ?_
  refine hS.regS [0, 0] [] fun _ => seg [(2, .slice aoq lq.length cq)] [(0, none)] [] trivial fun ac wd hS => ?_
  refine wp_ret ?_
  have hq_ : lq = (hAll m o_ z) := by rw [i1, show Int.toNat x9 = Int.toNat (hLen z) by omega]; rfl
  subst hq_
  rcases Nat.eq_zero_or_pos ((hAll m o_ z).length) with hz_ | hz_
  ·
   have hm_ : (hAll m o_ z).length = 0 := by exact hz_
   replace hS := hS.to (hS.mem.grRe (v := .slice aoq ((hAll m o_ z).length) cq) (v' := .slice aoq 0 cq) (m := ((hAll m o_ z).length)) (m' := 0) (f := (u1V (gtD (hAll m o_ z)) 0)) 0 (by rw [hm_]) hm_)
   replace hS := hS.fix 2 (.slice aoq 0 cq) (show (.slice aoq ((hAll m o_ z).length) cq : Value) = .slice aoq 0 cq by rw [hm_])
   obtain ⟨hv_, hO⟩ := WS.grNil (e := 162) (sz := 1) (m := 0) (f := (u1V (gtD (hAll m o_ z)) 0)) hS.mem (by omega)
   obtain ⟨rfl, rfl⟩ : (none : Option Addr) = aoq ∧ 0 = cq := by cases hv_; exact ⟨rfl, rfl⟩
   clear hv_
   replace hS := hS.to hO
   clear hO
   refine St.retC 0 hS (vnil) [] trivial fun hw => ?_
   refine ⟨none, 0, 1, 0, retd (slN ?_), (by first | exact (.inl rfl) | exact .inl hz_ | (rw [← hD]; exact (.inl rfl))), (by omega), (HE.fn_none (hw.get 0 1 (.fn 0 64 dbT)) ?_), hw.fr0⟩
   all_goals (first | (first | omega | (simp; omega) | rfl) | (intro x_ hx_; rfl) | (intro x_ hx_ hy_; rfl))
  ·
   obtain ⟨gg7, cp8, hv_, hcp_, hO⟩ := WS.grOpen (e := 162) (sz := 1) (m := ((hAll m o_ z).length)) (f := (u1V (gtD (hAll m o_ z)) 0)) hS.mem (by omega)
   simp only [Nat.mul_one] at hO
   obtain ⟨rfl, rfl⟩ : some (⟨gg7, 0, none⟩ : Addr) = aoq ∧ cp8 = cq := by cases hv_; exact ⟨rfl, rfl⟩
   clear hv_
   replace hS := hS.to hO
   clear hO
   refine St.retC 0 hS (sc gg7 0 ((hAll m o_ z).length) cp8) [] trivial fun hw => ?_
   refine ⟨(some ⟨gg7, 0, none⟩), cp8, gg7, 0, retd rfl, (by first | exact (.inr rfl) | exact .inl hz_ | (rw [← hD]; exact (.inr rfl))), (by have hg_ : w.heap.size ≤ gg7 := (hw.getm 1 gg7 (.row 162 ((hAll m o_ z).length) cp8 (u1V (gtD (hAll m o_ z)) 0))).resolve_right (fun h => h); omega), (HE.row_to (hw.get 1 gg7 (.row 162 ((hAll m o_ z).length) cp8 (u1V (gtD (hAll m o_ z)) 0))) ?_ ?_), hw.fr0⟩
   all_goals (first | (first | omega | (simp; omega) | rfl) | (intro x_ hx_; rfl) | (intro x_ hx_ hy_; rfl))

theorem h_Len_r (b : Nat) (o_ : Int) (z : Int) (t : List Sl) (w : World) (hz : 0 ≤ o_ ∧ 0 ≤ z ∧ o_ + z ≤ 4294967296) (hl : (t.length : Int) = hLen z) :
    Calls Tryd.prog 164 #[.agg #[pt b 0, vi o_, vi z]] w fun e w' => e = .returned (vi ((t.length : Nat) : Int)) ∧ Fr w w' no no := by
 have h_ := h_Len b o_ z w hz
 rw [← hl] at h_
 exact h_

theorem h_All_r (b : Nat) (F : Nat → Prop) (m : AM) (o_ : Int) (z : Int) (t : List Sl) (w : World) (hr : (arR b F m).R w) (hh0 : HE.holds w 1 (.fn 0 64 dbT)) (hR : HRep m o_ z t) :
    Calls Tryd.prog 166 #[.agg #[pt b 0, vi o_, vi z]] w fun e w' => ∃ (ao2 : Option Addr) (c2 : Nat) (g2 : Nat) (o2 : Nat), e = .returned (.slice ao2 ((rAll t).length) c2) ∧ ((rAll t).length = 0 ∨ ao2 = some ⟨g2, o2, none⟩) ∧ (g2 = 1 ∨ w.heap.size ≤ g2) ∧ HE.holds w' g2 (.fn o2 (o2 + (rAll t).length) (u1V (gtD (rAll t)) o2)) ∧ Fr w w' no no := by
 have hb : 0 ≤ o_ ∧ 0 ≤ z ∧ o_ + z ≤ 4294967296 := ⟨hR.o0, hR.z0, by have := inB_facts (thr_in hR.there); have h4 : m.cap ≤ 1048576 := (by obtain ⟨d, hd⟩ := id hr; exact hd.capLe); omega⟩
 have h_ := h_All b F m o_ z w hr hh0 hb
 rw [hR.all] at h_
 exact h_

theorem h_Get_r (b : Nat) (F : Nat → Prop) (m : AM) (o_ : Int) (z : Int) (h : Int) (t : List Sl) (w : World) (hr : (arR b F m).R w) (hR : HRep m o_ z t) (hh : 0 ≤ h ∧ h ≤ 18446744073709551615) :
    Calls Tryd.prog 86 #[.agg #[pt b 0, vi o_, vi z], vu h] w fun e w' => e = .returned (.tuple #[vi (rGetA t h), vi (rGetE t h)]) ∧ Fr w w' no no := by
 have hb : 0 ≤ o_ ∧ 0 ≤ z ∧ o_ + z ≤ 4294967296 := ⟨hR.o0, hR.z0, by have := inB_facts (thr_in hR.there); have h4 : m.cap ≤ 1048576 := (by obtain ⟨d, hd⟩ := id hr; exact hd.capLe); omega⟩
 have h_ := h_Get b F m o_ z h w hr hb hh
 rw [(hR.get hh).1, (hR.get hh).2] at h_
 exact h_

theorem h_Next_r (b : Nat) (F : Nat → Prop) (m : AM) (o_ : Int) (z : Int) (t : List Sl) (w : World) (hr : (arR b F m).R w) (hR : HRep m o_ z t) :
    Calls Tryd.prog 88 #[.agg #[pt b 0, vi o_, vi z]] w fun e w' => e = .returned (.tuple #[vu (rNewV t 1), vi (rNewE t 1)]) ∧ Fr w w' no no := by
 have hb : 0 ≤ o_ ∧ 0 ≤ z ∧ o_ + z ≤ 4294967296 := ⟨hR.o0, hR.z0, by have := inB_facts (thr_in hR.there); have h4 : m.cap ≤ 1048576 := (by obtain ⟨d, hd⟩ := id hr; exact hd.capLe); omega⟩
 have h_ := h_Next b F m o_ z w hr hb
 rw [hR.next.1, hR.next.2] at h_
 exact h_

theorem h_New_r (b : Nat) (F : Nat → Prop) (m : AM) (o_ : Int) (z : Int) (a : Int) (t : List Sl) (w : World) (hr : (arR b F m).R w) (hR : HRep m o_ z t) (ha : a ≤ 9223372036854775807) :
    Calls Tryd.prog 90 #[.agg #[pt b 0, vi o_, vi z], vi a] w fun e w' => ∃ (F' : Nat → Prop), e = .returned (.tuple #[vu (rNewV t a), vi (rNewE t a)]) ∧ (arR b F' (hNwM m o_ z a)).R w' ∧ Fr w w' F F' := by
 have hb : 0 ≤ o_ ∧ 0 ≤ z ∧ o_ + z ≤ 4294967296 := ⟨hR.o0, hR.z0, by have := inB_facts (thr_in hR.there); have h4 : m.cap ≤ 1048576 := (by obtain ⟨d, hd⟩ := id hr; exact hd.capLe); omega⟩
 have h_ := h_New b F m o_ z a w hr hb
 rw [(hR.new ha).2.1, (hR.new ha).2.2] at h_
 exact h_

theorem h_Move_r (b : Nat) (F : Nat → Prop) (m : AM) (o_ : Int) (z : Int) (h : Int) (a : Int) (t : List Sl) (w : World) (hr : (arR b F m).R w) (hR : HRep m o_ z t) (hh : 0 ≤ h ∧ h ≤ 18446744073709551615) (ha : a ≤ 9223372036854775807) :
    Calls Tryd.prog 84 #[.agg #[pt b 0, vi o_, vi z], vu h, vi a] w fun e w' => ∃ (F' : Nat → Prop), e = .returned (vi (rMovE t h a)) ∧ (arR b F' (hMvM m o_ z h a)).R w' ∧ Fr w w' F F' := by
 have hb : 0 ≤ o_ ∧ 0 ≤ z ∧ o_ + z ≤ 4294967296 := ⟨hR.o0, hR.z0, by have := inB_facts (thr_in hR.there); have h4 : m.cap ≤ 1048576 := (by obtain ⟨d, hd⟩ := id hr; exact hd.capLe); omega⟩
 have h_ := h_Move b F m o_ z h a w hr hb hh
 rw [(hR.mov hh ha).2] at h_
 exact h_

theorem h_Drop_r (b : Nat) (F : Nat → Prop) (m : AM) (o_ : Int) (z : Int) (h : Int) (t : List Sl) (w : World) (hr : (arR b F m).R w) (hR : HRep m o_ z t) (hh : 0 ≤ h ∧ h ≤ 18446744073709551615) :
    Calls Tryd.prog 82 #[.agg #[pt b 0, vi o_, vi z], vu h] w fun e w' => ∃ (F' : Nat → Prop), e = .returned (vi (rGetE t h)) ∧ (arR b F' (hDrM m o_ z h)).R w' ∧ Fr w w' F F' := by
 have hb : 0 ≤ o_ ∧ 0 ≤ z ∧ o_ + z ≤ 4294967296 := ⟨hR.o0, hR.z0, by have := inB_facts (thr_in hR.there); have h4 : m.cap ≤ 1048576 := (by obtain ⟨d, hd⟩ := id hr; exact hd.capLe); omega⟩
 have h_ := h_Drop b F m o_ z h w hr hb hh
 rw [(hR.get hh).2] at h_
 exact h_

end Go.Proofs.YtindbpffbjhfaaaDoor.K
