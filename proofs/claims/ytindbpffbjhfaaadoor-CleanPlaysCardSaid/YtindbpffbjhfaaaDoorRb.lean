/-
  Walks, printed by w2.py.
-/
import Derived.Test.YtindbpffbjhfaaaDoorHh
import Derived.Test.YtindbpffbjhfaaaDoorRa
import Derived.Test.YtindbpffbjhfaaaDoorQz
import Derived.Test.YtindbpffbjhfaaaDoorJf
import Derived.Test.YtindbpffbjhfaaaDoorProg
namespace Go.Proofs.YtindbpffbjhfaaaDoor.K
set_option linter.unusedVariables false
set_option linter.unusedSimpArgs false

set_option maxRecDepth 100000 in
set_option maxHeartbeats 1000000 in
theorem r21_find (ao1 : Option Addr) (c1 : Nat) (g1 : Nat) (o1 : Nat) (l : List (Int × Int × Int × Int)) (id : Int) (w : World) (hh0 : HE.holds w g1 (.fn o1 (o1 + l.length * 4) (entV (gtD l) o1))) (hv1 : (l.length = 0 ∨ ao1 = some ⟨g1, o1, none⟩)) (hl : l.length ≤ 4294967295) :
    Calls Tryd.prog 147 #[.slice ao1 l.length c1, vu id] w fun e w' => e = .returned (vi (eIx l id)) ∧ Fr w w' no no := by
 refine enter (args := [.slice ao1 l.length c1, vu id]) (D := no) (A := []) Tryd.func147 rfl 20 rfl [(g1, .fn o1 (o1 + l.length * 4) (entV (gtD l) o1))] (WS.startL ⟨⟨rfl, hh0⟩, trivial⟩) fun ac hS => ?_
 refine hS.regS [0] [0, 1] fun _ => seg [] [(0, none)] [] trivial fun ac wd hS => ?_
 refine wp_seq ?_
 refine hS.regS [0, 0, 0] [1] fun _ => seg [(7, .slice ao1 l.length c1), (8, vi ((l.length : Nat) : Int)), (9, vi 0)] [(0, none)] [] trivial fun ac wd hS => ?_
 refine wp_block ?_
 refine St.loopC (σ := Int) (fun (x9 : Int) => ⟨[(1, [], vu id), (7, [], .slice ao1 l.length c1), (8, [], vi ((l.length : Nat) : Int)), (9, [], vi x9)], [(g1, .fn o1 (o1 + l.length * 4) (entV (gtD l) o1))], [], (0 ≤ x9 ∧ x9 ≤ (l.length : Int)) ∧ (NoUp (eIs l id) x9) ∧ True, l.length - Int.toNat x9⟩) 0 ⟨(by first | omega | exact noUp_zero _), (by first | omega | exact noUp_zero _), trivial⟩ hS ?_
 clear hS
 rintro x9 ⟨i0, i1, -⟩ ac wd hS
 replace i0 : 0 ≤ x9 ∧ x9 ≤ (l.length : Int) := i0
 replace i1 : NoUp (eIs l id) x9 := i1
 refine hS.regS [0] [1, 7, 8, 9] fun _ => seg [(10, vb (decide ((x9 : Int) < ((l.length : Nat) : Int))))] [(0, none)] [] trivial fun ac wd hS => ?_
 refine wp_seq ?_
 refine hS.condC (decide ((x9 : Int) < ((l.length : Nat) : Int))) (fun hb1o hb1 => ?_) (fun hb1o hb1 => ?_)
 ·
  refine wp_skip ?_
  refine pop_then ?_
  refine wp_seq ?_
  refine wp_block ?_
  obtain rfl : ao1 = some ⟨g1, o1, none⟩ := Or.resolve_left hv1 (by omega)
  refine hS.regS [0, 20, fx 0 (.agg #[vu (((gtD l) (Int.toNat x9)).1), v8 (((gtD l) (Int.toNat x9)).2.1), v8 (((gtD l) (Int.toNat x9)).2.2.1), vu (((gtD l) (Int.toNat x9)).2.2.2)]), 0, 0, 100] [1, 7, 8, 9] fun ν4 => seg [(5, vi x9), (6, pt (ν4 0) 0)] [(0, none), (1, some ((ν4 0), .cells [vu (((gtD l) (Int.toNat x9)).1), v8 (((gtD l) (Int.toNat x9)).2.1), v8 (((gtD l) (Int.toNat x9)).2.2.1), vu (((gtD l) (Int.toNat x9)).2.2.2)] 122))] [.e (ν4 0), .e (ν4 0), .e (ν4 0), .e (ν4 0), .p ((.agg #[((entV (gtD l) o1) (o1 + Int.toNat x9 * 4)), ((entV (gtD l) o1) (o1 + Int.toNat x9 * 4 + 1)), ((entV (gtD l) o1) (o1 + Int.toNat x9 * 4 + 2)), ((entV (gtD l) o1) (o1 + Int.toNat x9 * 4 + 3))] : Value) = .agg #[vu (((gtD l) (Int.toNat x9)).1), v8 (((gtD l) (Int.toNat x9)).2.1), v8 (((gtD l) (Int.toNat x9)).2.2.1), vu (((gtD l) (Int.toNat x9)).2.2.2)]), .e g1, .p (o1 ≤ o1 + Int.toNat x9 * 4 + 3 ∧ o1 + Int.toNat x9 * 4 + 3 < (o1 + l.length * 4)), .e g1, .p (o1 ≤ o1 + Int.toNat x9 * 4 + 2 ∧ o1 + Int.toNat x9 * 4 + 2 < (o1 + l.length * 4)), .e g1, .p (o1 ≤ o1 + Int.toNat x9 * 4 + 1 ∧ o1 + Int.toNat x9 * 4 + 1 < (o1 + l.length * 4)), .e g1, .p (o1 ≤ o1 + Int.toNat x9 * 4 ∧ o1 + Int.toNat x9 * 4 < (o1 + l.length * 4)), .p ((0 : Int) ≤ x9 ∧ (x9 : Int) < ((l.length : Nat) : Int))] ⟨(agg4 (entV_0 (gtD l) o1 (Int.toNat x9)) (entV_1 (gtD l) o1 (Int.toNat x9)) (entV_2 (gtD l) o1 (Int.toNat x9)) (entV_3 (gtD l) o1 (Int.toNat x9))), (by omega), (by omega), (by omega), (by omega), (by omega), trivial⟩ fun ac wd hS => ?_
  refine hS.regS [0, 100, 0, 0] [1, 5, 7, 8, 9] fun _ => seg [(17, vb ((((gtD l) (Int.toNat x9)).1 : Int) == id))] [(0, none)] [.e (ν4 0)] trivial fun ac wd hS => ?_
  refine hS.condC ((((gtD l) (Int.toNat x9)).1 : Int) == id) (fun hb2o hb2 => ?_) (fun hb2o hb2 => ?_)
  ·
   have hn : eIs l id (Int.toNat x9) = true := hb2o
   refine hS.regS [0, 0] [] fun _ => seg [(4, vi x9)] [] [] trivial fun ac wd hS => ?_
   refine wp_ret ?_
   refine pop_block_ret ?_
   refine pop_then_ret ?_
   refine pop_then_ret ?_
   refine pop_block_ret ?_
   refine pop_then_ret ?_
   refine St.retC 0 hS (vi x9) [] trivial fun hw => ?_
   refine ⟨retd (vint ?_), hw.fr0⟩
   all_goals (first | exact fIx_at i1 i0.1 (by omega) hn | exact fIx_none i1 (by omega))
  ·
   have hn : eIs l id (Int.toNat x9) = false := hb2o
   refine wp_skip ?_
   refine pop_block ?_
   refine pop_then ?_
   refine hS.regC [20, 0] [1, 7, 8] fun _ => seg [(9, vi (x9 + 1))] [(0, none)] [.p (fit .i64 (x9 + 1))] ⟨fit_i64 (by omega), trivial⟩ fun ac wd hS => ?_
   exact pop_then (hS.next (x9 + 1) ⟨(by first | omega | assumption | (simp; done) | (simp; omega)), (by exact noUp_step i1 i0.1 hn), trivial⟩ (by dsimp only; omega))
 ·
  refine wp_exit ?_
  refine pop_then_exit ?_
  refine pop_then_exit ?_
  refine pop_block_hit ?_
  refine pop_then ?_
  refine hS.regS [0] [] fun _ => seg [(4, vi (-1))] [] [] trivial fun ac wd hS => ?_
  refine wp_ret ?_
  refine St.retC 0 hS (vi (-1)) [] trivial fun hw => ?_
  refine ⟨retd (vint ?_), hw.fr0⟩
  all_goals (first | exact fIx_at i1 i0.1 (by omega) hn | exact fIx_none i1 (by omega))

set_option maxRecDepth 100000 in
set_option maxHeartbeats 1000000 in
theorem r21_Kill (ao1 : Option Addr) (c1 : Nat) (g1 : Nat) (o1 : Nat) (l : List (Int × Int × Int × Int)) (id : Int) (w : World) (hh0 : HE.holds w 1 (.fn 0 64 dbT)) (hh1 : HE.holds w g1 (.fn o1 (o1 + l.length * 4) (entV (gtD l) o1))) (hv1 : (l.length = 0 ∨ ao1 = some ⟨g1, o1, none⟩)) (hl : l.length ≤ 4294967295) :
    Calls Tryd.prog 60 #[.slice ao1 l.length c1, vu id] w fun e w' => ∃ (ao2 : Option Addr) (c2 : Nat) (g2 : Nat) (o2 : Nat), e = .returned (.tuple #[.slice ao2 ((eKilL l id).length) c2, .agg #[vu (((eKilV l id)).1), v8 (((eKilV l id)).2.1), v8 (((eKilV l id)).2.2.1), vu (((eKilV l id)).2.2.2)], vi (eKilE l id)]) ∧ ((eKilL l id).length = 0 ∨ ao2 = some ⟨g2, o2, none⟩) ∧ (g2 = g1 ∨ g2 = 1 ∨ w.heap.size ≤ g2) ∧ HE.holds w' g2 (.fn o2 (o2 + (eKilL l id).length * 4) (entV (gtD (eKilL l id)) o2)) ∧ Fr w w' no no := by
 have hf := eIx_rng l id
 refine enter (args := [.slice ao1 l.length c1, vu id]) (D := no) (A := []) Tryd.func60 rfl 38 rfl [(1, .fn 0 64 dbT), (g1, .fn o1 (o1 + l.length * 4) (entV (gtD l) o1))] (WS.startL ⟨⟨rfl, hh0⟩, ⟨rfl, hh1⟩, trivial⟩) fun ac hS => ?_
 refine hS.regS [0, 0, 0] [0, 1] fun ν1 => seg [(5, pt (ν1 0) 0)] [(0, none), (1, none), (2, some ((ν1 0), .cells [vu 0, v8 0, v8 0, vu 0] 122))] [] trivial fun ac wd hS => ?_
 refine wp_region_seq ?_
 refine hS.opsC 2 [0, 0] [0, 5] fun _ => seg [(11, .slice ao1 l.length c1), (12, vu id)] [(0, none), (1, none), (2, none)] [] trivial fun ac wd hS => ?_
 refine hS.call0 147 #[.slice ao1 l.length c1, vu id] 13 (r21_find ao1 c1 g1 o1 l id _ (hS.mem.get 1 g1 (.fn o1 (o1 + l.length * 4) (entV (gtD l) o1))) hv1 (by first | assumption | omega | (simp_all; done) | (simp_all; omega))) fun ac wd hS => ?_
 refine hS.opsC 1 [0] [0, 5] fun _ => seg [(7, vi (eIx l id))] [(0, none), (1, none), (2, none)] [] trivial fun ac wd hS => ?_
 refine list_nil_seq ?_
 refine wp_seq ?_
 refine hS.regS [0, 0] [0, 5, 7] fun _ => seg [(15, vb (decide (((eIx l id) : Int) < 0)))] [(0, none), (1, none), (2, none)] [] trivial fun ac wd hS => ?_
 refine hS.condC (decide (((eIx l id) : Int) < 0)) (fun hb1o hb1 => ?_) (fun hb1o hb1 => ?_)
 ·
  obtain ⟨hD, hV, hE⟩ := eKil_1 (L := l) (id := id) (by omega)
  refine hS.regS [0, 0, 0, 200, 0] [5] fun _ => seg [(4, .slice ao1 l.length c1), (6, vi 8)] [(0, none), (1, none), (2, none)] [.e (ν1 0), .e (ν1 0), .e (ν1 0), .e (ν1 0)] trivial fun ac wd hS => ?_
  refine wp_ret ?_
  refine pop_then_ret ?_
  refine St.retC 2 hS (.tuple #[.slice ao1 l.length c1, .agg #[vu 0, v8 0, v8 0, vu 0], vi 8]) [.e (ν1 0), .e (ν1 0), .e (ν1 0), .e (ν1 0)] trivial fun hw => ?_
  refine ⟨ao1, c1, g1, o1, retd (tuple3 (slN ?_) (agg4 (vint ?_) (vint ?_) (vint ?_) (vint ?_)) (vint ?_)), (by first | exact hv1 | exact .inl hz_ | (rw [← hD]; exact hv1)), (by omega), (HE.fn_to (hw.get 1 g1 (.fn o1 (o1 + l.length * 4) (entV (gtD l) o1))) ?_ ?_), hw.fr0⟩
  all_goals (first | (first | rfl | (rw [← hD]; done) | (rw [← hV]; done) | (intro x_ _ _; rw [← hD]) | exact hE | exact hV | omega | (simp; omega)) | (intro x_ hx_; rfl) | (intro x_ hx_ hy_; rfl))
 ·
  have hkn : ¬ eIx l id < 0 := by omega
  obtain ⟨hD, hV, hE⟩ := eKil_2 (L := l) (id := id) hkn
  refine wp_skip ?_
  refine pop_then ?_
  refine hS.regS [0] [0, 5, 7] fun _ => seg [(8, vnil)] [(0, none), (1, none), (2, none)] [] trivial fun ac wd hS => ?_
  refine wp_seq ?_
  replace hS := hS.to (hS.mem.grNew 122 4 (entV (gtD ([] : List (Int × Int × Int × Int))) 0))
  refine hS.regS [0, 0, 0] [0, 5, 7, 8] fun _ => seg [(18, .slice ao1 l.length c1), (19, vi ((l.length : Nat) : Int)), (20, vi 0)] [(0, none), (1, none), (2, none)] [] trivial fun ac wd hS => ?_
  refine wp_block ?_
  refine St.loopC (σ := Int × Option Addr × Nat × (Nat → Prop) × (List (Int × Int × Int × Int))) (fun (x : Int × Option Addr × Nat × (Nat → Prop) × (List (Int × Int × Int × Int))) => match x with | (x20, aoq, cq, Fq, lq) => ⟨[(0, [], .slice ao1 l.length c1), (5, [], pt (ν1 0) 0), (7, [], vi (eIx l id)), (8, [], .slice aoq lq.length cq), (18, [], .slice ao1 l.length c1), (19, [], vi ((l.length : Nat) : Int)), (20, [], vi x20)], [(1, .fn 0 64 dbT), (g1, .fn o1 (o1 + l.length * 4) (entV (gtD l) o1)), ((ν1 0), .cells [vu 0, v8 0, v8 0, vu 0] 122)], [grR 122 4 (.slice aoq lq.length cq) Fq (lq.length, (entV (gtD lq) 0))], (0 ≤ x20 ∧ x20 ≤ (l.length : Int)) ∧ (lq = allG (fun i => i != (eIx l id).toNat) (gtD l) (Int.toNat x20)) ∧ True, l.length - Int.toNat x20⟩) (0, none, 0, no, ([] : List (Int × Int × Int × Int))) ⟨(by first | omega | rfl), (by first | omega | rfl), trivial⟩ hS ?_
  clear hS
  rintro ⟨x20, aoq, cq, Fq, lq⟩ ⟨i0, i1, -⟩ ac wd hS
  replace i0 : 0 ≤ x20 ∧ x20 ≤ (l.length : Int) := i0
  replace i1 : lq = allG (fun i => i != (eIx l id).toNat) (gtD l) (Int.toNat x20) := i1
  refine hS.regS [0] [0, 5, 7, 8, 18, 19, 20] fun _ => seg [(21, vb (decide ((x20 : Int) < ((l.length : Nat) : Int))))] [(0, none), (1, none), (2, none)] [] trivial fun ac wd hS => ?_
  refine wp_seq ?_
  refine hS.condC (decide ((x20 : Int) < ((l.length : Nat) : Int))) (fun hb2o hb2 => ?_) (fun hb2o hb2 => ?_)
  ·
   refine wp_skip ?_
   refine pop_then ?_
   refine wp_seq ?_
   refine wp_block ?_
   obtain rfl : ao1 = some ⟨g1, o1, none⟩ := Or.resolve_left hv1 (by omega)
   refine hS.regS [0, 20, fx 100 (.agg #[vu (((gtD l) (Int.toNat x20)).1), v8 (((gtD l) (Int.toNat x20)).2.1), v8 (((gtD l) (Int.toNat x20)).2.2.1), vu (((gtD l) (Int.toNat x20)).2.2.2)]), 0, 0, 300] [0, 5, 7, 8, 18, 19, 20] fun ν9 => seg [(9, vi x20), (10, pt (ν9 0) 0)] [(0, none), (1, none), (2, none), (3, some ((ν9 0), .cells [vu (((gtD l) (Int.toNat x20)).1), v8 (((gtD l) (Int.toNat x20)).2.1), v8 (((gtD l) (Int.toNat x20)).2.2.1), vu (((gtD l) (Int.toNat x20)).2.2.2)] 122))] [.e (ν9 0), .e (ν9 0), .e (ν9 0), .e (ν9 0), .p ((.agg #[((entV (gtD l) o1) (o1 + Int.toNat x20 * 4)), ((entV (gtD l) o1) (o1 + Int.toNat x20 * 4 + 1)), ((entV (gtD l) o1) (o1 + Int.toNat x20 * 4 + 2)), ((entV (gtD l) o1) (o1 + Int.toNat x20 * 4 + 3))] : Value) = .agg #[vu (((gtD l) (Int.toNat x20)).1), v8 (((gtD l) (Int.toNat x20)).2.1), v8 (((gtD l) (Int.toNat x20)).2.2.1), vu (((gtD l) (Int.toNat x20)).2.2.2)]), .e g1, .p (o1 ≤ o1 + Int.toNat x20 * 4 + 3 ∧ o1 + Int.toNat x20 * 4 + 3 < (o1 + l.length * 4)), .e g1, .p (o1 ≤ o1 + Int.toNat x20 * 4 + 2 ∧ o1 + Int.toNat x20 * 4 + 2 < (o1 + l.length * 4)), .e g1, .p (o1 ≤ o1 + Int.toNat x20 * 4 + 1 ∧ o1 + Int.toNat x20 * 4 + 1 < (o1 + l.length * 4)), .e g1, .p (o1 ≤ o1 + Int.toNat x20 * 4 ∧ o1 + Int.toNat x20 * 4 < (o1 + l.length * 4)), .p ((0 : Int) ≤ x20 ∧ (x20 : Int) < ((l.length : Nat) : Int))] ⟨(agg4 (entV_0 (gtD l) o1 (Int.toNat x20)) (entV_1 (gtD l) o1 (Int.toNat x20)) (entV_2 (gtD l) o1 (Int.toNat x20)) (entV_3 (gtD l) o1 (Int.toNat x20))), (by omega), (by omega), (by omega), (by omega), (by omega), trivial⟩ fun ac wd hS => ?_
   refine hS.regS [0, 0, 0] [0, 5, 7, 8, 10, 18, 19, 20] fun _ => seg [(27, vb ((x20 : Int) != (eIx l id)))] [(0, none), (1, none), (2, none), (3, none)] [] trivial fun ac wd hS => ?_
   refine hS.condC ((x20 : Int) != (eIx l id)) (fun hb3o hb3 => ?_) (fun hb3o hb3 => ?_)
   ·
    have hn : (Int.toNat x20 != (eIx l id).toNat) = true := by simp; omega
    refine wp_region_lit ?_
    refine hS.opsC 3 [0, 300, 0] [0, 5, 7, 8, 18, 19, 20] fun ν11 => seg [(28, .slice aoq lq.length cq), (30, sc (ν11 0) 0 1 1)] [(0, none), (1, none), (2, none), (4, some ((ν11 0), .cells [vu (((gtD l) (Int.toNat x20)).1), v8 (((gtD l) (Int.toNat x20)).2.1), v8 (((gtD l) (Int.toNat x20)).2.2.1), vu (((gtD l) (Int.toNat x20)).2.2.2)] 122))] [.e (ν9 0), .e (ν9 0), .e (ν9 0), .e (ν9 0)] trivial fun ac wd hS => ?_
    obtain ⟨i_, hi_, hz_, hs_, hb_⟩ := info_get (P := Tryd.prog) (e := 122) (z := .agg #[vu 0, v8 0, v8 0, vu 0]) (s := 4) (b := 24) (by kernel_rfl)
    refine Runs1.list ?_
    refine St.appV (m := lq.length) (f := (entV (gtD lq) 0)) (news := [vu (((gtD l) (Int.toNat x20)).1), v8 (((gtD l) (Int.toNat x20)).2.1), v8 (((gtD l) (Int.toNat x20)).2.2.1), vu (((gtD l) (Int.toNat x20)).2.2.2)]) (bx := (ν11 0)) (cx := 1) (Tx := 122) 0 hS (.tmp 28) (.tmp 30) 115 rfl rfl (by decide) Tryd.underlying115 hi_ hz_ hs_ (by omega) rfl (by decide) 3 rfl rfl (by (have := allG_len (fun i => i != (eIx l id).toNat) (gtD l) (Int.toNat x20); rw [← i1] at this; omega)) fun ac wd v2_ F6 hB7 hS => ?_
    obtain ⟨xo4, xc5, rfl⟩ := hB7.slice
    replace hS := hS.to (hS.mem.grTell (m := (lq.length + 1)) 0 (entV (gtD (lq ++ [(((gtD l) (Int.toNat x20)).1, ((gtD l) (Int.toNat x20)).2.1, ((gtD l) (Int.toNat x20)).2.2.1, ((gtD l) (Int.toNat x20)).2.2.2)])) 0) (entV_app lq (((gtD l) (Int.toNat x20)).1) (((gtD l) (Int.toNat x20)).2.1) (((gtD l) (Int.toNat x20)).2.2.1) (((gtD l) (Int.toNat x20)).2.2.2)))
    have hm_ : lq.length + 1 = ((lq ++ [(((gtD l) (Int.toNat x20)).1, ((gtD l) (Int.toNat x20)).2.1, ((gtD l) (Int.toNat x20)).2.2.1, ((gtD l) (Int.toNat x20)).2.2.2)])).length := by simp
    replace hS := hS.to (hS.mem.grRe (v := .slice xo4 (lq.length + 1) xc5) (v' := .slice xo4 (((lq ++ [(((gtD l) (Int.toNat x20)).1, ((gtD l) (Int.toNat x20)).2.1, ((gtD l) (Int.toNat x20)).2.2.1, ((gtD l) (Int.toNat x20)).2.2.2)])).length) xc5) (m := (lq.length + 1)) (m' := ((lq ++ [(((gtD l) (Int.toNat x20)).1, ((gtD l) (Int.toNat x20)).2.1, ((gtD l) (Int.toNat x20)).2.2.1, ((gtD l) (Int.toNat x20)).2.2.2)])).length) (f := (entV (gtD (lq ++ [(((gtD l) (Int.toNat x20)).1, ((gtD l) (Int.toNat x20)).2.1, ((gtD l) (Int.toNat x20)).2.2.1, ((gtD l) (Int.toNat x20)).2.2.2)])) 0)) 0 (by rw [hm_]) hm_)
    replace hS := hS.fix 31 (.slice xo4 (((lq ++ [(((gtD l) (Int.toNat x20)).1, ((gtD l) (Int.toNat x20)).2.1, ((gtD l) (Int.toNat x20)).2.2.1, ((gtD l) (Int.toNat x20)).2.2.2)])).length) xc5) (show (.slice xo4 (lq.length + 1) xc5 : Value) = .slice xo4 (((lq ++ [(((gtD l) (Int.toNat x20)).1, ((gtD l) (Int.toNat x20)).2.1, ((gtD l) (Int.toNat x20)).2.2.1, ((gtD l) (Int.toNat x20)).2.2.2)])).length) xc5 by rw [hm_])
    refine hS.opsC 1 [0] [0, 5, 7, 18, 19, 20] fun _ => seg [(8, .slice xo4 (((lq ++ [(((gtD l) (Int.toNat x20)).1, ((gtD l) (Int.toNat x20)).2.1, ((gtD l) (Int.toNat x20)).2.2.1, ((gtD l) (Int.toNat x20)).2.2.2)])).length) xc5)] [(0, none), (1, none), (2, none)] [] trivial fun ac wd hS => ?_
    refine list_nil ?_
    refine pop_block ?_
    refine pop_then ?_
    refine hS.regC [20, 0] [0, 5, 7, 8, 18, 19] fun _ => seg [(20, vi (x20 + 1))] [(0, none), (1, none), (2, none)] [.p (fit .i64 (x20 + 1))] ⟨fit_i64 (by omega), trivial⟩ fun ac wd hS => ?_
    exact pop_then (hS.next ((x20 + 1), xo4, xc5, F6, (lq ++ [(((gtD l) (Int.toNat x20)).1, ((gtD l) (Int.toNat x20)).2.1, ((gtD l) (Int.toNat x20)).2.2.1, ((gtD l) (Int.toNat x20)).2.2.2)])) ⟨(by first | omega | assumption | (simp; done) | (simp; omega)), (by first | exact allG_yes i1 i0.1 hn | exact allG_no i1 i0.1 hn), trivial⟩ (by dsimp only; omega))
   ·
    have hn : (Int.toNat x20 != (eIx l id).toNat) = false := by simp; omega
    refine wp_skip ?_
    refine pop_block ?_
    refine pop_then ?_
    refine hS.regC [20, 0] [0, 5, 7, 8, 18, 19] fun _ => seg [(20, vi (x20 + 1))] [(0, none), (1, none), (2, none)] [.p (fit .i64 (x20 + 1))] ⟨fit_i64 (by omega), trivial⟩ fun ac wd hS => ?_
    exact pop_then (hS.next ((x20 + 1), aoq, cq, Fq, lq) ⟨(by first | omega | assumption | (simp; done) | (simp; omega)), (by first | exact allG_yes i1 i0.1 hn | exact allG_no i1 i0.1 hn), trivial⟩ (by dsimp only; omega))
  ·
   refine wp_exit ?_
   refine pop_then_exit ?_
   refine pop_then_exit ?_
   refine pop_block_hit ?_
   refine pop_then ?_
   obtain rfl : ao1 = some ⟨g1, o1, none⟩ := Or.resolve_left hv1 (by omega)
   refine St.ordBeginS [(0, 1), (1, 1), (2, 1), (3, 1), (4, 1), (5, 1), (6, 0), (7, 1)] [(1, .fn 0 64 dbT), (g1, .fn o1 (o1 + l.length * 4) (entV (gtD l) o1))] [0, 1] hS fun wd hS => ?_
   have hap := hS.mem.pairs (Hf := [(1, .fn 0 64 dbT), (g1, .fn o1 (o1 + l.length * 4) (entV (gtD l) o1))]) (l := [0, 1])
   refine St.ordF [0, 0, 0, 20, fx 100 (.agg #[vu (((gtD l) (Int.toNat (eIx l id))).1), v8 (((gtD l) (Int.toNat (eIx l id))).2.1), v8 (((gtD l) (Int.toNat (eIx l id))).2.2.1), vu (((gtD l) (Int.toNat (eIx l id))).2.2.2)]), 0] [0, 1, 2, 3, 4, 5] [5] (rest := [(6, 0), (7, 1)]) hS hap <| segF [(4, .slice aoq lq.length cq), (37, .agg #[vu (((gtD l) (Int.toNat (eIx l id))).1), v8 (((gtD l) (Int.toNat (eIx l id))).2.1), v8 (((gtD l) (Int.toNat (eIx l id))).2.2.1), vu (((gtD l) (Int.toNat (eIx l id))).2.2.2)])] [.p ((.agg #[((entV (gtD l) o1) (o1 + Int.toNat (eIx l id) * 4)), ((entV (gtD l) o1) (o1 + Int.toNat (eIx l id) * 4 + 1)), ((entV (gtD l) o1) (o1 + Int.toNat (eIx l id) * 4 + 2)), ((entV (gtD l) o1) (o1 + Int.toNat (eIx l id) * 4 + 3))] : Value) = .agg #[vu (((gtD l) (Int.toNat (eIx l id))).1), v8 (((gtD l) (Int.toNat (eIx l id))).2.1), v8 (((gtD l) (Int.toNat (eIx l id))).2.2.1), vu (((gtD l) (Int.toNat (eIx l id))).2.2.2)]), .e g1, .p (o1 ≤ o1 + Int.toNat (eIx l id) * 4 + 3 ∧ o1 + Int.toNat (eIx l id) * 4 + 3 < (o1 + l.length * 4)), .e g1, .p (o1 ≤ o1 + Int.toNat (eIx l id) * 4 + 2 ∧ o1 + Int.toNat (eIx l id) * 4 + 2 < (o1 + l.length * 4)), .e g1, .p (o1 ≤ o1 + Int.toNat (eIx l id) * 4 + 1 ∧ o1 + Int.toNat (eIx l id) * 4 + 1 < (o1 + l.length * 4)), .e g1, .p (o1 ≤ o1 + Int.toNat (eIx l id) * 4 ∧ o1 + Int.toNat (eIx l id) * 4 < (o1 + l.length * 4)), .p ((0 : Int) ≤ (eIx l id) ∧ ((eIx l id) : Int) < ((l.length : Nat) : Int))] ⟨(agg4 (entV_0 (gtD l) o1 (Int.toNat (eIx l id))) (entV_1 (gtD l) o1 (Int.toNat (eIx l id))) (entV_2 (gtD l) o1 (Int.toNat (eIx l id))) (entV_3 (gtD l) o1 (Int.toNat (eIx l id)))), (by omega), (by omega), (by omega), (by omega), (by omega), trivial⟩ fun ac hS => ?_
   refine St.ord1 6 [200] [4, 5] [0, 1] hS rfl fun _ => seg [] [(0, none), (1, none), (2, some ((ν1 0), .cells [vu (((gtD l) (Int.toNat (eIx l id))).1), v8 (((gtD l) (Int.toNat (eIx l id))).2.1), v8 (((gtD l) (Int.toNat (eIx l id))).2.2.1), vu (((gtD l) (Int.toNat (eIx l id))).2.2.2)] 122))] [.e (ν1 0), .e (ν1 0), .e (ν1 0), .e (ν1 0)] trivial ⟨by as_aux_lemma => kernel_rfl, fun ac wd hS => ?_⟩
   refine St.ordF [0] [7] [4, 5] (rest := []) hS hap <| segF [(6, vi 0)] [] trivial fun ac hS => ?_
   refine ord_nil ?_
   refine wp_ret ?_
   have hq_ : (eKilL l id) = lq := (show lq = (eKilL l id) by rw [i1, show Int.toNat x20 = l.length by omega]; exact hD).symm
   subst hq_
   rcases Nat.eq_zero_or_pos ((eKilL l id).length) with hz_ | hz_
   ·
    have hm_ : (eKilL l id).length = 0 := by exact hz_
    replace hS := hS.to (hS.mem.grRe (v := .slice aoq ((eKilL l id).length) cq) (v' := .slice aoq 0 cq) (m := ((eKilL l id).length)) (m' := 0) (f := (entV (gtD (eKilL l id)) 0)) 0 (by rw [hm_]) hm_)
    replace hS := hS.fix 4 (.slice aoq 0 cq) (show (.slice aoq ((eKilL l id).length) cq : Value) = .slice aoq 0 cq by rw [hm_])
    obtain ⟨hv_, hO⟩ := WS.grNil (e := 122) (sz := 4) (m := 0) (f := (entV (gtD (eKilL l id)) 0)) hS.mem (by omega)
    obtain ⟨rfl, rfl⟩ : (none : Option Addr) = aoq ∧ 0 = cq := by cases hv_; exact ⟨rfl, rfl⟩
    clear hv_
    replace hS := hS.to hO
    clear hO
    refine St.retC 2 hS (.tuple #[vnil, .agg #[vu (((gtD l) (Int.toNat (eIx l id))).1), v8 (((gtD l) (Int.toNat (eIx l id))).2.1), v8 (((gtD l) (Int.toNat (eIx l id))).2.2.1), vu (((gtD l) (Int.toNat (eIx l id))).2.2.2)], vi 0]) [.e (ν1 0), .e (ν1 0), .e (ν1 0), .e (ν1 0)] trivial fun hw => ?_
    refine ⟨none, 0, 1, 0, retd (tuple3 (slN ?_) (agg4 (vint ?_) (vint ?_) (vint ?_) (vint ?_)) (vint ?_)), (by first | exact (.inl rfl) | exact .inl hz_ | (rw [← hD]; exact (.inl rfl))), (by omega), (HE.fn_none (hw.get 0 1 (.fn 0 64 dbT)) ?_), hw.fr0⟩
    all_goals (first | (first | rfl | (rw [← hD]; done) | (rw [← hV]; done) | (intro x_ _ _; rw [← hD]) | exact hE | exact hV | omega | (simp; omega)) | (intro x_ hx_; rfl) | (intro x_ hx_ hy_; rfl))
   ·
    obtain ⟨gg8, cp9, hv_, hcp_, hO⟩ := WS.grOpen (e := 122) (sz := 4) (m := ((eKilL l id).length)) (f := (entV (gtD (eKilL l id)) 0)) hS.mem (by omega)
    obtain ⟨rfl, rfl⟩ : some (⟨gg8, 0, none⟩ : Addr) = aoq ∧ cp9 = cq := by cases hv_; exact ⟨rfl, rfl⟩
    clear hv_
    replace hS := hS.to hO
    clear hO
    refine St.retC 2 hS (.tuple #[sc gg8 0 ((eKilL l id).length) cp9, .agg #[vu (((gtD l) (Int.toNat (eIx l id))).1), v8 (((gtD l) (Int.toNat (eIx l id))).2.1), v8 (((gtD l) (Int.toNat (eIx l id))).2.2.1), vu (((gtD l) (Int.toNat (eIx l id))).2.2.2)], vi 0]) [.e (ν1 0), .e (ν1 0), .e (ν1 0), .e (ν1 0)] trivial fun hw => ?_
    refine ⟨(some ⟨gg8, 0, none⟩), cp9, gg8, 0, retd (tuple3 rfl (agg4 (vint ?_) (vint ?_) (vint ?_) (vint ?_)) (vint ?_)), (by first | exact (.inr rfl) | exact .inl hz_ | (rw [← hD]; exact (.inr rfl))), (by have hg_ : w.heap.size ≤ gg8 := (hw.getm 3 gg8 (.row 122 ((eKilL l id).length * 4) (cp9 * 4) (entV (gtD (eKilL l id)) 0))).resolve_right (fun h => h); omega), (HE.row_to (hw.get 3 gg8 (.row 122 ((eKilL l id).length * 4) (cp9 * 4) (entV (gtD (eKilL l id)) 0))) ?_ ?_), hw.fr0⟩
    all_goals (first | (first | rfl | (rw [← hD]; done) | (rw [← hV]; done) | (intro x_ _ _; rw [← hD]) | exact hE | exact hV | omega | (simp; omega)) | (intro x_ hx_; rfl) | (intro x_ hx_ hy_; rfl))

set_option maxRecDepth 100000 in
set_option maxHeartbeats 1000000 in
theorem r21_Pop (ao1 : Option Addr) (c1 : Nat) (g1 : Nat) (o1 : Nat) (l : List (Int × Int × Int × Int)) (w : World) (hh0 : HE.holds w 1 (.fn 0 64 dbT)) (hh1 : HE.holds w g1 (.fn o1 (o1 + l.length * 4) (entV (gtD l) o1))) (hv1 : (l.length = 0 ∨ ao1 = some ⟨g1, o1, none⟩)) (hl : l.length ≤ 4294967295) :
    Calls Tryd.prog 62 #[.slice ao1 l.length c1] w fun e w' => ∃ (ao2 : Option Addr) (c2 : Nat) (g2 : Nat) (o2 : Nat), e = .returned (.tuple #[.slice ao2 ((ePopL l).length) c2, .agg #[vu (((ePopV l)).1), v8 (((ePopV l)).2.1), v8 (((ePopV l)).2.2.1), vu (((ePopV l)).2.2.2)], vb (ePopB l)]) ∧ ((ePopL l).length = 0 ∨ ao2 = some ⟨g2, o2, none⟩) ∧ (g2 = g1 ∨ g2 = 1 ∨ w.heap.size ≤ g2) ∧ HE.holds w' g2 (.fn o2 (o2 + (ePopL l).length * 4) (entV (gtD (ePopL l)) o2)) ∧ Fr w w' no no := by
 refine enter (args := [.slice ao1 l.length c1]) (D := no) (A := []) Tryd.func62 rfl 28 rfl [(1, .fn 0 64 dbT), (g1, .fn o1 (o1 + l.length * 4) (entV (gtD l) o1))] (WS.startL ⟨⟨rfl, hh0⟩, ⟨rfl, hh1⟩, trivial⟩) fun ac hS => ?_
 refine hS.regS [0, 0, 0] [0] fun ν1 => seg [(3, pt (ν1 0) 0)] [(0, none), (1, none), (2, some ((ν1 0), .cells [vu 0, v8 0, v8 0, vu 0] 122))] [] trivial fun ac wd hS => ?_
 refine wp_seq ?_
 refine hS.regS [0, 0, 0] [0, 3] fun _ => seg [(10, vb ((((l.length : Nat) : Int) : Int) == 0))] [(0, none), (1, none), (2, none)] [] trivial fun ac wd hS => ?_
 refine hS.condC ((((l.length : Nat) : Int) : Int) == 0) (fun hb1o hb1 => ?_) (fun hb1o hb1 => ?_)
 ·
  obtain ⟨hD, hV, hE⟩ := ePop_1 (L := l) (by omega)
  refine hS.regS [0, 0, 0, 200, 0] [3] fun _ => seg [(2, .slice ao1 l.length c1), (4, vb false)] [(0, none), (1, none), (2, none)] [.e (ν1 0), .e (ν1 0), .e (ν1 0), .e (ν1 0)] trivial fun ac wd hS => ?_
  refine wp_ret ?_
  refine pop_then_ret ?_
  refine St.retC 2 hS (.tuple #[.slice ao1 l.length c1, .agg #[vu 0, v8 0, v8 0, vu 0], vb false]) [.e (ν1 0), .e (ν1 0), .e (ν1 0), .e (ν1 0)] trivial fun hw => ?_
  refine ⟨ao1, c1, g1, o1, retd (tuple3 (slN ?_) (agg4 (vint ?_) (vint ?_) (vint ?_) (vint ?_)) (vbool ?_)), (by first | exact hv1 | exact .inl hz_ | (rw [← hD]; exact hv1)), (by omega), (HE.fn_to (hw.get 1 g1 (.fn o1 (o1 + l.length * 4) (entV (gtD l) o1))) ?_ ?_), hw.fr0⟩
  all_goals (first | (first | rfl | (rw [← hD]; done) | (rw [← hV]; done) | (intro x_ _ _; rw [← hD]) | exact hE | exact hV | omega | (simp; omega)) | (intro x_ hx_; rfl) | (intro x_ hx_ hy_; rfl))
 ·
  obtain ⟨hD, hV, hE⟩ := ePop_2 (L := l) (by omega)
  refine wp_skip ?_
  refine pop_then ?_
  obtain rfl : ao1 = some ⟨g1, o1, none⟩ := Or.resolve_left hv1 (by omega)
  refine wp_region_seq ?_
  refine hS.opsC 8 [0, 0, 0, 0, 20, 20, 0, fx 100 (vu (lastId l))] [3] fun _ => seg [(14, sc g1 o1 l.length c1), (21, vu (lastId l))] [(0, none), (1, none), (2, none)] [.p ((((entV (gtD l) o1) (o1 + Int.toNat (((l.length : Nat) : Int) - 1) * 4)) : Value) = vu (lastId l)), .e g1, .p (o1 ≤ o1 + Int.toNat (((l.length : Nat) : Int) - 1) * 4 ∧ o1 + Int.toNat (((l.length : Nat) : Int) - 1) * 4 < (o1 + l.length * 4)), .p ((0 : Int) ≤ (((l.length : Nat) : Int) - 1) ∧ ((((l.length : Nat) : Int) - 1) : Int) < ((l.length : Nat) : Int)), .p (fit .i64 (((l.length : Nat) : Int) - 1))] ⟨(((entV_0 (gtD l) o1 (Int.toNat (((l.length : Nat) : Int) - 1)))).trans (lastId_eq (by omega))), (by omega), (by omega), fit_i64 (by omega), trivial⟩ fun ac wd hS => ?_
  refine hS.callC 60 #[sc g1 o1 l.length c1, vu (lastId l)] (r21_Kill (some ⟨g1, o1, none⟩) c1 g1 o1 l (lastId l) _ (hS.mem.get 0 1 (.fn 0 64 dbT)) (hS.mem.get 1 g1 (.fn o1 (o1 + l.length * 4) (entV (gtD l) o1))) (.inr rfl) (by first | assumption | omega | (simp_all; done) | (simp_all; omega))) ?_
  rintro _ wd ⟨ao22, c23, g24, o25, rfl, hv26, hog0, hoh0, hF⟩
  have ho7 : g24 = g1 ∨ g24 = 1 ∨ w.heap.size ≤ g24 := by have := hS.mem.fr.size; have : w.heap.size ≤ _ := this; omega
  refine ⟨.tuple #[.slice ao22 ((eKilL l (lastId l)).length) c23, .agg #[vu (((eKilV l (lastId l))).1), v8 (((eKilV l (lastId l))).2.1), v8 (((eKilV l (lastId l))).2.2.1), vu (((eKilV l (lastId l))).2.2.2)], vi (eKilE l (lastId l))], rfl, ?_⟩
  replace hS := (hS.to (hS.mem.outs hF [(g24, .fn o25 (o25 + (eKilL l (lastId l)).length * 4) (entV (gtD (eKilL l (lastId l))) o25))] ⟨⟨rfl, hoh0, (fun q_ => q_.elim (fun e => .inl ⟨1, .fn o1 (o1 + l.length * 4) (entV (gtD l) o1), by rw [e]; as_aux_lemma => kernel_rfl, rfl⟩) (fun q_ => q_.elim (fun e => .inl ⟨0, .fn 0 64 dbT, by rw [e]; as_aux_lemma => kernel_rfl, rfl⟩) (fun q_ => .inr q_))) hog0⟩, trivial⟩)).put (d := 22) (v := .tuple #[.slice ao22 ((eKilL l (lastId l)).length) c23, .agg #[vu (((eKilV l (lastId l))).1), v8 (((eKilV l (lastId l))).2.1), v8 (((eKilV l (lastId l))).2.2.1), vu (((eKilV l (lastId l))).2.2.2)], vi (eKilE l (lastId l))]) (by decide)
  clear hF
  refine hS.opsC 8 [0, 0, 0, 0, 0, 0, 400, 0] [3] fun ν5 => seg [(5, .slice ao22 ((eKilL l (lastId l)).length) c23), (6, pt (ν5 0) 0)] [(0, none), (2, none), (3, none), (4, some ((ν5 0), .cells [vu (((eKilV l (lastId l))).1), v8 (((eKilV l (lastId l))).2.1), v8 (((eKilV l (lastId l))).2.2.1), vu (((eKilV l (lastId l))).2.2.2)] 122))] [.e (ν5 0), .e (ν5 0), .e (ν5 0), .e (ν5 0)] trivial fun ac wd hS => ?_
  refine list_nil_seq ?_
  refine St.ordBeginS [(0, 1), (1, 1), (2, 1), (3, 0), (4, 1)] [(1, .fn 0 64 dbT), (g24, .fn o25 (o25 + (eKilL l (lastId l)).length * 4) (entV (gtD (eKilL l (lastId l))) o25)), ((ν5 0), .cells [vu (((eKilV l (lastId l))).1), v8 (((eKilV l (lastId l))).2.1), v8 (((eKilV l (lastId l))).2.2.1), vu (((eKilV l (lastId l))).2.2.2)] 122)] [0, 2, 3] hS fun wd hS => ?_
  have hap := hS.mem.pairs (Hf := [(1, .fn 0 64 dbT), (g24, .fn o25 (o25 + (eKilL l (lastId l)).length * 4) (entV (gtD (eKilL l (lastId l))) o25)), ((ν5 0), .cells [vu (((eKilV l (lastId l))).1), v8 (((eKilV l (lastId l))).2.1), v8 (((eKilV l (lastId l))).2.2.1), vu (((eKilV l (lastId l))).2.2.2)] 122)]) (l := [0, 2, 3])
  refine St.ordF [0, 200, 0] [0, 1, 2] [3] (rest := [(3, 0), (4, 1)]) hS hap <| segF [(2, .slice ao22 ((eKilL l (lastId l)).length) c23), (27, .agg #[vu (((eKilV l (lastId l))).1), v8 (((eKilV l (lastId l))).2.1), v8 (((eKilV l (lastId l))).2.2.1), vu (((eKilV l (lastId l))).2.2.2)])] [.e (ν5 0), .e (ν5 0), .e (ν5 0), .e (ν5 0)] trivial fun ac hS => ?_
  refine St.ord1 3 [100] [2, 3] [0, 2, 3] hS rfl fun _ => seg [] [(0, none), (1, some ((ν1 0), .cells [vu (((eKilV l (lastId l))).1), v8 (((eKilV l (lastId l))).2.1), v8 (((eKilV l (lastId l))).2.2.1), vu (((eKilV l (lastId l))).2.2.2)] 122)), (2, none), (3, none)] [.e (ν1 0), .e (ν1 0), .e (ν1 0), .e (ν1 0)] trivial ⟨by as_aux_lemma => kernel_rfl, fun ac wd hS => ?_⟩
  refine St.ordF [0] [4] [2, 3] (rest := []) hS hap <| segF [(4, vb true)] [] trivial fun ac hS => ?_
  refine ord_nil ?_
  refine wp_ret ?_
  refine St.retC 1 hS (.tuple #[.slice ao22 ((eKilL l (lastId l)).length) c23, .agg #[vu (((eKilV l (lastId l))).1), v8 (((eKilV l (lastId l))).2.1), v8 (((eKilV l (lastId l))).2.2.1), vu (((eKilV l (lastId l))).2.2.2)], vb true]) [.e (ν1 0), .e (ν1 0), .e (ν1 0), .e (ν1 0)] trivial fun hw => ?_
  refine ⟨ao22, c23, g24, o25, retd (tuple3 (slN ?_) (agg4 (vint ?_) (vint ?_) (vint ?_) (vint ?_)) (vbool ?_)), (by first | exact hv26 | exact .inl hz_ | (rw [← hD]; exact hv26)), (by omega), (HE.fn_to (hw.get 2 g24 (.fn o25 (o25 + (eKilL l (lastId l)).length * 4) (entV (gtD (eKilL l (lastId l))) o25))) ?_ ?_), hw.fr0⟩
  all_goals (first | (first | rfl | (rw [← hD]; done) | (rw [← hV]; done) | (intro x_ _ _; rw [← hD]) | exact hE | exact hV | omega | (simp; omega)) | (intro x_ hx_; rfl) | (intro x_ hx_ hy_; rfl))

set_option maxRecDepth 100000 in
set_option maxHeartbeats 1000000 in
theorem r21_Add (ao1 : Option Addr) (c1 : Nat) (g1 : Nat) (o1 : Nat) (l : List (Int × Int × Int × Int)) (sl : Int) (id : Int) (kd : Int) (lv : Int) (ar : Int) (w : World) (hh0 : HE.holds w 1 (.fn 0 64 dbT)) (hh1 : HE.holds w g1 (.fn o1 (o1 + l.length * 4) (entV (gtD l) o1))) (hv1 : (l.length = 0 ∨ ao1 = some ⟨g1, o1, none⟩)) (hl : l.length ≤ 4294967200) :
    Calls Tryd.prog 64 #[.slice ao1 l.length c1, vi sl, .agg #[vu id, v8 kd, v8 lv, vu ar]] w fun e w' => ∃ (ao2 : Option Addr) (c2 : Nat) (g2 : Nat) (o2 : Nat), e = .returned (.tuple #[.slice ao2 ((eAddL l sl id kd lv ar).length) c2, vi (eAddE l sl id)]) ∧ ((eAddL l sl id kd lv ar).length = 0 ∨ ao2 = some ⟨g2, o2, none⟩) ∧ (g2 = g1 ∨ g2 = 1 ∨ w.heap.size ≤ g2) ∧ HE.holds w' g2 (.fn o2 (o2 + (eAddL l sl id kd lv ar).length * 4) (entV (gtD (eAddL l sl id kd lv ar)) o2)) ∧ Fr w w' no no := by
 have hf := eIx_rng l id
 refine enter (args := [.slice ao1 l.length c1, vi sl, .agg #[vu id, v8 kd, v8 lv, vu ar]]) (D := no) (A := []) Tryd.func64 rfl 36 rfl [(1, .fn 0 64 dbT), (g1, .fn o1 (o1 + l.length * 4) (entV (gtD l) o1))] (WS.startL ⟨⟨rfl, hh0⟩, ⟨rfl, hh1⟩, trivial⟩) fun ac hS => ?_
 refine hS.regS [0, 0, 0] [0, 1] fun ν1 => seg [(5, pt (ν1 0) 0)] [(0, none), (1, none), (2, some ((ν1 0), .cells [vu id, v8 kd, v8 lv, vu ar] 122))] [] trivial fun ac wd hS => ?_
 refine wp_seq ?_
 refine hS.regS [0, 200, 0, 0, 3, 203, 3, 80] [0, 1, 5] fun _ => seg [(16, vb (((id : Int) == 0) || (decide ((281474976710655 : Int) < id))))] [(0, none), (1, none), (2, none)] [.p (((((id : Int) == 0) = false) ∧ True) → AllP [((ν1 0) : Nat) = (ν1 0)]), .e (ν1 0)] ⟨(fun ⟨hc0, _⟩ => by replace hc0 := nrm hc0; exact ⟨rfl, trivial⟩), trivial⟩ fun ac wd hS => ?_
 refine hS.condC (((id : Int) == 0) || (decide ((281474976710655 : Int) < id))) (fun hb1o hb1 => ?_) (fun hb1o hb1 => ?_)
 ·
  have hq1 : id = 0 ∨ 281474976710655 < id := hb1
  obtain ⟨hD, hE⟩ := eAdd_1 (L := l) (sl := sl) (kd := kd) (lv := lv) (ar := ar) hq1
  refine hS.regS [0, 0, 0] [] fun _ => seg [(6, .slice ao1 l.length c1), (7, vi 2)] [(0, none), (1, none)] [] trivial fun ac wd hS => ?_
  refine wp_ret ?_
  refine pop_then_ret ?_
  refine St.retC 0 hS (.tuple #[.slice ao1 l.length c1, vi 2]) [] trivial fun hw => ?_
  refine ⟨ao1, c1, g1, o1, retd (tuple2 (slN ?_) (vint ?_)), (by first | exact hv1 | exact .inl hz_ | (rw [← hD]; exact hv1) | (exfalso; simp at hz_; done)), (by omega), (HE.fn_to (hw.get 1 g1 (.fn o1 (o1 + l.length * 4) (entV (gtD l) o1))) ?_ ?_), hw.fr0⟩
  all_goals (first | (first | rfl | (exfalso; simp at hz_; done) | (rw [← hD]; done) | (rw [← hD]; omega) | (intro x_ _ _; rw [← hD]; done) | (intro x_ _; rw [← hD]; done) | exact hE) | (intro x_ hx_; rfl) | (intro x_ hx_ hy_; rfl))
 ·
  have hq1 : ¬ (id = 0 ∨ 281474976710655 < id) := by omega
  refine wp_skip ?_
  refine pop_then ?_
  refine wp_seq ?_
  refine wp_region_seq ?_
  refine hS.opsC 3 [0, 0, 200] [0, 1, 5] fun _ => seg [(18, .slice ao1 l.length c1), (20, vu id)] [(0, none), (1, none), (2, none)] [.e (ν1 0)] trivial fun ac wd hS => ?_
  refine hS.call0 147 #[.slice ao1 l.length c1, vu id] 21 (r21_find ao1 c1 g1 o1 l id _ (hS.mem.get 1 g1 (.fn o1 (o1 + l.length * 4) (entV (gtD l) o1))) hv1 (by first | assumption | omega | (simp_all; done) | (simp_all; omega))) fun ac wd hS => ?_
  refine hS.opsC 1 [0] [0, 1, 5] fun _ => seg [(22, vb (decide ((0 : Int) ≤ (eIx l id))))] [(0, none), (1, none), (2, none)] [] trivial fun ac wd hS => ?_
  refine list_nil_seq ?_
  refine hS.condC (decide ((0 : Int) ≤ (eIx l id))) (fun hb2o hb2 => ?_) (fun hb2o hb2 => ?_)
  ·
   obtain ⟨hD, hE⟩ := eAdd_2 (L := l) (sl := sl) (kd := kd) (lv := lv) (ar := ar) hq1 (by omega)
   refine hS.regS [0, 0, 0] [] fun _ => seg [(6, .slice ao1 l.length c1), (7, vi 9)] [(0, none), (1, none)] [] trivial fun ac wd hS => ?_
   refine wp_ret ?_
   refine pop_then_ret ?_
   refine St.retC 0 hS (.tuple #[.slice ao1 l.length c1, vi 9]) [] trivial fun hw => ?_
   refine ⟨ao1, c1, g1, o1, retd (tuple2 (slN ?_) (vint ?_)), (by first | exact hv1 | exact .inl hz_ | (rw [← hD]; exact hv1) | (exfalso; simp at hz_; done)), (by omega), (HE.fn_to (hw.get 1 g1 (.fn o1 (o1 + l.length * 4) (entV (gtD l) o1))) ?_ ?_), hw.fr0⟩
   all_goals (first | (first | rfl | (exfalso; simp at hz_; done) | (rw [← hD]; done) | (rw [← hD]; omega) | (intro x_ _ _; rw [← hD]; done) | (intro x_ _; rw [← hD]; done) | exact hE) | (intro x_ hx_; rfl) | (intro x_ hx_ hy_; rfl))
  ·
   have hq2 : ¬ 0 ≤ eIx l id := by omega
   refine wp_skip ?_
   refine pop_then ?_
   refine wp_seq ?_
   refine hS.regS [0, 0, 0, 0] [0, 5] fun _ => seg [(27, vb (decide ((sl : Int) ≤ ((l.length : Nat) : Int))))] [(0, none), (1, none), (2, none)] [] trivial fun ac wd hS => ?_
   refine hS.condC (decide ((sl : Int) ≤ ((l.length : Nat) : Int))) (fun hb3o hb3 => ?_) (fun hb3o hb3 => ?_)
   ·
    obtain ⟨hD, hE⟩ := eAdd_3 (L := l) (sl := sl) (kd := kd) (lv := lv) (ar := ar) hq1 hq2 (by omega)
    refine hS.regS [0, 0, 0] [] fun _ => seg [(6, .slice ao1 l.length c1), (7, vi 10)] [(0, none), (1, none)] [] trivial fun ac wd hS => ?_
    refine wp_ret ?_
    refine pop_then_ret ?_
    refine St.retC 0 hS (.tuple #[.slice ao1 l.length c1, vi 10]) [] trivial fun hw => ?_
    refine ⟨ao1, c1, g1, o1, retd (tuple2 (slN ?_) (vint ?_)), (by first | exact hv1 | exact .inl hz_ | (rw [← hD]; exact hv1) | (exfalso; simp at hz_; done)), (by omega), (HE.fn_to (hw.get 1 g1 (.fn o1 (o1 + l.length * 4) (entV (gtD l) o1))) ?_ ?_), hw.fr0⟩
    all_goals (first | (first | rfl | (exfalso; simp at hz_; done) | (rw [← hD]; done) | (rw [← hD]; omega) | (intro x_ _ _; rw [← hD]; done) | (intro x_ _; rw [← hD]; done) | exact hE) | (intro x_ hx_; rfl) | (intro x_ hx_ hy_; rfl))
   ·
    obtain ⟨hD, hE⟩ := eAdd_4 (L := l) (sl := sl) (kd := kd) (lv := lv) (ar := ar) hq1 hq2 (by omega)
    refine wp_skip ?_
    refine pop_then ?_
    refine hS.regS [0] [0, 5] fun _ => seg [(8, vnil)] [(0, none), (1, none), (2, none)] [] trivial fun ac wd hS => ?_
    replace hS := hS.to (hS.mem.grNew 122 4 (entV (gtD ([] : List (Int × Int × Int × Int))) 0))
    refine wp_region_seq ?_
    refine hS.opsC 2 [0, 0] [5, 8] fun _ => seg [(29, vnil), (30, .slice ao1 l.length c1)] [(0, none), (1, none), (2, none)] [] trivial fun ac wd hS => ?_
    obtain ⟨i_, hi_, hz_, hs_, hb_⟩ := info_get (P := Tryd.prog) (e := 122) (z := .agg #[vu 0, v8 0, v8 0, vu 0]) (s := 4) (b := 24) (by kernel_rfl)
    refine Runs1.list ?_
    refine St.appL (m := (([] : List (Int × Int × Int × Int)).length)) (f := (entV (gtD ([] : List (Int × Int × Int × Int))) 0)) (ak := ao1) (k := l.length) (ck := c1) (g := g1) (so := o1) (F := (fun j => (entV (gtD l) o1) (o1 + j))) 0 hS (.tmp 29) (.tmp 30) 115 rfl rfl (by decide) Tryd.underlying115 hi_ hz_ hs_ (by omega) rfl (by decide) hv1 (CellsV.fn (hS.mem.get 1 g1 (.fn o1 (o1 + l.length * 4) (entV (gtD l) o1))) (by omega) (by omega)) (fun q_ _ => entV_one _ _ _) (by (simp; omega)) fun ac wd v2_ F6 hB7 hS => ?_
    obtain ⟨xo4, xc5, rfl⟩ := hB7.slice
    replace hS := hS.to (hS.mem.grTell (m := (([] : List (Int × Int × Int × Int)).length + l.length)) 0 (entV (gtD l) 0) (entV_cat ([] : List (Int × Int × Int × Int)) l o1))
    have hm_ : ([] : List (Int × Int × Int × Int)).length + l.length = (l).length := by simp
    replace hS := hS.to (hS.mem.grRe (v := .slice xo4 (([] : List (Int × Int × Int × Int)).length + l.length) xc5) (v' := .slice xo4 ((l).length) xc5) (m := (([] : List (Int × Int × Int × Int)).length + l.length)) (m' := (l).length) (f := (entV (gtD l) 0)) 0 (by rw [hm_]) hm_)
    replace hS := hS.fix 31 (.slice xo4 ((l).length) xc5) (show (.slice xo4 (([] : List (Int × Int × Int × Int)).length + l.length) xc5 : Value) = .slice xo4 ((l).length) xc5 by rw [hm_])
    refine hS.opsC 1 [0] [5] fun _ => seg [(8, .slice xo4 ((l).length) xc5)] [(0, none), (2, none)] [] trivial fun ac wd hS => ?_
    refine list_nil_seq ?_
    refine wp_region_seq ?_
    refine hS.opsC 3 [0, 100, 0] [] fun ν12 => seg [(32, .slice xo4 ((l).length) xc5), (34, sc (ν12 0) 0 1 1)] [(0, none), (2, some ((ν12 0), .cells [vu id, v8 kd, v8 lv, vu ar] 122))] [.e (ν1 0), .e (ν1 0), .e (ν1 0), .e (ν1 0)] trivial fun ac wd hS => ?_
    obtain ⟨i_, hi_, hz_, hs_, hb_⟩ := info_get (P := Tryd.prog) (e := 122) (z := .agg #[vu 0, v8 0, v8 0, vu 0]) (s := 4) (b := 24) (by kernel_rfl)
    refine Runs1.list ?_
    refine St.appV (m := ((l).length)) (f := (entV (gtD l) 0)) (news := [vu id, v8 kd, v8 lv, vu ar]) (bx := (ν12 0)) (cx := 1) (Tx := 122) 0 hS (.tmp 32) (.tmp 34) 115 rfl rfl (by decide) Tryd.underlying115 hi_ hz_ hs_ (by omega) rfl (by decide) 1 rfl rfl (by (simp; omega)) fun ac wd v2_ F10 hB11 hS => ?_
    obtain ⟨xo8, xc9, rfl⟩ := hB11.slice
    replace hS := hS.to (hS.mem.grTell (m := (((l).length) + 1)) 0 (entV (gtD (l ++ [(id, kd, lv, ar)])) 0) (entV_app l id kd lv ar))
    have hm_ : ((l).length) + 1 = ((l ++ [(id, kd, lv, ar)])).length := by simp
    replace hS := hS.to (hS.mem.grRe (v := .slice xo8 (((l).length) + 1) xc9) (v' := .slice xo8 (((l ++ [(id, kd, lv, ar)])).length) xc9) (m := (((l).length) + 1)) (m' := ((l ++ [(id, kd, lv, ar)])).length) (f := (entV (gtD (l ++ [(id, kd, lv, ar)])) 0)) 0 (by rw [hm_]) hm_)
    replace hS := hS.fix 35 (.slice xo8 (((l ++ [(id, kd, lv, ar)])).length) xc9) (show (.slice xo8 (((l).length) + 1) xc9 : Value) = .slice xo8 (((l ++ [(id, kd, lv, ar)])).length) xc9 by rw [hm_])
    refine hS.opsC 2 [0, 0] [] fun _ => seg [(6, .slice xo8 (((l ++ [(id, kd, lv, ar)])).length) xc9), (7, vi 0)] [(0, none)] [] trivial fun ac wd hS => ?_
    refine list_nil_seq ?_
    refine wp_ret ?_
    rcases Nat.eq_zero_or_pos (((l ++ [(id, kd, lv, ar)])).length) with hz_ | hz_
    ·
     have hm_ : ((l ++ [(id, kd, lv, ar)])).length = 0 := by exact hz_
     replace hS := hS.to (hS.mem.grRe (v := .slice xo8 (((l ++ [(id, kd, lv, ar)])).length) xc9) (v' := .slice xo8 0 xc9) (m := (((l ++ [(id, kd, lv, ar)])).length)) (m' := 0) (f := (entV (gtD (l ++ [(id, kd, lv, ar)])) 0)) 0 (by rw [hm_]) hm_)
     replace hS := hS.fix 6 (.slice xo8 0 xc9) (show (.slice xo8 (((l ++ [(id, kd, lv, ar)])).length) xc9 : Value) = .slice xo8 0 xc9 by rw [hm_])
     obtain ⟨hv_, hO⟩ := WS.grNil (e := 122) (sz := 4) (m := 0) (f := (entV (gtD (l ++ [(id, kd, lv, ar)])) 0)) hS.mem (by omega)
     obtain ⟨rfl, rfl⟩ : (none : Option Addr) = xo8 ∧ 0 = xc9 := by cases hv_; exact ⟨rfl, rfl⟩
     clear hv_
     replace hS := hS.to hO
     clear hO
     refine St.retC 0 hS (.tuple #[vnil, vi 0]) [] trivial fun hw => ?_
     refine ⟨none, 0, 1, 0, retd (tuple2 (slN ?_) (vint ?_)), (by first | exact (.inl rfl) | exact .inl hz_ | (rw [← hD]; exact (.inl rfl)) | (exfalso; simp at hz_; done)), (by omega), (HE.fn_none (hw.get 0 1 (.fn 0 64 dbT)) ?_), hw.fr0⟩
     all_goals (first | (first | rfl | (exfalso; simp at hz_; done) | (rw [← hD]; done) | (rw [← hD]; omega) | (intro x_ _ _; rw [← hD]; done) | (intro x_ _; rw [← hD]; done) | exact hE) | (intro x_ hx_; rfl) | (intro x_ hx_ hy_; rfl))
    ·
     obtain ⟨gg12, cp13, hv_, hcp_, hO⟩ := WS.grOpen (e := 122) (sz := 4) (m := (((l ++ [(id, kd, lv, ar)])).length)) (f := (entV (gtD (l ++ [(id, kd, lv, ar)])) 0)) hS.mem (by omega)
     obtain ⟨rfl, rfl⟩ : some (⟨gg12, 0, none⟩ : Addr) = xo8 ∧ cp13 = xc9 := by cases hv_; exact ⟨rfl, rfl⟩
     clear hv_
     replace hS := hS.to hO
     clear hO
     refine St.retC 0 hS (.tuple #[sc gg12 0 (((l ++ [(id, kd, lv, ar)])).length) cp13, vi 0]) [] trivial fun hw => ?_
     refine ⟨(some ⟨gg12, 0, none⟩), cp13, gg12, 0, retd (tuple2 (slN ?_) (vint ?_)), (by first | exact (.inr rfl) | exact .inl hz_ | (rw [← hD]; exact (.inr rfl)) | (exfalso; simp at hz_; done)), (by have hg_ : w.heap.size ≤ gg12 := (hw.getm 1 gg12 (.row 122 (((l ++ [(id, kd, lv, ar)])).length * 4) (cp13 * 4) (entV (gtD (l ++ [(id, kd, lv, ar)])) 0))).resolve_right (fun h => h); omega), (HE.row_to (hw.get 1 gg12 (.row 122 (((l ++ [(id, kd, lv, ar)])).length * 4) (cp13 * 4) (entV (gtD (l ++ [(id, kd, lv, ar)])) 0))) ?_ ?_), hw.fr0⟩
     all_goals (first | (first | rfl | (exfalso; simp at hz_; done) | (rw [← hD]; done) | (rw [← hD]; omega) | (intro x_ _ _; rw [← hD]; done) | (intro x_ _; rw [← hD]; done) | exact hE) | (intro x_ hx_; rfl) | (intro x_ hx_ hy_; rfl))

set_option maxRecDepth 100000 in
set_option maxHeartbeats 1000000 in
theorem eq_ent (ao1 : Option Addr) (c1 : Nat) (g1 : Nat) (o1 : Nat) (l : List (Int × Int × Int × Int)) (ao2 : Option Addr) (c2 : Nat) (g2 : Nat) (o2 : Nat) (w : World) (hh0 : HE.holds w g1 (.fn o1 (o1 + l.length * 4) (entV (gtD l) o1))) (hh1 : HE.holds w g2 (.fn o2 (o2 + l.length * 4) (entV (gtD l) o2))) (hv1 : (l.length = 0 ∨ ao1 = some ⟨g1, o1, none⟩)) (hv2 : (l.length = 0 ∨ ao2 = some ⟨g2, o2, none⟩)) (hl : l.length ≤ 4294967295) :
    Calls Tryd.prog 65 #[.slice ao1 l.length c1, .slice ao2 l.length c2] w fun e w' => e = .returned (vb true) ∧ Fr w w' no no := by
 refine enter (args := [.slice ao1 l.length c1, .slice ao2 l.length c2]) (D := no) (A := []) Tryd.func65 rfl 26 rfl [(g1, .fn o1 (o1 + l.length * 4) (entV (gtD l) o1)), (g2, .fn o2 (o2 + l.length * 4) (entV (gtD l) o2))] (WS.startL ⟨⟨rfl, hh0⟩, ⟨rfl, hh1⟩, trivial⟩) fun ac hS => ?_
 refine hS.regS [0] [0, 1] fun _ => seg [] [(0, none), (1, none)] [] trivial fun ac wd hS => ?_
 refine wp_seq ?_
 refine hS.regS [0, 0, 0, 0, fx 0 (vb false)] [0, 1] fun _ => seg [(10, vb false)] [(0, none), (1, none)] [.p ((vb ((((l.length : Nat) : Int) : Int) != ((l.length : Nat) : Int)) : Value) = vb false)] ⟨(congrArg Value.bool (bne_self_eq_false _)), trivial⟩ fun ac wd hS => ?_
 refine hS.condF ?_
 refine wp_skip ?_
 refine pop_then ?_
 refine wp_seq ?_
 refine hS.regS [0, 0, 0] [0, 1] fun _ => seg [(12, vi ((l.length : Nat) : Int)), (13, vi 0)] [(0, none), (1, none)] [] trivial fun ac wd hS => ?_
 refine wp_block ?_
 refine St.loopC (σ := Int) (fun (x13 : Int) => ⟨[(0, [], .slice ao1 l.length c1), (1, [], .slice ao2 l.length c2), (12, [], vi ((l.length : Nat) : Int)), (13, [], vi x13)], [(g1, .fn o1 (o1 + l.length * 4) (entV (gtD l) o1)), (g2, .fn o2 (o2 + l.length * 4) (entV (gtD l) o2))], [], (0 ≤ x13 ∧ x13 ≤ (l.length : Int)) ∧ True, l.length - Int.toNat x13⟩) 0 ⟨(by omega), trivial⟩ hS ?_
 clear hS
 rintro x13 ⟨i0, -⟩ ac wd hS
 replace i0 : 0 ≤ x13 ∧ x13 ≤ (l.length : Int) := i0
 refine hS.regS [0] [0, 1, 12, 13] fun _ => seg [(14, vb (decide ((x13 : Int) < ((l.length : Nat) : Int))))] [(0, none), (1, none)] [] trivial fun ac wd hS => ?_
 refine wp_seq ?_
 refine hS.condC (decide ((x13 : Int) < ((l.length : Nat) : Int))) (fun hb1o hb1 => ?_) (fun hb1o hb1 => ?_)
 ·
  refine wp_skip ?_
  refine pop_then ?_
  refine wp_seq ?_
  refine wp_block ?_
  refine hS.regS [0, 0] [0, 1, 12, 13] fun _ => seg [(5, vi x13)] [(0, none), (1, none)] [] trivial fun ac wd hS => ?_
  obtain rfl : ao1 = some ⟨g1, o1, none⟩ := Or.resolve_left hv1 (by omega)
  obtain rfl : ao2 = some ⟨g2, o2, none⟩ := Or.resolve_left hv2 (by omega)
  refine St.ordBeginS [(0, 1), (1, 1), (2, 1), (3, 1), (4, 1), (5, 1), (6, 1), (7, 1), (8, 0)] [(g1, .fn o1 (o1 + l.length * 4) (entV (gtD l) o1)), (g2, .fn o2 (o2 + l.length * 4) (entV (gtD l) o2))] [0, 1] hS fun wd hS => ?_
  have hap := hS.mem.pairs (Hf := [(g1, .fn o1 (o1 + l.length * 4) (entV (gtD l) o1)), (g2, .fn o2 (o2 + l.length * 4) (entV (gtD l) o2))]) (l := [0, 1])
  refine St.ordF [0, 0, 20, fx 0 (.agg #[vu (((gtD l) (Int.toNat x13)).1), v8 (((gtD l) (Int.toNat x13)).2.1), v8 (((gtD l) (Int.toNat x13)).2.2.1), vu (((gtD l) (Int.toNat x13)).2.2.2)]), 0, 0, 20, fx 100 (.agg #[vu (((gtD l) (Int.toNat x13)).1), v8 (((gtD l) (Int.toNat x13)).2.1), v8 (((gtD l) (Int.toNat x13)).2.2.1), vu (((gtD l) (Int.toNat x13)).2.2.2)])] [0, 1, 2, 3, 4, 5, 6, 7] [0, 1, 12, 13] (rest := [(8, 0)]) hS hap <| segF [(19, .agg #[vu (((gtD l) (Int.toNat x13)).1), v8 (((gtD l) (Int.toNat x13)).2.1), v8 (((gtD l) (Int.toNat x13)).2.2.1), vu (((gtD l) (Int.toNat x13)).2.2.2)]), (23, .agg #[vu (((gtD l) (Int.toNat x13)).1), v8 (((gtD l) (Int.toNat x13)).2.1), v8 (((gtD l) (Int.toNat x13)).2.2.1), vu (((gtD l) (Int.toNat x13)).2.2.2)])] [.p ((.agg #[((entV (gtD l) o2) (o2 + Int.toNat x13 * 4)), ((entV (gtD l) o2) (o2 + Int.toNat x13 * 4 + 1)), ((entV (gtD l) o2) (o2 + Int.toNat x13 * 4 + 2)), ((entV (gtD l) o2) (o2 + Int.toNat x13 * 4 + 3))] : Value) = .agg #[vu (((gtD l) (Int.toNat x13)).1), v8 (((gtD l) (Int.toNat x13)).2.1), v8 (((gtD l) (Int.toNat x13)).2.2.1), vu (((gtD l) (Int.toNat x13)).2.2.2)]), .e g2, .p (o2 ≤ o2 + Int.toNat x13 * 4 + 3 ∧ o2 + Int.toNat x13 * 4 + 3 < (o2 + l.length * 4)), .e g2, .p (o2 ≤ o2 + Int.toNat x13 * 4 + 2 ∧ o2 + Int.toNat x13 * 4 + 2 < (o2 + l.length * 4)), .e g2, .p (o2 ≤ o2 + Int.toNat x13 * 4 + 1 ∧ o2 + Int.toNat x13 * 4 + 1 < (o2 + l.length * 4)), .e g2, .p (o2 ≤ o2 + Int.toNat x13 * 4 ∧ o2 + Int.toNat x13 * 4 < (o2 + l.length * 4)), .p ((0 : Int) ≤ x13 ∧ (x13 : Int) < ((l.length : Nat) : Int)), .p ((.agg #[((entV (gtD l) o1) (o1 + Int.toNat x13 * 4)), ((entV (gtD l) o1) (o1 + Int.toNat x13 * 4 + 1)), ((entV (gtD l) o1) (o1 + Int.toNat x13 * 4 + 2)), ((entV (gtD l) o1) (o1 + Int.toNat x13 * 4 + 3))] : Value) = .agg #[vu (((gtD l) (Int.toNat x13)).1), v8 (((gtD l) (Int.toNat x13)).2.1), v8 (((gtD l) (Int.toNat x13)).2.2.1), vu (((gtD l) (Int.toNat x13)).2.2.2)]), .e g1, .p (o1 ≤ o1 + Int.toNat x13 * 4 + 3 ∧ o1 + Int.toNat x13 * 4 + 3 < (o1 + l.length * 4)), .e g1, .p (o1 ≤ o1 + Int.toNat x13 * 4 + 2 ∧ o1 + Int.toNat x13 * 4 + 2 < (o1 + l.length * 4)), .e g1, .p (o1 ≤ o1 + Int.toNat x13 * 4 + 1 ∧ o1 + Int.toNat x13 * 4 + 1 < (o1 + l.length * 4)), .e g1, .p (o1 ≤ o1 + Int.toNat x13 * 4 ∧ o1 + Int.toNat x13 * 4 < (o1 + l.length * 4)), .p ((0 : Int) ≤ x13 ∧ (x13 : Int) < ((l.length : Nat) : Int))] ⟨(agg4 (entV_0 (gtD l) o2 (Int.toNat x13)) (entV_1 (gtD l) o2 (Int.toNat x13)) (entV_2 (gtD l) o2 (Int.toNat x13)) (entV_3 (gtD l) o2 (Int.toNat x13))), (by omega), (by omega), (by omega), (by omega), (by omega), (agg4 (entV_0 (gtD l) o1 (Int.toNat x13)) (entV_1 (gtD l) o1 (Int.toNat x13)) (entV_2 (gtD l) o1 (Int.toNat x13)) (entV_3 (gtD l) o1 (Int.toNat x13))), (by omega), (by omega), (by omega), (by omega), (by omega), trivial⟩ fun ac hS => ?_
  refine Runs1.ord (i := 8) ?_
  refine St.binS hS .neq (.tmp 19) (.tmp 23) 122 122 rfl rfl (by decide) (xs := #[vu (((gtD l) (Int.toNat x13)).1), v8 (((gtD l) (Int.toNat x13)).2.1), v8 (((gtD l) (Int.toNat x13)).2.2.1), vu (((gtD l) (Int.toNat x13)).2.2.2)]) (ys := #[vu (((gtD l) (Int.toNat x13)).1), v8 (((gtD l) (Int.toNat x13)).2.1), v8 (((gtD l) (Int.toNat x13)).2.2.1), vu (((gtD l) (Int.toNat x13)).2.2.2)]) (r := vb (!(eqAll [((((gtD l) (Int.toNat x13)).1 : Int), (((gtD l) (Int.toNat x13)).1 : Int)), ((((gtD l) (Int.toNat x13)).2.1 : Int), (((gtD l) (Int.toNat x13)).2.1 : Int)), ((((gtD l) (Int.toNat x13)).2.2.1 : Int), (((gtD l) (Int.toNat x13)).2.2.1 : Int)), ((((gtD l) (Int.toNat x13)).2.2.2 : Int), (((gtD l) (Int.toNat x13)).2.2.2 : Int))]))) (fun w => run_neS (l := [((((gtD l) (Int.toNat x13)).1 : Int), (((gtD l) (Int.toNat x13)).1 : Int)), ((((gtD l) (Int.toNat x13)).2.1 : Int), (((gtD l) (Int.toNat x13)).2.1 : Int)), ((((gtD l) (Int.toNat x13)).2.2.1 : Int), (((gtD l) (Int.toNat x13)).2.2.1 : Int)), ((((gtD l) (Int.toNat x13)).2.2.2 : Int), (((gtD l) (Int.toNat x13)).2.2.2 : Int))]) w (by as_aux_lemma => kernel_rfl) (by as_aux_lemma => kernel_rfl) (by as_aux_lemma => kernel_rfl)) (by as_aux_lemma => kernel_rfl) fun ac hS => ?_
  replace hS := hS.fix 24 (vb false) (show (vb (!(eqAll [((((gtD l) (Int.toNat x13)).1 : Int), (((gtD l) (Int.toNat x13)).1 : Int)), ((((gtD l) (Int.toNat x13)).2.1 : Int), (((gtD l) (Int.toNat x13)).2.1 : Int)), ((((gtD l) (Int.toNat x13)).2.2.1 : Int), (((gtD l) (Int.toNat x13)).2.2.1 : Int)), ((((gtD l) (Int.toNat x13)).2.2.2 : Int), (((gtD l) (Int.toNat x13)).2.2.2 : Int))])) : Value) = vb false from vbool (by simp [eqAll]))
  refine hS.ordV (l := [0, 1]) ?_
  refine ord_nil ?_
  refine hS.condF ?_
  refine wp_skip ?_
  refine pop_block ?_
  refine pop_then ?_
  refine hS.regC [20, 0] [0, 1, 12] fun _ => seg [(13, vi (x13 + 1))] [(0, none), (1, none)] [.p (fit .i64 (x13 + 1))] ⟨fit_i64 (by omega), trivial⟩ fun ac wd hS => ?_
  exact pop_then (hS.next (x13 + 1) ⟨(by first | omega | assumption | (simp; done) | (simp; omega)), trivial⟩ (by dsimp only; omega))
 ·
  refine wp_exit ?_
  refine pop_then_exit ?_
  refine pop_then_exit ?_
  refine pop_block_hit ?_
  refine pop_then ?_
  refine hS.regS [0] [] fun _ => seg [(4, vb true)] [] [] trivial fun ac wd hS => ?_
  refine wp_ret ?_
  refine St.retC 0 hS (vb true) [] trivial fun hw => ?_
  refine ⟨retd rfl, hw.fr0⟩

set_option maxRecDepth 100000 in
set_option maxHeartbeats 1000000 in
theorem l21_Of (ao1 : Option Addr) (c1 : Nat) (g1 : Nat) (o1 : Nat) (l : List (Int × Int × Int × Int)) (w : World) (hh0 : HE.holds w 1 (.fn 0 64 dbT)) (hh1 : HE.holds w g1 (.fn o1 (o1 + l.length * 4) (entV (gtD l) o1))) (hv1 : (l.length = 0 ∨ ao1 = some ⟨g1, o1, none⟩)) (hl : l.length ≤ 4294967295) :
    Calls Tryd.prog 66 #[.slice ao1 l.length c1] w fun e w' => ∃ (ao2 : Option Addr) (c2 : Nat) (g2 : Nat) (o2 : Nat), e = .returned (.slice ao2 l.length c2) ∧ (l.length = 0 ∨ ao2 = some ⟨g2, o2, none⟩) ∧ (g2 = 1 ∨ w.heap.size ≤ g2) ∧ HE.holds w' g2 (.fn o2 (o2 + l.length * 4) (entV (gtD l) o2)) ∧ Fr w w' no no := by
 refine enter (args := [.slice ao1 l.length c1]) (D := no) (A := []) Tryd.func66 rfl 18 rfl [(1, .fn 0 64 dbT), (g1, .fn o1 (o1 + l.length * 4) (entV (gtD l) o1))] (WS.startL ⟨⟨rfl, hh0⟩, ⟨rfl, hh1⟩, trivial⟩) fun ac hS => ?_
 refine hS.regS [0] [0] fun _ => seg [] [(0, none), (1, none)] [] trivial fun ac wd hS => ?_
 refine hS.regS [0] [0] fun _ => seg [(3, vnil)] [(0, none), (1, none)] [] trivial fun ac wd hS => ?_
 refine wp_seq ?_
 replace hS := hS.to (hS.mem.grNew 122 4 (entV (gtD ([] : List (Int × Int × Int × Int))) 0))
 refine hS.regS [0, 0, 0] [3] fun _ => seg [(6, .slice ao1 l.length c1), (7, vi ((l.length : Nat) : Int)), (8, vi 0)] [(0, none), (1, none)] [] trivial fun ac wd hS => ?_
 refine wp_block ?_
 refine St.loopC (σ := Int × Option Addr × Nat × (Nat → Prop) × (List (Int × Int × Int × Int))) (fun (x : Int × Option Addr × Nat × (Nat → Prop) × (List (Int × Int × Int × Int))) => match x with | (x8, aoq, cq, Fq, lq) => ⟨[(3, [], .slice aoq lq.length cq), (6, [], .slice ao1 l.length c1), (7, [], vi ((l.length : Nat) : Int)), (8, [], vi x8)], [(1, .fn 0 64 dbT), (g1, .fn o1 (o1 + l.length * 4) (entV (gtD l) o1))], [grR 122 4 (.slice aoq lq.length cq) Fq (lq.length, (entV (gtD lq) 0))], (0 ≤ x8 ∧ x8 ≤ (l.length : Int)) ∧ (lq = l.take (Int.toNat x8)) ∧ True, l.length - Int.toNat x8⟩) (0, none, 0, no, ([] : List (Int × Int × Int × Int))) ⟨(by first | omega | rfl), (by first | omega | rfl), trivial⟩ hS ?_
 clear hS
 rintro ⟨x8, aoq, cq, Fq, lq⟩ ⟨i0, i1, -⟩ ac wd hS
 replace i0 : 0 ≤ x8 ∧ x8 ≤ (l.length : Int) := i0
 replace i1 : lq = l.take (Int.toNat x8) := i1
 refine hS.regS [0] [3, 6, 7, 8] fun _ => seg [(9, vb (decide ((x8 : Int) < ((l.length : Nat) : Int))))] [(0, none), (1, none)] [] trivial fun ac wd hS => ?_
 refine wp_seq ?_
 refine hS.condC (decide ((x8 : Int) < ((l.length : Nat) : Int))) (fun hb1o hb1 => ?_) (fun hb1o hb1 => ?_)
 ·
  refine wp_skip ?_
  refine pop_then ?_
  refine wp_seq ?_
  refine wp_block ?_
  obtain rfl : ao1 = some ⟨g1, o1, none⟩ := Or.resolve_left hv1 (by omega)
  refine hS.regS [20, fx 100 (.agg #[vu (((gtD l) (Int.toNat x8)).1), v8 (((gtD l) (Int.toNat x8)).2.1), v8 (((gtD l) (Int.toNat x8)).2.2.1), vu (((gtD l) (Int.toNat x8)).2.2.2)]), 0, 200] [3, 6, 7, 8] fun ν5 => seg [(5, pt (ν5 0) 0)] [(0, none), (1, none), (2, some ((ν5 0), .cells [vu (((gtD l) (Int.toNat x8)).1), v8 (((gtD l) (Int.toNat x8)).2.1), v8 (((gtD l) (Int.toNat x8)).2.2.1), vu (((gtD l) (Int.toNat x8)).2.2.2)] 117))] [.e (ν5 0), .e (ν5 0), .e (ν5 0), .e (ν5 0), .p ((.agg #[((entV (gtD l) o1) (o1 + Int.toNat x8 * 4)), ((entV (gtD l) o1) (o1 + Int.toNat x8 * 4 + 1)), ((entV (gtD l) o1) (o1 + Int.toNat x8 * 4 + 2)), ((entV (gtD l) o1) (o1 + Int.toNat x8 * 4 + 3))] : Value) = .agg #[vu (((gtD l) (Int.toNat x8)).1), v8 (((gtD l) (Int.toNat x8)).2.1), v8 (((gtD l) (Int.toNat x8)).2.2.1), vu (((gtD l) (Int.toNat x8)).2.2.2)]), .e g1, .p (o1 ≤ o1 + Int.toNat x8 * 4 + 3 ∧ o1 + Int.toNat x8 * 4 + 3 < (o1 + l.length * 4)), .e g1, .p (o1 ≤ o1 + Int.toNat x8 * 4 + 2 ∧ o1 + Int.toNat x8 * 4 + 2 < (o1 + l.length * 4)), .e g1, .p (o1 ≤ o1 + Int.toNat x8 * 4 + 1 ∧ o1 + Int.toNat x8 * 4 + 1 < (o1 + l.length * 4)), .e g1, .p (o1 ≤ o1 + Int.toNat x8 * 4 ∧ o1 + Int.toNat x8 * 4 < (o1 + l.length * 4)), .p ((0 : Int) ≤ x8 ∧ (x8 : Int) < ((l.length : Nat) : Int))] ⟨(agg4 (entV_0 (gtD l) o1 (Int.toNat x8)) (entV_1 (gtD l) o1 (Int.toNat x8)) (entV_2 (gtD l) o1 (Int.toNat x8)) (entV_3 (gtD l) o1 (Int.toNat x8))), (by omega), (by omega), (by omega), (by omega), (by omega), trivial⟩ fun ac wd hS => ?_
  refine wp_region_lit ?_
  refine hS.opsC 3 [0, 200, 0] [3, 6, 7, 8] fun ν6 => seg [(12, .slice aoq lq.length cq), (14, sc (ν6 0) 0 1 1)] [(0, none), (1, none), (3, some ((ν6 0), .cells [vu (((gtD l) (Int.toNat x8)).1), v8 (((gtD l) (Int.toNat x8)).2.1), v8 (((gtD l) (Int.toNat x8)).2.2.1), vu (((gtD l) (Int.toNat x8)).2.2.2)] 122))] [.e (ν5 0), .e (ν5 0), .e (ν5 0), .e (ν5 0)] trivial fun ac wd hS => ?_
  obtain ⟨i_, hi_, hz_, hs_, hb_⟩ := info_get (P := Tryd.prog) (e := 122) (z := .agg #[vu 0, v8 0, v8 0, vu 0]) (s := 4) (b := 24) (by kernel_rfl)
  refine Runs1.list ?_
  refine St.appV (m := lq.length) (f := (entV (gtD lq) 0)) (news := [vu (((gtD l) (Int.toNat x8)).1), v8 (((gtD l) (Int.toNat x8)).2.1), v8 (((gtD l) (Int.toNat x8)).2.2.1), vu (((gtD l) (Int.toNat x8)).2.2.2)]) (bx := (ν6 0)) (cx := 1) (Tx := 122) 0 hS (.tmp 12) (.tmp 14) 115 rfl rfl (by decide) Tryd.underlying115 hi_ hz_ hs_ (by omega) rfl (by decide) 2 rfl rfl (by (rw [i1]; simp; omega)) fun ac wd v2_ F4 hB5 hS => ?_
  obtain ⟨xo2, xc3, rfl⟩ := hB5.slice
  replace hS := hS.to (hS.mem.grTell (m := (lq.length + 1)) 0 (entV (gtD (lq ++ [(((gtD l) (Int.toNat x8)).1, ((gtD l) (Int.toNat x8)).2.1, ((gtD l) (Int.toNat x8)).2.2.1, ((gtD l) (Int.toNat x8)).2.2.2)])) 0) (entV_app lq (((gtD l) (Int.toNat x8)).1) (((gtD l) (Int.toNat x8)).2.1) (((gtD l) (Int.toNat x8)).2.2.1) (((gtD l) (Int.toNat x8)).2.2.2)))
  have hm_ : lq.length + 1 = ((lq ++ [(((gtD l) (Int.toNat x8)).1, ((gtD l) (Int.toNat x8)).2.1, ((gtD l) (Int.toNat x8)).2.2.1, ((gtD l) (Int.toNat x8)).2.2.2)])).length := by simp
  replace hS := hS.to (hS.mem.grRe (v := .slice xo2 (lq.length + 1) xc3) (v' := .slice xo2 (((lq ++ [(((gtD l) (Int.toNat x8)).1, ((gtD l) (Int.toNat x8)).2.1, ((gtD l) (Int.toNat x8)).2.2.1, ((gtD l) (Int.toNat x8)).2.2.2)])).length) xc3) (m := (lq.length + 1)) (m' := ((lq ++ [(((gtD l) (Int.toNat x8)).1, ((gtD l) (Int.toNat x8)).2.1, ((gtD l) (Int.toNat x8)).2.2.1, ((gtD l) (Int.toNat x8)).2.2.2)])).length) (f := (entV (gtD (lq ++ [(((gtD l) (Int.toNat x8)).1, ((gtD l) (Int.toNat x8)).2.1, ((gtD l) (Int.toNat x8)).2.2.1, ((gtD l) (Int.toNat x8)).2.2.2)])) 0)) 0 (by rw [hm_]) hm_)
  replace hS := hS.fix 15 (.slice xo2 (((lq ++ [(((gtD l) (Int.toNat x8)).1, ((gtD l) (Int.toNat x8)).2.1, ((gtD l) (Int.toNat x8)).2.2.1, ((gtD l) (Int.toNat x8)).2.2.2)])).length) xc3) (show (.slice xo2 (lq.length + 1) xc3 : Value) = .slice xo2 (((lq ++ [(((gtD l) (Int.toNat x8)).1, ((gtD l) (Int.toNat x8)).2.1, ((gtD l) (Int.toNat x8)).2.2.1, ((gtD l) (Int.toNat x8)).2.2.2)])).length) xc3 by rw [hm_])
  refine hS.opsC 1 [0] [6, 7, 8] fun _ => seg [(3, .slice xo2 (((lq ++ [(((gtD l) (Int.toNat x8)).1, ((gtD l) (Int.toNat x8)).2.1, ((gtD l) (Int.toNat x8)).2.2.1, ((gtD l) (Int.toNat x8)).2.2.2)])).length) xc3)] [(0, none), (1, none)] [] trivial fun ac wd hS => ?_
  refine list_nil ?_
  refine pop_block ?_
  refine pop_then ?_
  refine hS.regC [20, 0] [3, 6, 7] fun _ => seg [(8, vi (x8 + 1))] [(0, none), (1, none)] [.p (fit .i64 (x8 + 1))] ⟨fit_i64 (by omega), trivial⟩ fun ac wd hS => ?_
  exact pop_then (hS.next ((x8 + 1), xo2, xc3, F4, (lq ++ [(((gtD l) (Int.toNat x8)).1, ((gtD l) (Int.toNat x8)).2.1, ((gtD l) (Int.toNat x8)).2.2.1, ((gtD l) (Int.toNat x8)).2.2.2)])) ⟨(by first | omega | assumption | (simp; done) | (simp; omega)), (by exact take_yes i1 i0.1 (by omega)), trivial⟩ (by dsimp only; omega))
 ·
  refine wp_exit ?_
  refine pop_then_exit ?_
  refine pop_then_exit ?_
  refine pop_block_hit ?_
  refine pop_then ?_
  refine hS.regS [0, 0] [] fun _ => seg [(2, .slice aoq lq.length cq)] [(0, none)] [] trivial fun ac wd hS => ?_
  refine wp_ret ?_
  have hq_ : l = lq := (show lq = l by rw [i1]; exact List.take_of_length_le (by omega)).symm
  subst hq_
  rcases Nat.eq_zero_or_pos l.length with hz_ | hz_
  ·
   have hm_ : l.length = 0 := by exact hz_
   replace hS := hS.to (hS.mem.grRe (v := .slice aoq l.length cq) (v' := .slice aoq 0 cq) (m := l.length) (m' := 0) (f := (entV (gtD l) 0)) 0 (by rw [hm_]) hm_)
   replace hS := hS.fix 2 (.slice aoq 0 cq) (show (.slice aoq l.length cq : Value) = .slice aoq 0 cq by rw [hm_])
   obtain ⟨hv_, hO⟩ := WS.grNil (e := 122) (sz := 4) (m := 0) (f := (entV (gtD l) 0)) hS.mem (by omega)
   obtain ⟨rfl, rfl⟩ : (none : Option Addr) = aoq ∧ 0 = cq := by cases hv_; exact ⟨rfl, rfl⟩
   clear hv_
   replace hS := hS.to hO
   clear hO
   refine St.retC 0 hS (vnil) [] trivial fun hw => ?_
   refine ⟨none, 0, 1, 0, retd (slN ?_), (by first | exact (.inl rfl) | exact .inl hz_ | (rw [← hD]; exact (.inl rfl))), (by omega), (HE.fn_none (hw.get 0 1 (.fn 0 64 dbT)) ?_), hw.fr0⟩
   all_goals (first | (first | omega | rfl) | (intro x_ hx_; rfl) | (intro x_ hx_ hy_; rfl))
  ·
   obtain ⟨gg6, cp7, hv_, hcp_, hO⟩ := WS.grOpen (e := 122) (sz := 4) (m := l.length) (f := (entV (gtD l) 0)) hS.mem (by omega)
   obtain ⟨rfl, rfl⟩ : some (⟨gg6, 0, none⟩ : Addr) = aoq ∧ cp7 = cq := by cases hv_; exact ⟨rfl, rfl⟩
   clear hv_
   replace hS := hS.to hO
   clear hO
   refine St.retC 0 hS (sc gg6 0 l.length cp7) [] trivial fun hw => ?_
   refine ⟨(some ⟨gg6, 0, none⟩), cp7, gg6, 0, retd rfl, (by first | exact (.inr rfl) | exact .inl hz_ | (rw [← hD]; exact (.inr rfl))), (by have hg_ : w.heap.size ≤ gg6 := (hw.getm 1 gg6 (.row 122 (l.length * 4) (cp7 * 4) (entV (gtD l) 0))).resolve_right (fun h => h); omega), (HE.row_to (hw.get 1 gg6 (.row 122 (l.length * 4) (cp7 * 4) (entV (gtD l) 0))) ?_ ?_), hw.fr0⟩
   all_goals (first | (first | omega | rfl) | (intro x_ hx_; rfl) | (intro x_ hx_ hy_; rfl))

theorem cl_Kill_r (b : Nat) (F : Nat → Prop) (m : AM) (o_ : Int) (z : Int) (id : Int) (L : List Ent) (w : World) (hr : (arR b F m).R w) (hR : HLU m o_ z L) :
    Calls Tryd.prog 59 #[.agg #[pt b 0, vi o_, vi z], vu id] w fun e w' => ∃ (F' : Nat → Prop), e = .returned (.tuple #[.agg #[vu (((eKilV L id)).1), v8 (((eKilV L id)).2.1), v8 (((eKilV L id)).2.2.1), vu (((eKilV L id)).2.2.2)], vi (eKilE L id)]) ∧ (arR b F' (killM m o_ z id)).R w' ∧ Fr w w' F F' := by
 have hb : 0 ≤ o_ ∧ 0 ≤ z ∧ o_ + z ≤ 4294967296 := ⟨hR.o0, hR.z0, by have := inB_facts (thr_in hR.hl.slots.there); have h4 : m.cap ≤ 1048576 := (by obtain ⟨d, hd⟩ := hr; exact hd.capLe); omega⟩
 have ht := hR.hl.slots.there
 have h_ := cl_Kill b F m o_ z id w hr hb ht
 have hk := hR.kill id
 rw [hk.1, hk.2.1.1.1, hk.2.1.1.2, hk.2.1.2.1, hk.2.1.2.2] at h_
 exact h_

theorem cl_Pop_r (b : Nat) (F : Nat → Prop) (m : AM) (o_ : Int) (z : Int) (L : List Ent) (w : World) (hr : (arR b F m).R w) (hR : HLU m o_ z L) :
    Calls Tryd.prog 61 #[.agg #[pt b 0, vi o_, vi z]] w fun e w' => ∃ (F' : Nat → Prop), e = .returned (.tuple #[.agg #[vu (((ePopV L)).1), v8 (((ePopV L)).2.1), v8 (((ePopV L)).2.2.1), vu (((ePopV L)).2.2.2)], vb (ePopB L)]) ∧ (arR b F' (popM m o_ z)).R w' ∧ Fr w w' F F' := by
 have hb : 0 ≤ o_ ∧ 0 ≤ z ∧ o_ + z ≤ 4294967296 := ⟨hR.o0, hR.z0, by have := inB_facts (thr_in hR.hl.slots.there); have h4 : m.cap ≤ 1048576 := (by obtain ⟨d, hd⟩ := hr; exact hd.capLe); omega⟩
 have ht := hR.hl.slots.there
 have h_ := cl_Pop b F m o_ z w hr hb ht
 have hk := hR.pop
 rw [hk.1, hk.2.1.1.1, hk.2.1.1.2, hk.2.1.2.1, hk.2.1.2.2] at h_
 exact h_

theorem cl_Add_r (b : Nat) (F : Nat → Prop) (m : AM) (o_ : Int) (z : Int) (id : Int) (kd : Int) (lv : Int) (ar : Int) (L : List Ent) (w : World) (hr : (arR b F m).R w) (hR : HLU m o_ z L) (hen : (0 ≤ id ∧ id ≤ 18446744073709551615) ∧ (0 ≤ kd ∧ kd ≤ 255) ∧ (0 ≤ lv ∧ lv ≤ 255) ∧ 0 ≤ ar ∧ ar ≤ 18446744073709551615) :
    Calls Tryd.prog 63 #[.agg #[pt b 0, vi o_, vi z], .agg #[vu id, v8 kd, v8 lv, vu ar]] w fun e w' => ∃ (F' : Nat → Prop), e = .returned (vi (eAddE L (z / 24) id)) ∧ (arR b F' (addM m o_ z id kd lv ar)).R w' ∧ Fr w w' F F' := by
 have hb : 0 ≤ o_ ∧ 0 ≤ z ∧ o_ + z ≤ 4294967296 := ⟨hR.o0, hR.z0, by have := inB_facts (thr_in hR.hl.slots.there); have h4 : m.cap ≤ 1048576 := (by obtain ⟨d, hd⟩ := hr; exact hd.capLe); omega⟩
 have ht := hR.hl.slots.there
 have h_ := cl_Add b F m o_ z id kd lv ar w hr hb ht hen
 rw [(hR.add hen).1] at h_
 exact h_

theorem cl_Room_r (b : Nat) (F : Nat → Prop) (m : AM) (o_ : Int) (z : Int) (L : List Ent) (w : World) (hr : (arR b F m).R w) (hR : HLU m o_ z L) :
    Calls Tryd.prog 68 #[.agg #[pt b 0, vi o_, vi z]] w fun e w' => e = .returned (vi ((z / 24) - ((L.length : Nat) : Int))) ∧ Fr w w' no no := by
 have hb : 0 ≤ o_ ∧ 0 ≤ z ∧ o_ + z ≤ 4294967296 := ⟨hR.o0, hR.z0, by have := inB_facts (thr_in hR.hl.slots.there); have h4 : m.cap ≤ 1048576 := (by obtain ⟨d, hd⟩ := hr; exact hd.capLe); omega⟩
 have ht := hR.hl.slots.there
 have h_ := cl_Room b F m o_ z w hr hb ht
 rw [hR.hl.cnt] at h_
 exact h_

theorem cl_All_r (b : Nat) (F : Nat → Prop) (m : AM) (o_ : Int) (z : Int) (L : List Ent) (w : World) (hr : (arR b F m).R w) (hh0 : HE.holds w 1 (.fn 0 64 dbT)) (hR : HLU m o_ z L) :
    Calls Tryd.prog 67 #[.agg #[pt b 0, vi o_, vi z]] w fun e w' => ∃ (ao2 : Option Addr) (c2 : Nat) (g2 : Nat) (o2 : Nat), e = .returned (.slice ao2 L.length c2) ∧ (L.length = 0 ∨ ao2 = some ⟨g2, o2, none⟩) ∧ (g2 = 1 ∨ w.heap.size ≤ g2) ∧ HE.holds w' g2 (.fn o2 (o2 + L.length * 4) (entV (gtD L) o2)) ∧ Fr w w' no no := by
 have hb : 0 ≤ o_ ∧ 0 ≤ z ∧ o_ + z ≤ 4294967296 := ⟨hR.o0, hR.z0, by have := inB_facts (thr_in hR.hl.slots.there); have h4 : m.cap ≤ 1048576 := (by obtain ⟨d, hd⟩ := hr; exact hd.capLe); omega⟩
 have ht := hR.hl.slots.there
 have hc := hR.hl.cnt
 by_cases hp : cCnt m o_ z = 0
 · have hl : L.length = 0 := by rw [← hc]; exact hp
   refine (cl_All_none b F m o_ z w hr hb ht hp).mono ?_
   rintro e w' ⟨rfl, hF⟩
   exact ⟨none, 0, 1, 0, by rw [hl], .inl hl, .inl rfl, HE.fn_none (hh0.congr (hF.block _ hh0.lt (fun q => q))) (by rw [hl]), hF⟩
 · refine (cl_All_some b F m o_ z w hr hb ht (by omega)).mono ?_
   rintro e w' ⟨g2, c2, rfl, hg, hh, hF⟩
   exact ⟨some ⟨g2, 0, none⟩, c2, g2, 0, by rw [hc], .inr rfl, .inr hg, HE.fn_to hh (by rw [hc]) (fun x _ hx => entV_cg0 (n := cCnt m o_ z) (fun i hi => hR.ent (by rw [← hc]; exact hi)) x (by omega)), hF⟩

end Go.Proofs.YtindbpffbjhfaaaDoor.K
