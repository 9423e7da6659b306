/-
  Walks, printed by w2.py.
-/
import Derived.Test.YtnbkafnikpbmbaaGreatDoorDe
import Derived.Test.YtnbkafnikpbmbaaGreatDoorDg
import Derived.Test.YtnbkafnikpbmbaaGreatDoorProg
namespace Go.Proofs.YtnbkafnikpbmbaaGreatDoor.K
set_option linter.unusedVariables false
set_option linter.unusedSimpArgs false

set_option maxRecDepth 100000 in
set_option maxHeartbeats 1000000 in
theorem r22_Get (ao1 : Option Addr) (c1 : Nat) (g1 : Nat) (o1 : Nat) (l : List (ByteArray × Int)) (kk : ByteArray) (w : World) (hh0 : HE.holds w g1 (.fn o1 (o1 + l.length * 2) (itV (gtD l) o1))) (hv1 : (l.length = 0 ∨ ao1 = some ⟨g1, o1, none⟩)) (hl4 : l.length ≤ 4294967200) :
    Calls Tryz.prog 15 #[.slice ao1 l.length c1, .string kk] w fun e w' => e = .returned (.tuple #[vu (dGetV l kk), vb (dGetB l kk)]) ∧ Fr w w' no no := by
 refine enter (args := [.slice ao1 l.length c1, .string kk]) (D := no) (A := []) Tryz.func15 rfl 21 rfl [(g1, .fn o1 (o1 + l.length * 2) (itV (gtD l) o1))] (WS.startL ⟨⟨rfl, hh0⟩, trivial⟩) fun ac hS => ?_
 refine hS.regS [0, 0] [0, 1] fun _ => seg [] [(0, none)] [] trivial fun ac wd hS => ?_
 refine wp_seq ?_
 refine hS.regS [0, 0, 0] [1] fun _ => seg [(8, .slice ao1 l.length c1), (9, vi ((l.length : Nat) : Int)), (10, vi 0)] [(0, none)] [] trivial fun ac wd hS => ?_
 refine wp_block ?_
 refine St.loopC (σ := Int) (fun (x10 : Int) => ⟨[(1, [], .string kk), (8, [], .slice ao1 l.length c1), (9, [], vi ((l.length : Nat) : Int)), (10, [], vi x10)], [(g1, .fn o1 (o1 + l.length * 2) (itV (gtD l) o1))], [], (0 ≤ x10 ∧ x10 ≤ (l.length : Int)) ∧ (NoUp (dIs l kk) x10) ∧ True, l.length - Int.toNat x10⟩) 0 ⟨(by first | omega | exact noUp_zero _), (by first | omega | exact noUp_zero _), trivial⟩ hS ?_
 clear hS
 rintro x10 ⟨i0, i1, -⟩ ac wd hS
 replace i0 : 0 ≤ x10 ∧ x10 ≤ (l.length : Int) := i0
 replace i1 : NoUp (dIs l kk) x10 := i1
 refine hS.regS [0] [1, 8, 9, 10] fun _ => seg [(11, vb (decide ((x10 : Int) < ((l.length : Nat) : Int))))] [(0, none)] [] trivial fun ac wd hS => ?_
 refine wp_seq ?_
 refine hS.condC (decide ((x10 : Int) < ((l.length : Nat) : Int))) (fun hb1o hb1 => ?_) (fun hb1o hb1 => ?_)
 ·
  refine wp_skip ?_
  refine pop_then ?_
  refine wp_seq ?_
  refine wp_block ?_
  obtain rfl : ao1 = some ⟨g1, o1, none⟩ := Or.resolve_left hv1 (by omega)
  refine hS.regS [20, fx 0 (.agg #[.string (((gtD l) (Int.toNat x10)).1), vu (((gtD l) (Int.toNat x10)).2)]), 0, 100] [1, 8, 9, 10] fun ν4 => seg [(7, pt (ν4 0) 0)] [(0, none), (1, some ((ν4 0), .cells [.string (((gtD l) (Int.toNat x10)).1), vu (((gtD l) (Int.toNat x10)).2)] 49))] [.e (ν4 0), .e (ν4 0), .p ((.agg #[((itV (gtD l) o1) (o1 + Int.toNat x10 * 2)), ((itV (gtD l) o1) (o1 + Int.toNat x10 * 2 + 1))] : Value) = .agg #[.string (((gtD l) (Int.toNat x10)).1), vu (((gtD l) (Int.toNat x10)).2)]), .e g1, .p (o1 ≤ o1 + Int.toNat x10 * 2 + 1 ∧ o1 + Int.toNat x10 * 2 + 1 < (o1 + l.length * 2)), .e g1, .p (o1 ≤ o1 + Int.toNat x10 * 2 ∧ o1 + Int.toNat x10 * 2 < (o1 + l.length * 2)), .p ((0 : Int) ≤ x10 ∧ (x10 : Int) < ((l.length : Nat) : Int))] ⟨(agg2 (itV_0 (gtD l) o1 (Int.toNat x10)) (itV_1 (gtD l) o1 (Int.toNat x10))), (by omega), (by omega), (by omega), trivial⟩ fun ac wd hS => ?_
  refine hS.regS [0, 100, 0, 0] [1, 7, 8, 9, 10] fun _ => seg [(17, vb (ByteArray.toList (((gtD l) (Int.toNat x10)).1) == ByteArray.toList kk))] [(0, none), (1, none)] [.e (ν4 0)] trivial fun ac wd hS => ?_
  refine hS.condC (ByteArray.toList (((gtD l) (Int.toNat x10)).1) == ByteArray.toList kk) (fun hb2o hb2 => ?_) (fun hb2o hb2 => ?_)
  ·
   have hn : dIs l kk (Int.toNat x10) = true := hb2o
   refine hS.regS [0, 100, 0, 0] [] fun _ => seg [(4, vu (((gtD l) (Int.toNat x10)).2)), (5, vb true)] [] [.e (ν4 0)] trivial fun ac wd hS => ?_
   refine wp_ret ?_
   refine pop_block_ret ?_
   refine pop_then_ret ?_
   refine pop_then_ret ?_
   refine pop_block_ret ?_
   refine pop_then_ret ?_
   refine St.retC 0 hS (.tuple #[vu (((gtD l) (Int.toNat x10)).2), vb true]) [] trivial fun hw => ?_
   refine ⟨retd (tuple2 (vint ?_) (vbool ?_)), hw.fr0⟩
   all_goals (first | exact (rg_hit (fIx_at i1 i0.1 (by omega) hn) i0.1).1 | exact (rg_hit (fIx_at i1 i0.1 (by omega) hn) i0.1).2 | exact (rg_none (fIx_none i1 (by omega))).1 | exact (rg_none (fIx_none i1 (by omega))).2)
  ·
   have hn : dIs l kk (Int.toNat x10) = false := hb2o
   refine wp_skip ?_
   refine pop_block ?_
   refine pop_then ?_
   refine hS.regC [20, 0] [1, 8, 9] fun _ => seg [(10, vi (x10 + 1))] [(0, none)] [.p (fit .i64 (x10 + 1))] ⟨fit_i64 (by omega), trivial⟩ fun ac wd hS => ?_
   exact pop_then (hS.next (x10 + 1) ⟨(by first | omega | assumption | (simp; done) | (simp; omega)), (by exact noUp_step i1 i0.1 hn), trivial⟩ (by dsimp only; omega))
 ·
  refine wp_exit ?_
  refine pop_then_exit ?_
  refine pop_then_exit ?_
  refine pop_block_hit ?_
  refine pop_then ?_
  refine hS.regS [0, 0] [] fun _ => seg [(4, vu 0), (5, vb false)] [] [] trivial fun ac wd hS => ?_
  refine wp_ret ?_
  refine St.retC 0 hS (.tuple #[vu 0, vb false]) [] trivial fun hw => ?_
  refine ⟨retd (tuple2 (vint ?_) (vbool ?_)), hw.fr0⟩
  all_goals (first | exact (rg_hit (fIx_at i1 i0.1 (by omega) hn) i0.1).1 | exact (rg_hit (fIx_at i1 i0.1 (by omega) hn) i0.1).2 | exact (rg_none (fIx_none i1 (by omega))).1 | exact (rg_none (fIx_none i1 (by omega))).2)

set_option maxRecDepth 100000 in
set_option maxHeartbeats 1000000 in
theorem r22_Set (ao1 : Option Addr) (c1 : Nat) (g1 : Nat) (o1 : Nat) (l : List (ByteArray × Int)) (sn : Int) (kk : ByteArray) (nn : Int) (w : World) (hh0 : HE.holds w 0 (.fn 0 64 dbT)) (hh1 : HE.holds w g1 (.fn o1 (o1 + l.length * 2) (itV (gtD l) o1))) (hv1 : (l.length = 0 ∨ ao1 = some ⟨g1, o1, none⟩)) (hl4 : l.length ≤ 4294967200) (hO : OkD sn l) :
    Calls Tryz.prog 13 #[.slice ao1 l.length c1, vi sn, .agg #[.string kk, vu nn]] w fun e w' => ∃ (ao2 : Option Addr) (c2 : Nat) (g2 : Nat) (o2 : Nat), e = .returned (.tuple #[.slice ao2 ((dPutL sn l [(kk, nn)]).length) c2, vi ((dPutT sn l [(kk, nn)]).2)]) ∧ ((dPutL sn l [(kk, nn)]).length = 0 ∨ ao2 = some ⟨g2, o2, none⟩) ∧ (g2 = g1 ∨ g2 = 0 ∨ w.heap.size ≤ g2) ∧ HE.holds w' g2 (.fn o2 (o2 + (dPutL sn l [(kk, nn)]).length * 2) (itV (gtD (dPutL sn l [(kk, nn)])) o2)) ∧ Fr w w' no no := by
 refine enter (args := [.slice ao1 l.length c1, vi sn, .agg #[.string kk, vu nn]]) (D := no) (A := []) Tryz.func13 rfl 62 rfl [(0, .fn 0 64 dbT), (g1, .fn o1 (o1 + l.length * 2) (itV (gtD l) o1))] (WS.startL ⟨⟨rfl, hh0⟩, ⟨rfl, hh1⟩, trivial⟩) fun ac hS => ?_
 refine hS.regS [0, 0, 0] [0, 1] fun ν1 => seg [(5, pt (ν1 0) 0)] [(0, none), (1, none), (2, some ((ν1 0), .cells [.string kk, vu nn] 49))] [] trivial fun ac wd hS => ?_
 refine wp_seq ?_
 refine hS.regS [0, 200, 0] [0, 1, 5] fun _ => seg [(15, vb (ByteArray.toList kk == ByteArray.toList (⟨#[]⟩ : ByteArray)))] [(0, none), (1, none), (2, none)] [.e (ν1 0)] trivial fun ac wd hS => ?_
 refine hS.condC (ByteArray.toList kk == ByteArray.toList (⟨#[]⟩ : ByteArray)) (fun hb1o hb1 => ?_) (fun hb1o hb1 => ?_)
 ·
  obtain ⟨hD, hE⟩ := rs_1 (s := sn) (L := l) (v := nn) hb1o
  refine hS.regS [0, 0, 0] [] fun _ => seg [(6, .slice ao1 l.length c1), (7, vi 17)] [(0, none), (1, none)] [] trivial fun ac wd hS => ?_
  refine wp_ret ?_
  refine pop_then_ret ?_
  refine St.retC 0 hS (.tuple #[.slice ao1 l.length c1, vi 17]) [] trivial fun hw => ?_
  refine ⟨ao1, c1, g1, o1, retd (tuple2 (slN ?_) (vint ?_)), (by first | exact hv1 | exact .inl hz_ | (rw [← hD]; exact hv1) | (rw [← hD]; exact .inl hz_)), (by omega), (HE.fn_to (hw.get 1 g1 (.fn o1 (o1 + l.length * 2) (itV (gtD l) o1))) ?_ ?_), hw.fr0⟩
  all_goals (first | (first | rfl | (rw [← hD]; done) | (rw [← hD]; omega) | (intro x_ _ _; rw [← hD]) | exact hE | (rw [hD]; done) | (intro x_ _; rw [← hD]) | (intro x_ hx_; rw [hD])) | (intro x_ hx_; rfl) | (intro x_ hx_ hy_; rfl))
 ·
  have h1 := hb1o
  refine wp_skip ?_
  refine pop_then ?_
  refine wp_seq ?_
  refine hS.regS [0, 200, 0, 0] [0, 1, 5] fun _ => seg [(20, vb (decide ((16 : Int) < ((ByteArray.size kk : Nat) : Int))))] [(0, none), (1, none), (2, none)] [.e (ν1 0)] trivial fun ac wd hS => ?_
  refine hS.condC (decide ((16 : Int) < ((ByteArray.size kk : Nat) : Int))) (fun hb2o hb2 => ?_) (fun hb2o hb2 => ?_)
  ·
   obtain ⟨hD, hE⟩ := rs_2 (s := sn) (L := l) (v := nn) h1 hb2
   refine hS.regS [0, 0, 0] [] fun _ => seg [(6, .slice ao1 l.length c1), (7, vi 16)] [(0, none), (1, none)] [] trivial fun ac wd hS => ?_
   refine wp_ret ?_
   refine pop_then_ret ?_
   refine St.retC 0 hS (.tuple #[.slice ao1 l.length c1, vi 16]) [] trivial fun hw => ?_
   refine ⟨ao1, c1, g1, o1, retd (tuple2 (slN ?_) (vint ?_)), (by first | exact hv1 | exact .inl hz_ | (rw [← hD]; exact hv1) | (rw [← hD]; exact .inl hz_)), (by omega), (HE.fn_to (hw.get 1 g1 (.fn o1 (o1 + l.length * 2) (itV (gtD l) o1))) ?_ ?_), hw.fr0⟩
   all_goals (first | (first | rfl | (rw [← hD]; done) | (rw [← hD]; omega) | (intro x_ _ _; rw [← hD]) | exact hE | (rw [hD]; done) | (intro x_ _; rw [← hD]) | (intro x_ hx_; rw [hD])) | (intro x_ hx_; rfl) | (intro x_ hx_ hy_; rfl))
  ·
   have h2 : ¬ (16 : Int) < ((kk.size : Nat) : Int) := by have h9_ := hb2; omega
   refine wp_skip ?_
   refine pop_then ?_
   refine wp_region_seq ?_
   refine hS.opsC 3 [0, 0, 200] [0, 1, 5] fun _ => seg [(23, .slice ao1 l.length c1), (25, .string kk)] [(0, none), (1, none), (2, none)] [.e (ν1 0)] trivial fun ac wd hS => ?_
   refine hS.call0 15 #[.slice ao1 l.length c1, .string kk] 26 (r22_Get ao1 c1 g1 o1 l kk _ (hS.mem.get 1 g1 (.fn o1 (o1 + l.length * 2) (itV (gtD l) o1))) hv1 (by first | assumption | omega | (simp_all; done) | (simp_all; omega))) fun ac wd hS => ?_
   refine hS.opsC 5 [0, 0, 0, 0, 0] [0, 1, 5] fun _ => seg [(9, vb (dGetB l kk))] [(0, none), (1, none), (2, none)] [] trivial fun ac wd hS => ?_
   refine list_nil_seq ?_
   refine wp_seq ?_
   refine hS.regS [0, 0, 0, 3, 3, 3, 3, 80] [0, 5, 9] fun _ => seg [(36, vb ((!(dGetB l kk)) && (decide ((sn : Int) ≤ ((l.length : Nat) : Int)))))] [(0, none), (1, none), (2, none)] [] trivial fun ac wd hS => ?_
   refine hS.condC ((!(dGetB l kk)) && (decide ((sn : Int) ≤ ((l.length : Nat) : Int)))) (fun hb3o hb3 => ?_) (fun hb3o hb3 => ?_)
   ·
    have h9c := hb3o
    rw [Bool.and_eq_true] at h9c
    have h3 : ¬ 0 ≤ dOf l kk := by have h9_ := h9c.1; unfold dGetB at h9_; simpa using h9_
    have h4 := of_decide_eq_true h9c.2
    obtain ⟨hD, hE⟩ := rs_3 (v := nn) h1 h2 h3 h4
    refine hS.regS [0, 0, 0] [] fun _ => seg [(6, .slice ao1 l.length c1), (7, vi 10)] [(0, none), (1, none)] [] trivial fun ac wd hS => ?_
    refine wp_ret ?_
    refine pop_then_ret ?_
    refine St.retC 0 hS (.tuple #[.slice ao1 l.length c1, vi 10]) [] trivial fun hw => ?_
    refine ⟨ao1, c1, g1, o1, retd (tuple2 (slN ?_) (vint ?_)), (by first | exact hv1 | exact .inl hz_ | (rw [← hD]; exact hv1) | (rw [← hD]; exact .inl hz_)), (by omega), (HE.fn_to (hw.get 1 g1 (.fn o1 (o1 + l.length * 2) (itV (gtD l) o1))) ?_ ?_), hw.fr0⟩
    all_goals (first | (first | rfl | (rw [← hD]; done) | (rw [← hD]; omega) | (intro x_ _ _; rw [← hD]) | exact hE | (rw [hD]; done) | (intro x_ _; rw [← hD]) | (intro x_ hx_; rw [hD])) | (intro x_ hx_; rfl) | (intro x_ hx_ hy_; rfl))
   ·
    have h9d := hb3o
    refine wp_skip ?_
    refine pop_then ?_
    refine hS.regS [0] [0, 5, 9] fun _ => seg [(10, vnil)] [(0, none), (1, none), (2, none)] [] trivial fun ac wd hS => ?_
    refine wp_seq ?_
    replace hS := hS.to (hS.mem.grNew 49 2 (itV (gtD ([] : List (ByteArray × Int))) 0))
    refine hS.regS [0, 0, 0] [5, 9, 10] fun _ => seg [(38, .slice ao1 l.length c1), (39, vi ((l.length : Nat) : Int)), (40, vi 0)] [(0, none), (1, none), (2, none)] [] trivial fun ac wd hS => ?_
    refine wp_block ?_
    refine St.loopC (σ := Int × Option Addr × Nat × (Nat → Prop) × (List (ByteArray × Int))) (fun (x : Int × Option Addr × Nat × (Nat → Prop) × (List (ByteArray × Int))) => match x with | (x40, aoq, cq, Fq, lq) => ⟨[(5, [], pt (ν1 0) 0), (9, [], vb (dGetB l kk)), (10, [], .slice aoq lq.length cq), (38, [], .slice ao1 l.length c1), (39, [], vi ((l.length : Nat) : Int)), (40, [], vi x40)], [(0, .fn 0 64 dbT), (g1, .fn o1 (o1 + l.length * 2) (itV (gtD l) o1)), ((ν1 0), .cells [.string kk, vu nn] 49)], [grR 49 2 (.slice aoq lq.length cq) Fq (lq.length, (itV (gtD lq) 0))], (0 ≤ x40 ∧ x40 ≤ (l.length : Int)) ∧ (lq = (l.take (Int.toNat x40)).map (rSt kk nn)) ∧ True, l.length - Int.toNat x40⟩) (0, none, 0, no, ([] : List (ByteArray × Int))) ⟨(by first | omega | rfl), (by first | omega | rfl), trivial⟩ hS ?_
    clear hS
    rintro ⟨x40, aoq, cq, Fq, lq⟩ ⟨i0, i1, -⟩ ac wd hS
    replace i0 : 0 ≤ x40 ∧ x40 ≤ (l.length : Int) := i0
    replace i1 : lq = (l.take (Int.toNat x40)).map (rSt kk nn) := i1
    refine hS.regS [0] [5, 9, 10, 38, 39, 40] fun _ => seg [(41, vb (decide ((x40 : Int) < ((l.length : Nat) : Int))))] [(0, none), (1, none), (2, none)] [] trivial fun ac wd hS => ?_
    refine wp_seq ?_
    refine hS.condC (decide ((x40 : Int) < ((l.length : Nat) : Int))) (fun hb4o hb4 => ?_) (fun hb4o hb4 => ?_)
    ·
     refine wp_skip ?_
     refine pop_then ?_
     refine wp_seq ?_
     refine wp_block ?_
     obtain rfl : ao1 = some ⟨g1, o1, none⟩ := Or.resolve_left hv1 (by omega)
     refine hS.regS [20, fx 100 (.agg #[.string (((gtD l) (Int.toNat x40)).1), vu (((gtD l) (Int.toNat x40)).2)]), 0, 300] [5, 9, 10, 38, 39, 40] fun ν13 => seg [(12, pt (ν13 0) 0)] [(0, none), (1, none), (2, none), (3, some ((ν13 0), .cells [.string (((gtD l) (Int.toNat x40)).1), vu (((gtD l) (Int.toNat x40)).2)] 49))] [.e (ν13 0), .e (ν13 0), .p ((.agg #[((itV (gtD l) o1) (o1 + Int.toNat x40 * 2)), ((itV (gtD l) o1) (o1 + Int.toNat x40 * 2 + 1))] : Value) = .agg #[.string (((gtD l) (Int.toNat x40)).1), vu (((gtD l) (Int.toNat x40)).2)]), .e g1, .p (o1 ≤ o1 + Int.toNat x40 * 2 + 1 ∧ o1 + Int.toNat x40 * 2 + 1 < (o1 + l.length * 2)), .e g1, .p (o1 ≤ o1 + Int.toNat x40 * 2 ∧ o1 + Int.toNat x40 * 2 < (o1 + l.length * 2)), .p ((0 : Int) ≤ x40 ∧ (x40 : Int) < ((l.length : Nat) : Int))] ⟨(agg2 (itV_0 (gtD l) o1 (Int.toNat x40)) (itV_1 (gtD l) o1 (Int.toNat x40))), (by omega), (by omega), (by omega), trivial⟩ fun ac wd hS => ?_
     refine wp_seq ?_
     refine hS.regS [0, 300, 0, 200, 0] [5, 9, 10, 12, 38, 39, 40] fun _ => seg [(48, vb (ByteArray.toList (((gtD l) (Int.toNat x40)).1) == ByteArray.toList kk))] [(0, none), (1, none), (2, none), (3, none)] [.e (ν1 0), .e (ν13 0)] trivial fun ac wd hS => ?_
     refine hS.condC (ByteArray.toList (((gtD l) (Int.toNat x40)).1) == ByteArray.toList kk) (fun hb5o hb5 => ?_) (fun hb5o hb5 => ?_)
     ·
      have hn : ((gtD l (Int.toNat x40)).1.toList == kk.toList) = true := hb5o
      refine hS.regC [200, 300] [5, 9, 10, 12, 38, 39, 40] fun _ => seg [] [(0, none), (1, none), (2, none), (3, some ((ν13 0), .cells [.string kk, vu nn] 49))] [.e (ν13 0), .e (ν13 0), .e (ν1 0), .e (ν1 0)] trivial fun ac wd hS => ?_
      refine pop_then ?_
      refine wp_region_lit ?_
      refine hS.opsC 3 [0, 300, 0] [5, 9, 10, 38, 39, 40] fun ν16 => seg [(50, .slice aoq lq.length cq), (52, sc (ν16 0) 0 1 1)] [(0, none), (1, none), (2, none), (4, some ((ν16 0), .cells [.string kk, vu nn] 49))] [.e (ν13 0), .e (ν13 0)] trivial fun ac wd hS => ?_
      obtain ⟨i_, hi_, hz_, hs_, hb_⟩ := info_get (P := Tryz.prog) (e := 49) (z := .agg #[.string (ByteArray.empty), vu 0]) (s := 2) (b := 24) (by kernel_rfl)
      refine Runs1.list ?_
      refine St.appV (m := lq.length) (f := (itV (gtD lq) 0)) (news := [.string kk, vu nn]) (bx := (ν16 0)) (cx := 1) (Tx := 49) 0 hS (.tmp 50) (.tmp 52) 33 rfl rfl (by decide) Tryz.underlying33 hi_ hz_ hs_ (by omega) rfl (by decide) 3 rfl rfl (by first | (rw [i1, List.length_map, List.length_take]; omega) | (rw [i1]; simp; omega) | omega) fun ac wd v2_ F8 hB9 hS => ?_
      obtain ⟨xo6, xc7, rfl⟩ := hB9.slice
      replace hS := hS.to (hS.mem.grTell (m := (lq.length + 1)) 0 (itV (gtD (lq ++ [(kk, nn)])) 0) (itV_app lq kk nn))
      have hm_ : lq.length + 1 = ((lq ++ [(kk, nn)])).length := by simp
      replace hS := hS.to (hS.mem.grRe (v := .slice xo6 (lq.length + 1) xc7) (v' := .slice xo6 (((lq ++ [(kk, nn)])).length) xc7) (m := (lq.length + 1)) (m' := ((lq ++ [(kk, nn)])).length) (f := (itV (gtD (lq ++ [(kk, nn)])) 0)) 0 (by rw [hm_]) hm_)
      replace hS := hS.fix 53 (.slice xo6 (((lq ++ [(kk, nn)])).length) xc7) (show (.slice xo6 (lq.length + 1) xc7 : Value) = .slice xo6 (((lq ++ [(kk, nn)])).length) xc7 by rw [hm_])
      refine hS.opsC 1 [0] [5, 9, 38, 39, 40] fun _ => seg [(10, .slice xo6 (((lq ++ [(kk, nn)])).length) xc7)] [(0, none), (1, none), (2, none)] [] trivial fun ac wd hS => ?_
      refine list_nil ?_
      refine pop_block ?_
      refine pop_then ?_
      refine hS.regC [20, 0] [5, 9, 10, 38, 39] fun _ => seg [(40, vi (x40 + 1))] [(0, none), (1, none), (2, none)] [.p (fit .i64 (x40 + 1))] ⟨fit_i64 (by omega), trivial⟩ fun ac wd hS => ?_
      exact pop_then (hS.next ((x40 + 1), xo6, xc7, F8, (lq ++ [(kk, nn)])) ⟨(by first | omega | assumption | (simp; done) | (simp; omega)), (by first | exact ms_yes i1 i0.1 (by omega) hn | exact ms_no i1 i0.1 (by omega) hn), trivial⟩ (by dsimp only; omega))
     ·
      have hn : ((gtD l (Int.toNat x40)).1.toList == kk.toList) = false := hb5o
      refine wp_skip ?_
      refine pop_then ?_
      refine wp_region_lit ?_
      refine hS.opsC 3 [0, 300, 0] [5, 9, 10, 38, 39, 40] fun ν19 => seg [(50, .slice aoq lq.length cq), (52, sc (ν19 0) 0 1 1)] [(0, none), (1, none), (2, none), (4, some ((ν19 0), .cells [.string (((gtD l) (Int.toNat x40)).1), vu (((gtD l) (Int.toNat x40)).2)] 49))] [.e (ν13 0), .e (ν13 0)] trivial fun ac wd hS => ?_
      obtain ⟨i_, hi_, hz_, hs_, hb_⟩ := info_get (P := Tryz.prog) (e := 49) (z := .agg #[.string (ByteArray.empty), vu 0]) (s := 2) (b := 24) (by kernel_rfl)
      refine Runs1.list ?_
      refine St.appV (m := lq.length) (f := (itV (gtD lq) 0)) (news := [.string (((gtD l) (Int.toNat x40)).1), vu (((gtD l) (Int.toNat x40)).2)]) (bx := (ν19 0)) (cx := 1) (Tx := 49) 0 hS (.tmp 50) (.tmp 52) 33 rfl rfl (by decide) Tryz.underlying33 hi_ hz_ hs_ (by omega) rfl (by decide) 3 rfl rfl (by first | (rw [i1, List.length_map, List.length_take]; omega) | (rw [i1]; simp; omega) | omega) fun ac wd v2_ F12 hB13 hS => ?_
      obtain ⟨xo10, xc11, rfl⟩ := hB13.slice
      replace hS := hS.to (hS.mem.grTell (m := (lq.length + 1)) 0 (itV (gtD (lq ++ [(((gtD l) (Int.toNat x40)).1, ((gtD l) (Int.toNat x40)).2)])) 0) (itV_app lq (((gtD l) (Int.toNat x40)).1) (((gtD l) (Int.toNat x40)).2)))
      have hm_ : lq.length + 1 = ((lq ++ [(((gtD l) (Int.toNat x40)).1, ((gtD l) (Int.toNat x40)).2)])).length := by simp
      replace hS := hS.to (hS.mem.grRe (v := .slice xo10 (lq.length + 1) xc11) (v' := .slice xo10 (((lq ++ [(((gtD l) (Int.toNat x40)).1, ((gtD l) (Int.toNat x40)).2)])).length) xc11) (m := (lq.length + 1)) (m' := ((lq ++ [(((gtD l) (Int.toNat x40)).1, ((gtD l) (Int.toNat x40)).2)])).length) (f := (itV (gtD (lq ++ [(((gtD l) (Int.toNat x40)).1, ((gtD l) (Int.toNat x40)).2)])) 0)) 0 (by rw [hm_]) hm_)
      replace hS := hS.fix 53 (.slice xo10 (((lq ++ [(((gtD l) (Int.toNat x40)).1, ((gtD l) (Int.toNat x40)).2)])).length) xc11) (show (.slice xo10 (lq.length + 1) xc11 : Value) = .slice xo10 (((lq ++ [(((gtD l) (Int.toNat x40)).1, ((gtD l) (Int.toNat x40)).2)])).length) xc11 by rw [hm_])
      refine hS.opsC 1 [0] [5, 9, 38, 39, 40] fun _ => seg [(10, .slice xo10 (((lq ++ [(((gtD l) (Int.toNat x40)).1, ((gtD l) (Int.toNat x40)).2)])).length) xc11)] [(0, none), (1, none), (2, none)] [] trivial fun ac wd hS => ?_
      refine list_nil ?_
      refine pop_block ?_
      refine pop_then ?_
      refine hS.regC [20, 0] [5, 9, 10, 38, 39] fun _ => seg [(40, vi (x40 + 1))] [(0, none), (1, none), (2, none)] [.p (fit .i64 (x40 + 1))] ⟨fit_i64 (by omega), trivial⟩ fun ac wd hS => ?_
      exact pop_then (hS.next ((x40 + 1), xo10, xc11, F12, (lq ++ [(((gtD l) (Int.toNat x40)).1, ((gtD l) (Int.toNat x40)).2)])) ⟨(by first | omega | assumption | (simp; done) | (simp; omega)), (by first | exact ms_yes i1 i0.1 (by omega) hn | exact ms_no i1 i0.1 (by omega) hn), trivial⟩ (by dsimp only; omega))
    ·
     refine wp_exit ?_
     refine pop_then_exit ?_
     refine pop_then_exit ?_
     refine pop_block_hit ?_
     refine pop_then ?_
     refine wp_seq ?_
     refine hS.regS [0, 0] [5, 10] fun _ => seg [(56, vb (!(dGetB l kk)))] [(0, none), (2, none)] [] trivial fun ac wd hS => ?_
     refine hS.condC (!(dGetB l kk)) (fun hb14o hb14 => ?_) (fun hb14o hb14 => ?_)
     ·
      have h9e := hb14o
      have h3 : ¬ 0 ≤ dOf l kk := by have h9_ := h9e; unfold dGetB at h9_; simpa using h9_
      have h4 : ¬ sn ≤ ((l.length : Nat) : Int) := fun q_ => by rw [h9e, decide_eq_true q_] at h9d; exact absurd h9d (by decide)
      obtain ⟨hD, hE⟩ := rs_5 (v := nn) h1 h2 h3 h4
      refine wp_region_lit ?_
      refine hS.opsC 3 [0, 100, 0] [10] fun ν23 => seg [(57, .slice aoq lq.length cq), (59, sc (ν23 0) 0 1 1)] [(0, none), (2, some ((ν23 0), .cells [.string kk, vu nn] 49))] [.e (ν1 0), .e (ν1 0)] trivial fun ac wd hS => ?_
      obtain ⟨i_, hi_, hz_, hs_, hb_⟩ := info_get (P := Tryz.prog) (e := 49) (z := .agg #[.string (ByteArray.empty), vu 0]) (s := 2) (b := 24) (by kernel_rfl)
      refine Runs1.list ?_
      refine St.appV (m := lq.length) (f := (itV (gtD lq) 0)) (news := [.string kk, vu nn]) (bx := (ν23 0)) (cx := 1) (Tx := 49) 0 hS (.tmp 57) (.tmp 59) 33 rfl rfl (by decide) Tryz.underlying33 hi_ hz_ hs_ (by omega) rfl (by decide) 1 rfl rfl (by first | (rw [i1, List.length_map, List.length_take]; omega) | (rw [i1]; simp; omega) | omega) fun ac wd v2_ F17 hB18 hS => ?_
      obtain ⟨xo15, xc16, rfl⟩ := hB18.slice
      replace hS := hS.to (hS.mem.grTell (m := (lq.length + 1)) 0 (itV (gtD (lq ++ [(kk, nn)])) 0) (itV_app lq kk nn))
      have hm_ : lq.length + 1 = ((lq ++ [(kk, nn)])).length := by simp
      replace hS := hS.to (hS.mem.grRe (v := .slice xo15 (lq.length + 1) xc16) (v' := .slice xo15 (((lq ++ [(kk, nn)])).length) xc16) (m := (lq.length + 1)) (m' := ((lq ++ [(kk, nn)])).length) (f := (itV (gtD (lq ++ [(kk, nn)])) 0)) 0 (by rw [hm_]) hm_)
      replace hS := hS.fix 60 (.slice xo15 (((lq ++ [(kk, nn)])).length) xc16) (show (.slice xo15 (lq.length + 1) xc16 : Value) = .slice xo15 (((lq ++ [(kk, nn)])).length) xc16 by rw [hm_])
      refine hS.opsC 1 [0] [] fun _ => seg [(10, .slice xo15 (((lq ++ [(kk, nn)])).length) xc16)] [(0, none)] [] trivial fun ac wd hS => ?_
      refine list_nil ?_
      refine pop_then ?_
      refine hS.regS [0, 0, 0] [] fun _ => seg [(6, .slice xo15 (((lq ++ [(kk, nn)])).length) xc16), (7, vi 0)] [(0, none)] [] trivial fun ac wd hS => ?_
      refine wp_ret ?_
      have hq_ : (l.map (rSt kk nn)) = lq := (show lq = (l.map (rSt kk nn)) by rw [i1, List.take_of_length_le (by omega)]).symm
      subst hq_
      rcases Nat.eq_zero_or_pos ((((l.map (rSt kk nn)) ++ [(kk, nn)])).length) with hz_ | hz_
      ·
       have hm_ : (((l.map (rSt kk nn)) ++ [(kk, nn)])).length = 0 := by exact hz_
       replace hS := hS.to (hS.mem.grRe (v := .slice xo15 ((((l.map (rSt kk nn)) ++ [(kk, nn)])).length) xc16) (v' := .slice xo15 0 xc16) (m := ((((l.map (rSt kk nn)) ++ [(kk, nn)])).length)) (m' := 0) (f := (itV (gtD ((l.map (rSt kk nn)) ++ [(kk, nn)])) 0)) 0 (by rw [hm_]) hm_)
       replace hS := hS.fix 6 (.slice xo15 0 xc16) (show (.slice xo15 ((((l.map (rSt kk nn)) ++ [(kk, nn)])).length) xc16 : Value) = .slice xo15 0 xc16 by rw [hm_])
       obtain ⟨hv_, hO⟩ := WS.grNil (e := 49) (sz := 2) (m := 0) (f := (itV (gtD ((l.map (rSt kk nn)) ++ [(kk, nn)])) 0)) hS.mem (by first | omega | rfl)
       obtain ⟨rfl, rfl⟩ : (none : Option Addr) = xo15 ∧ 0 = xc16 := by cases hv_; exact ⟨rfl, rfl⟩
       clear hv_
       replace hS := hS.to hO
       clear hO
       refine St.retC 0 hS (.tuple #[vnil, vi 0]) [] trivial fun hw => ?_
       refine ⟨none, 0, 0, 0, retd (tuple2 (slN ?_) (vint ?_)), (by first | exact (.inl rfl) | exact .inl hz_ | (rw [← hD]; exact (.inl rfl)) | (rw [← hD]; exact .inl hz_)), (by omega), (HE.fn_none (hw.get 0 0 (.fn 0 64 dbT)) ?_), hw.fr0⟩
       all_goals (first | (first | rfl | (rw [← hD]; done) | (rw [← hD]; omega) | (intro x_ _ _; rw [← hD]) | exact hE | (rw [hD]; done) | (intro x_ _; rw [← hD]) | (intro x_ hx_; rw [hD])) | (intro x_ hx_; rfl) | (intro x_ hx_ hy_; rfl))
      ·
       obtain ⟨gg19, cp20, hv_, hcp_, hO⟩ := WS.grOpen (e := 49) (sz := 2) (m := ((((l.map (rSt kk nn)) ++ [(kk, nn)])).length)) (f := (itV (gtD ((l.map (rSt kk nn)) ++ [(kk, nn)])) 0)) hS.mem (by omega)
       obtain ⟨rfl, rfl⟩ : some (⟨gg19, 0, none⟩ : Addr) = xo15 ∧ cp20 = xc16 := by cases hv_; exact ⟨rfl, rfl⟩
       clear hv_
       replace hS := hS.to hO
       clear hO
       refine St.retC 0 hS (.tuple #[sc gg19 0 ((((l.map (rSt kk nn)) ++ [(kk, nn)])).length) cp20, vi 0]) [] trivial fun hw => ?_
       refine ⟨(some ⟨gg19, 0, none⟩), cp20, gg19, 0, retd (tuple2 (slN ?_) (vint ?_)), (by first | exact (.inr rfl) | exact .inl hz_ | (rw [← hD]; exact (.inr rfl)) | (rw [← hD]; exact .inl hz_)), (by have hg_ : w.heap.size ≤ gg19 := (hw.getm 1 gg19 (.row 49 ((((l.map (rSt kk nn)) ++ [(kk, nn)])).length * 2) (cp20 * 2) (itV (gtD ((l.map (rSt kk nn)) ++ [(kk, nn)])) 0))).resolve_right (fun h => h); omega), (HE.row_to (hw.get 1 gg19 (.row 49 ((((l.map (rSt kk nn)) ++ [(kk, nn)])).length * 2) (cp20 * 2) (itV (gtD ((l.map (rSt kk nn)) ++ [(kk, nn)])) 0))) ?_ ?_), hw.fr0⟩
       all_goals (first | (first | rfl | (rw [← hD]; done) | (rw [← hD]; omega) | (intro x_ _ _; rw [← hD]) | exact hE | (rw [hD]; done) | (intro x_ _; rw [← hD]) | (intro x_ hx_; rw [hD])) | (intro x_ hx_; rfl) | (intro x_ hx_ hy_; rfl))
     ·
      have h3 : 0 ≤ dOf l kk := by have h9_ := hb14o; unfold dGetB at h9_; simpa using h9_
      obtain ⟨hD, hE⟩ := rs_4 (v := nn) hO h1 h2 h3
      refine wp_skip ?_
      refine pop_then ?_
      refine hS.regS [0, 0, 0] [] fun _ => seg [(6, .slice aoq lq.length cq), (7, vi 0)] [(0, none)] [] trivial fun ac wd hS => ?_
      refine wp_ret ?_
      have hq_ : (l.map (rSt kk nn)) = lq := (show lq = (l.map (rSt kk nn)) by rw [i1, List.take_of_length_le (by omega)]).symm
      subst hq_
      rcases Nat.eq_zero_or_pos ((l.map (rSt kk nn)).length) with hz_ | hz_
      ·
       have hm_ : (l.map (rSt kk nn)).length = 0 := by exact hz_
       replace hS := hS.to (hS.mem.grRe (v := .slice aoq ((l.map (rSt kk nn)).length) cq) (v' := .slice aoq 0 cq) (m := ((l.map (rSt kk nn)).length)) (m' := 0) (f := (itV (gtD (l.map (rSt kk nn))) 0)) 0 (by rw [hm_]) hm_)
       replace hS := hS.fix 6 (.slice aoq 0 cq) (show (.slice aoq ((l.map (rSt kk nn)).length) cq : Value) = .slice aoq 0 cq by rw [hm_])
       obtain ⟨hv_, hO⟩ := WS.grNil (e := 49) (sz := 2) (m := 0) (f := (itV (gtD (l.map (rSt kk nn))) 0)) hS.mem (by first | omega | rfl)
       obtain ⟨rfl, rfl⟩ : (none : Option Addr) = aoq ∧ 0 = cq := by cases hv_; exact ⟨rfl, rfl⟩
       clear hv_
       replace hS := hS.to hO
       clear hO
       refine St.retC 0 hS (.tuple #[vnil, vi 0]) [] trivial fun hw => ?_
       refine ⟨none, 0, 0, 0, retd (tuple2 (slN ?_) (vint ?_)), (by first | exact (.inl rfl) | exact .inl hz_ | (rw [← hD]; exact (.inl rfl)) | (rw [← hD]; exact .inl hz_)), (by omega), (HE.fn_none (hw.get 0 0 (.fn 0 64 dbT)) ?_), hw.fr0⟩
       all_goals (first | (first | rfl | (rw [← hD]; done) | (rw [← hD]; omega) | (intro x_ _ _; rw [← hD]) | exact hE | (rw [hD]; done) | (intro x_ _; rw [← hD]) | (intro x_ hx_; rw [hD])) | (intro x_ hx_; rfl) | (intro x_ hx_ hy_; rfl))
      ·
       obtain ⟨gg21, cp22, hv_, hcp_, hO⟩ := WS.grOpen (e := 49) (sz := 2) (m := ((l.map (rSt kk nn)).length)) (f := (itV (gtD (l.map (rSt kk nn))) 0)) hS.mem (by omega)
       obtain ⟨rfl, rfl⟩ : some (⟨gg21, 0, none⟩ : Addr) = aoq ∧ cp22 = cq := by cases hv_; exact ⟨rfl, rfl⟩
       clear hv_
       replace hS := hS.to hO
       clear hO
       refine St.retC 0 hS (.tuple #[sc gg21 0 ((l.map (rSt kk nn)).length) cp22, vi 0]) [] trivial fun hw => ?_
       refine ⟨(some ⟨gg21, 0, none⟩), cp22, gg21, 0, retd (tuple2 (slN ?_) (vint ?_)), (by first | exact (.inr rfl) | exact .inl hz_ | (rw [← hD]; exact (.inr rfl)) | (rw [← hD]; exact .inl hz_)), (by have hg_ : w.heap.size ≤ gg21 := (hw.getm 1 gg21 (.row 49 ((l.map (rSt kk nn)).length * 2) (cp22 * 2) (itV (gtD (l.map (rSt kk nn))) 0))).resolve_right (fun h => h); omega), (HE.row_to (hw.get 1 gg21 (.row 49 ((l.map (rSt kk nn)).length * 2) (cp22 * 2) (itV (gtD (l.map (rSt kk nn))) 0))) ?_ ?_), hw.fr0⟩
       all_goals (first | (first | rfl | (rw [← hD]; done) | (rw [← hD]; omega) | (intro x_ _ _; rw [← hD]) | exact hE | (rw [hD]; done) | (intro x_ _; rw [← hD]) | (intro x_ hx_; rw [hD])) | (intro x_ hx_; rfl) | (intro x_ hx_ hy_; rfl))

set_option maxRecDepth 100000 in
set_option maxHeartbeats 1000000 in
theorem r22_Put (ao1 : Option Addr) (c1 : Nat) (g1 : Nat) (o1 : Nat) (l : List (ByteArray × Int)) (sn : Int) (ao8 : Option Addr) (c8 : Nat) (g8 : Nat) (o8 : Nat) (li : List (ByteArray × Int)) (w : World) (hh0 : HE.holds w 0 (.fn 0 64 dbT)) (hh1 : HE.holds w g1 (.fn o1 (o1 + l.length * 2) (itV (gtD l) o1))) (hh2 : HE.holds w g8 (.fn o8 (o8 + li.length * 2) (itV (gtD li) o8))) (hv1 : (l.length = 0 ∨ ao1 = some ⟨g1, o1, none⟩)) (hv8 : (li.length = 0 ∨ ao8 = some ⟨g8, o8, none⟩)) (hl4 : l.length ≤ 4294967200) (hO : OkD sn l) (hsn : sn ≤ 4294967200) (hI : ∀ i, i < li.length → 0 ≤ (gtD li i).2 ∧ (gtD li i).2 ≤ 18446744073709551615) (hl8 : li.length ≤ 4294967200) :
    Calls Tryz.prog 8 #[.slice ao1 l.length c1, vi sn, .slice ao8 li.length c8] w fun e w' => ∃ (ao2 : Option Addr) (c2 : Nat) (g2 : Nat) (o2 : Nat), e = .returned (.tuple #[.slice ao2 ((dPutL sn l li).length) c2, vi ((dPutT sn l li).2)]) ∧ ((dPutL sn l li).length = 0 ∨ ao2 = some ⟨g2, o2, none⟩) ∧ (g2 = g1 ∨ g2 = 0 ∨ w.heap.size ≤ g2) ∧ HE.holds w' g2 (.fn o2 (o2 + (dPutL sn l li).length * 2) (itV (gtD (dPutL sn l li)) o2)) ∧ Fr w w' no no := by
 refine enter (args := [.slice ao1 l.length c1, vi sn, .slice ao8 li.length c8]) (D := no) (A := []) Tryz.func8 rfl 34 rfl [(0, .fn 0 64 dbT), (g1, .fn o1 (o1 + l.length * 2) (itV (gtD l) o1)), (g8, .fn o8 (o8 + li.length * 2) (itV (gtD li) o8))] (WS.startL ⟨⟨rfl, hh0⟩, ⟨rfl, hh1⟩, ⟨rfl, hh2⟩, trivial⟩) fun ac hS => ?_
 refine hS.regS [0, 0] [0, 1, 2] fun _ => seg [] [(0, none), (1, none), (2, none)] [] trivial fun ac wd hS => ?_
 refine hS.regS [0, 0] [0, 1, 2] fun _ => seg [(8, .slice ao1 l.length c1)] [(0, none), (1, none), (2, none)] [] trivial fun ac wd hS => ?_
 refine wp_seq ?_
 refine hS.regS [0, 0, 0] [0, 1, 8] fun _ => seg [(14, .slice ao8 li.length c8), (15, vi ((li.length : Nat) : Int)), (16, vi 0)] [(0, none), (1, none), (2, none)] [] trivial fun ac wd hS => ?_
 refine wp_block ?_
 replace hS := hS.to (hS.mem.dup 1 (b := g1) (lo := o1) (hi := (o1 + l.length * 2)) (f := (itV (gtD l) o1)))
 refine St.loopC (σ := Int × Option Addr × Nat × Nat × Nat × (List (ByteArray × Int))) (fun (x : Int × Option Addr × Nat × Nat × Nat × (List (ByteArray × Int))) => match x with | (x16, aoo, co, go, oo, lo) => ⟨[(0, [], .slice ao1 l.length c1), (1, [], vi sn), (8, [], .slice aoo lo.length co), (14, [], .slice ao8 li.length c8), (15, [], vi ((li.length : Nat) : Int)), (16, [], vi x16)], [(0, .fn 0 64 dbT), (go, .fn oo (oo + lo.length * 2) (itV (gtD lo) oo)), (g8, .fn o8 (o8 + li.length * 2) (itV (gtD li) o8)), (g1, .fn o1 (o1 + l.length * 2) (itV (gtD l) o1))], [], (0 ≤ x16 ∧ x16 ≤ (li.length : Int)) ∧ ((lo, (0 : Int)) = dPutT sn l (li.take (Int.toNat x16))) ∧ (OkD sn lo) ∧ (go = g1 ∨ go = 0 ∨ w.heap.size ≤ go) ∧ (lo.length = 0 ∨ aoo = some ⟨go, oo, none⟩) ∧ True, li.length - Int.toNat x16⟩) (0, ao1, c1, g1, o1, l) ⟨(by first | omega | rfl | exact hO | exact .inl rfl), (by first | omega | rfl | exact hO | exact .inl rfl), (by first | omega | rfl | exact hO | exact .inl rfl), (by first | omega | rfl | exact hO | exact .inl rfl), (by exact hv1), trivial⟩ hS ?_
 clear hS
 rintro ⟨x16, aoo, co, go, oo, lo⟩ ⟨i0, i1, i2, i3, hvo, -⟩ ac wd hS
 replace i0 : 0 ≤ x16 ∧ x16 ≤ (li.length : Int) := i0
 replace i1 : (lo, (0 : Int)) = dPutT sn l (li.take (Int.toNat x16)) := i1
 replace i2 : OkD sn lo := i2
 replace i3 : go = g1 ∨ go = 0 ∨ w.heap.size ≤ go := i3
 replace hvo : lo.length = 0 ∨ aoo = some ⟨go, oo, none⟩ := hvo
 refine hS.regS [0] [0, 1, 8, 14, 15, 16] fun _ => seg [(17, vb (decide ((x16 : Int) < ((li.length : Nat) : Int))))] [(0, none), (1, none), (2, none), (3, none)] [] trivial fun ac wd hS => ?_
 refine wp_seq ?_
 refine hS.condC (decide ((x16 : Int) < ((li.length : Nat) : Int))) (fun hb1o hb1 => ?_) (fun hb1o hb1 => ?_)
 ·
  refine wp_skip ?_
  refine pop_then ?_
  refine wp_seq ?_
  refine wp_block ?_
  obtain rfl : ao8 = some ⟨g8, o8, none⟩ := Or.resolve_left hv8 (by omega)
  refine hS.regS [20, fx 200 (.agg #[.string (((gtD li) (Int.toNat x16)).1), vu (((gtD li) (Int.toNat x16)).2)]), 0, 400] [0, 1, 8, 14, 15, 16] fun ν5 => seg [(10, pt (ν5 0) 0)] [(0, none), (1, none), (2, none), (3, none), (4, some ((ν5 0), .cells [.string (((gtD li) (Int.toNat x16)).1), vu (((gtD li) (Int.toNat x16)).2)] 49))] [.e (ν5 0), .e (ν5 0), .p ((.agg #[((itV (gtD li) o8) (o8 + Int.toNat x16 * 2)), ((itV (gtD li) o8) (o8 + Int.toNat x16 * 2 + 1))] : Value) = .agg #[.string (((gtD li) (Int.toNat x16)).1), vu (((gtD li) (Int.toNat x16)).2)]), .e g8, .p (o8 ≤ o8 + Int.toNat x16 * 2 + 1 ∧ o8 + Int.toNat x16 * 2 + 1 < (o8 + li.length * 2)), .e g8, .p (o8 ≤ o8 + Int.toNat x16 * 2 ∧ o8 + Int.toNat x16 * 2 < (o8 + li.length * 2)), .p ((0 : Int) ≤ x16 ∧ (x16 : Int) < ((li.length : Nat) : Int))] ⟨(agg2 (itV_0 (gtD li) o8 (Int.toNat x16)) (itV_1 (gtD li) o8 (Int.toNat x16))), (by omega), (by omega), (by omega), trivial⟩ fun ac wd hS => ?_
  refine wp_region_seq ?_
  refine hS.opsC 3 [0, 0, 400] [0, 1, 14, 15, 16] fun _ => seg [(21, .slice aoo lo.length co), (22, vi sn), (23, .agg #[.string (((gtD li) (Int.toNat x16)).1), vu (((gtD li) (Int.toNat x16)).2)])] [(0, none), (1, none), (2, none), (3, none)] [.e (ν5 0), .e (ν5 0)] trivial fun ac wd hS => ?_
  refine hS.callC 13 #[.slice aoo lo.length co, vi sn, .agg #[.string (((gtD li) (Int.toNat x16)).1), vu (((gtD li) (Int.toNat x16)).2)]] (r22_Set aoo co go oo lo sn (((gtD li) (Int.toNat x16)).1) (((gtD li) (Int.toNat x16)).2) _ (hS.mem.get 0 0 (.fn 0 64 dbT)) (hS.mem.get 1 go (.fn oo (oo + lo.length * 2) (itV (gtD lo) oo))) hvo (by (have := i2.len; omega)) (by exact i2)) ?_
  rintro _ wd ⟨ao22, c23, g24, o25, rfl, hv26, hog0, hoh0, hF⟩
  have ho7 : g24 = go ∨ g24 = 0 ∨ w.heap.size ≤ g24 := by have := hS.mem.fr.size; have : w.heap.size ≤ _ := this; omega
  refine ⟨.tuple #[.slice ao22 ((dPutL sn lo [((((gtD li) (Int.toNat x16)).1), (((gtD li) (Int.toNat x16)).2))]).length) c23, vi ((dPutT sn lo [((((gtD li) (Int.toNat x16)).1), (((gtD li) (Int.toNat x16)).2))]).2)], rfl, ?_⟩
  replace hS := (hS.to (hS.mem.outs hF [(g24, .fn o25 (o25 + (dPutL sn lo [((((gtD li) (Int.toNat x16)).1), (((gtD li) (Int.toNat x16)).2))]).length * 2) (itV (gtD (dPutL sn lo [((((gtD li) (Int.toNat x16)).1), (((gtD li) (Int.toNat x16)).2))])) o25))] ⟨⟨rfl, hoh0, (fun q_ => q_.elim (fun e => .inl ⟨1, .fn oo (oo + lo.length * 2) (itV (gtD lo) oo), by rw [e]; as_aux_lemma => kernel_rfl, rfl⟩) (fun q_ => q_.elim (fun e => .inl ⟨0, .fn 0 64 dbT, by rw [e]; as_aux_lemma => kernel_rfl, rfl⟩) (fun q_ => .inr q_))) hog0⟩, trivial⟩)).put (d := 24) (v := .tuple #[.slice ao22 ((dPutL sn lo [((((gtD li) (Int.toNat x16)).1), (((gtD li) (Int.toNat x16)).2))]).length) c23, vi ((dPutT sn lo [((((gtD li) (Int.toNat x16)).1), (((gtD li) (Int.toNat x16)).2))]).2)]) (by decide)
  clear hF
  refine hS.opsC 5 [0, 0, 0, 0, 0] [0, 1, 14, 15, 16] fun _ => seg [(11, .slice ao22 ((dPutL sn lo [((((gtD li) (Int.toNat x16)).1), (((gtD li) (Int.toNat x16)).2))]).length) c23), (12, vi ((dPutT sn lo [((((gtD li) (Int.toNat x16)).1), (((gtD li) (Int.toNat x16)).2))]).2))] [(0, none), (2, none), (3, none), (4, none)] [] trivial fun ac wd hS => ?_
  refine list_nil_seq ?_
  refine wp_seq ?_
  refine hS.regS [0, 0] [0, 1, 11, 12, 14, 15, 16] fun _ => seg [(28, vb (((dPutT sn lo [((((gtD li) (Int.toNat x16)).1), (((gtD li) (Int.toNat x16)).2))]).2 : Int) != 0))] [(0, none), (1, none), (2, none), (3, none)] [] trivial fun ac wd hS => ?_
  refine hS.condC (((dPutT sn lo [((((gtD li) (Int.toNat x16)).1), (((gtD li) (Int.toNat x16)).2))]).2 : Int) != 0) (fun hb8o hb8 => ?_) (fun hb8o hb8 => ?_)
  ·
   obtain ⟨hD, hE⟩ := rp_err i1 i0.1 (by omega) hb8
   refine hS.regS [0, 0, 0, 0] [] fun _ => seg [(6, .slice ao1 l.length c1), (7, vi ((dPutT sn lo [((((gtD li) (Int.toNat x16)).1), (((gtD li) (Int.toNat x16)).2))]).2))] [(0, none), (2, none)] [] trivial fun ac wd hS => ?_
   refine wp_ret ?_
   refine pop_then_ret ?_
   refine pop_block_ret ?_
   refine pop_then_ret ?_
   refine pop_then_ret ?_
   refine pop_block_ret ?_
   refine pop_then_ret ?_
   refine St.retC 0 hS (.tuple #[.slice ao1 l.length c1, vi ((dPutT sn lo [((((gtD li) (Int.toNat x16)).1), (((gtD li) (Int.toNat x16)).2))]).2)]) [] trivial fun hw => ?_
   refine ⟨ao1, c1, g1, o1, retd (tuple2 (slN ?_) (vint ?_)), (by first | exact hv1 | exact .inl hz_ | (rw [← hD]; exact hv1) | (rw [← hD]; exact .inl hz_)), (by omega), (HE.fn_to (hw.get 1 g1 (.fn o1 (o1 + l.length * 2) (itV (gtD l) o1))) ?_ ?_), hw.fr0⟩
   all_goals (first | (first | rfl | (rw [← hD]; done) | (rw [← hD]; omega) | (intro x_ _ _; rw [← hD]) | exact hE | (rw [hD]; done) | (intro x_ _; rw [← hD]) | (intro x_ hx_; rw [hD])) | (intro x_ hx_; rfl) | (intro x_ hx_ hy_; rfl))
  ·
   have he0 := hb8
   refine wp_skip ?_
   refine pop_then ?_
   refine hS.regC [0, 0] [0, 1, 14, 15, 16] fun _ => seg [(8, .slice ao22 ((dPutL sn lo [((((gtD li) (Int.toNat x16)).1), (((gtD li) (Int.toNat x16)).2))]).length) c23)] [(0, none), (1, none), (2, none), (3, none)] [] trivial fun ac wd hS => ?_
   refine pop_block ?_
   refine pop_then ?_
   refine hS.regC [20, 0] [0, 1, 8, 14, 15] fun _ => seg [(16, vi (x16 + 1))] [(0, none), (1, none), (2, none), (3, none)] [.p (fit .i64 (x16 + 1))] ⟨fit_i64 (by omega), trivial⟩ fun ac wd hS => ?_
   replace hS := hS.perm (H' := [(0, .fn 0 64 dbT), (g24, .fn o25 (o25 + (dPutL sn lo [((((gtD li) (Int.toNat x16)).1), (((gtD li) (Int.toNat x16)).2))]).length * 2) (itV (gtD (dPutL sn lo [((((gtD li) (Int.toNat x16)).1), (((gtD li) (Int.toNat x16)).2))])) o25)), (g8, .fn o8 (o8 + li.length * 2) (itV (gtD li) o8)), (g1, .fn o1 (o1 + l.length * 2) (itV (gtD l) o1))]) [0, 3, 1, 2] (by as_aux_lemma => kernel_rfl) (by decide)
   exact pop_then (hS.next ((x16 + 1), ao22, c23, g24, o25, (dPutL sn lo [((((gtD li) (Int.toNat x16)).1), (((gtD li) (Int.toNat x16)).2))])) ⟨(by first | omega | assumption | (simp; done) | (simp; omega)), (by exact rp_step i1 i0.1 (by omega) he0), (by exact rp_ok i2 (hI _ (by omega))), (by first | omega | (have hsz_ := hS.mem.fr.size; omega)), (by exact hv26), trivial⟩ (by dsimp only; omega))
 ·
  refine wp_exit ?_
  refine pop_then_exit ?_
  refine pop_then_exit ?_
  refine pop_block_hit ?_
  refine pop_then ?_
  obtain ⟨hD, hE⟩ := rp_end i1 (by omega)
  refine hS.regS [0, 0, 0] [] fun _ => seg [(6, .slice aoo lo.length co), (7, vi 0)] [(0, none), (1, none)] [] trivial fun ac wd hS => ?_
  refine wp_ret ?_
  refine St.retC 0 hS (.tuple #[.slice aoo lo.length co, vi 0]) [] trivial fun hw => ?_
  refine ⟨aoo, co, go, oo, retd (tuple2 (slN ?_) (vint ?_)), (by first | exact hvo | exact .inl hz_ | (rw [← hD]; exact hvo) | (rw [← hD]; exact .inl hz_)), (by omega), (HE.fn_to (hw.get 1 go (.fn oo (oo + lo.length * 2) (itV (gtD lo) oo))) ?_ ?_), hw.fr0⟩
  all_goals (first | (first | rfl | (rw [← hD]; done) | (rw [← hD]; omega) | (intro x_ _ _; rw [← hD]) | exact hE | (rw [hD]; done) | (intro x_ _; rw [← hD]) | (intro x_ hx_; rw [hD])) | (intro x_ hx_; rfl) | (intro x_ hx_ hy_; rfl))

set_option maxRecDepth 100000 in
set_option maxHeartbeats 1000000 in
theorem r22_Drop (ao1 : Option Addr) (c1 : Nat) (g1 : Nat) (o1 : Nat) (l : List (ByteArray × Int)) (kk : ByteArray) (sn : Int) (w : World) (hh0 : HE.holds w 0 (.fn 0 64 dbT)) (hh1 : HE.holds w g1 (.fn o1 (o1 + l.length * 2) (itV (gtD l) o1))) (hv1 : (l.length = 0 ∨ ao1 = some ⟨g1, o1, none⟩)) (hl4 : l.length ≤ 4294967200) (hO : OkD sn l) :
    Calls Tryz.prog 11 #[.slice ao1 l.length c1, .string kk] w fun e w' => ∃ (ao2 : Option Addr) (c2 : Nat) (g2 : Nat) (o2 : Nat), e = .returned (.tuple #[.slice ao2 ((dDroL l kk).length) c2, vi (dDroE l kk)]) ∧ ((dDroL l kk).length = 0 ∨ ao2 = some ⟨g2, o2, none⟩) ∧ (g2 = g1 ∨ g2 = 0 ∨ w.heap.size ≤ g2) ∧ HE.holds w' g2 (.fn o2 (o2 + (dDroL l kk).length * 2) (itV (gtD (dDroL l kk)) o2)) ∧ Fr w w' no no := by
 refine enter (args := [.slice ao1 l.length c1, .string kk]) (D := no) (A := []) Tryz.func11 rfl 36 rfl [(0, .fn 0 64 dbT), (g1, .fn o1 (o1 + l.length * 2) (itV (gtD l) o1))] (WS.startL ⟨⟨rfl, hh0⟩, ⟨rfl, hh1⟩, trivial⟩) fun ac hS => ?_
 refine hS.regS [0, 0] [0, 1] fun _ => seg [] [(0, none), (1, none)] [] trivial fun ac wd hS => ?_
 refine wp_region_seq ?_
 refine hS.opsC 2 [0, 0] [0, 1] fun _ => seg [(12, .slice ao1 l.length c1), (13, .string kk)] [(0, none), (1, none)] [] trivial fun ac wd hS => ?_
 refine hS.call0 15 #[.slice ao1 l.length c1, .string kk] 14 (r22_Get ao1 c1 g1 o1 l kk _ (hS.mem.get 1 g1 (.fn o1 (o1 + l.length * 2) (itV (gtD l) o1))) hv1 (by first | assumption | omega | (simp_all; done) | (simp_all; omega))) fun ac wd hS => ?_
 refine hS.opsC 5 [0, 0, 0, 0, 0] [0, 1] fun _ => seg [(7, vb (dGetB l kk))] [(0, none), (1, none)] [] trivial fun ac wd hS => ?_
 refine list_nil_seq ?_
 refine wp_seq ?_
 refine hS.regS [0, 0] [0, 1] fun _ => seg [(18, vb (!(dGetB l kk)))] [(0, none), (1, none)] [] trivial fun ac wd hS => ?_
 refine hS.condC (!(dGetB l kk)) (fun hb1o hb1 => ?_) (fun hb1o hb1 => ?_)
 ·
  obtain ⟨hD, hE⟩ := rdr_no (L := l) (k := kk) (by have h9_ := hb1o; unfold dGetB at h9_; simpa using h9_)
  refine hS.regS [0, 0, 0] [] fun _ => seg [(4, .slice ao1 l.length c1), (5, vi 8)] [(0, none), (1, none)] [] trivial fun ac wd hS => ?_
  refine wp_ret ?_
  refine pop_then_ret ?_
  refine St.retC 0 hS (.tuple #[.slice ao1 l.length c1, vi 8]) [] trivial fun hw => ?_
  refine ⟨ao1, c1, g1, o1, retd (tuple2 (slN ?_) (vint ?_)), (by first | exact hv1 | exact .inl hz_ | (rw [← hD]; exact hv1) | (rw [← hD]; exact .inl hz_)), (by omega), (HE.fn_to (hw.get 1 g1 (.fn o1 (o1 + l.length * 2) (itV (gtD l) o1))) ?_ ?_), hw.fr0⟩
  all_goals (first | (first | rfl | (rw [← hD]; done) | (rw [← hD]; omega) | (intro x_ _ _; rw [← hD]) | exact hE | (rw [hD]; done) | (intro x_ _; rw [← hD]) | (intro x_ hx_; rw [hD])) | (intro x_ hx_; rfl) | (intro x_ hx_ hy_; rfl))
 ·
  obtain ⟨hD, hE⟩ := rdr_yes hO (k := kk) (by have h9_ := hb1o; unfold dGetB at h9_; simpa using h9_)
  refine wp_skip ?_
  refine pop_then ?_
  refine hS.regS [0] [0, 1] fun _ => seg [(8, vnil)] [(0, none), (1, none)] [] trivial fun ac wd hS => ?_
  refine wp_seq ?_
  replace hS := hS.to (hS.mem.grNew 49 2 (itV (gtD ([] : List (ByteArray × Int))) 0))
  refine hS.regS [0, 0, 0] [1, 8] fun _ => seg [(20, .slice ao1 l.length c1), (21, vi ((l.length : Nat) : Int)), (22, vi 0)] [(0, none), (1, none)] [] trivial fun ac wd hS => ?_
  refine wp_block ?_
  refine St.loopC (σ := Int × Option Addr × Nat × (Nat → Prop) × (List (ByteArray × Int))) (fun (x : Int × Option Addr × Nat × (Nat → Prop) × (List (ByteArray × Int))) => match x with | (x22, aoq, cq, Fq, lq) => ⟨[(1, [], .string kk), (8, [], .slice aoq lq.length cq), (20, [], .slice ao1 l.length c1), (21, [], vi ((l.length : Nat) : Int)), (22, [], vi x22)], [(0, .fn 0 64 dbT), (g1, .fn o1 (o1 + l.length * 2) (itV (gtD l) o1))], [grR 49 2 (.slice aoq lq.length cq) Fq (lq.length, (itV (gtD lq) 0))], (0 ≤ x22 ∧ x22 ≤ (l.length : Int)) ∧ (lq = (l.take (Int.toNat x22)).filter (rKp kk)) ∧ True, l.length - Int.toNat x22⟩) (0, none, 0, no, ([] : List (ByteArray × Int))) ⟨(by first | omega | rfl), (by first | omega | rfl), trivial⟩ hS ?_
  clear hS
  rintro ⟨x22, aoq, cq, Fq, lq⟩ ⟨i0, i1, -⟩ ac wd hS
  replace i0 : 0 ≤ x22 ∧ x22 ≤ (l.length : Int) := i0
  replace i1 : lq = (l.take (Int.toNat x22)).filter (rKp kk) := i1
  refine hS.regS [0] [1, 8, 20, 21, 22] fun _ => seg [(23, vb (decide ((x22 : Int) < ((l.length : Nat) : Int))))] [(0, none), (1, none)] [] trivial fun ac wd hS => ?_
  refine wp_seq ?_
  refine hS.condC (decide ((x22 : Int) < ((l.length : Nat) : Int))) (fun hb2o hb2 => ?_) (fun hb2o hb2 => ?_)
  ·
   refine wp_skip ?_
   refine pop_then ?_
   refine wp_seq ?_
   refine wp_block ?_
   obtain rfl : ao1 = some ⟨g1, o1, none⟩ := Or.resolve_left hv1 (by omega)
   refine hS.regS [20, fx 100 (.agg #[.string (((gtD l) (Int.toNat x22)).1), vu (((gtD l) (Int.toNat x22)).2)]), 0, 200] [1, 8, 20, 21, 22] fun ν9 => seg [(10, pt (ν9 0) 0)] [(0, none), (1, none), (2, some ((ν9 0), .cells [.string (((gtD l) (Int.toNat x22)).1), vu (((gtD l) (Int.toNat x22)).2)] 49))] [.e (ν9 0), .e (ν9 0), .p ((.agg #[((itV (gtD l) o1) (o1 + Int.toNat x22 * 2)), ((itV (gtD l) o1) (o1 + Int.toNat x22 * 2 + 1))] : Value) = .agg #[.string (((gtD l) (Int.toNat x22)).1), vu (((gtD l) (Int.toNat x22)).2)]), .e g1, .p (o1 ≤ o1 + Int.toNat x22 * 2 + 1 ∧ o1 + Int.toNat x22 * 2 + 1 < (o1 + l.length * 2)), .e g1, .p (o1 ≤ o1 + Int.toNat x22 * 2 ∧ o1 + Int.toNat x22 * 2 < (o1 + l.length * 2)), .p ((0 : Int) ≤ x22 ∧ (x22 : Int) < ((l.length : Nat) : Int))] ⟨(agg2 (itV_0 (gtD l) o1 (Int.toNat x22)) (itV_1 (gtD l) o1 (Int.toNat x22))), (by omega), (by omega), (by omega), trivial⟩ fun ac wd hS => ?_
   refine hS.regS [0, 200, 0, 0] [1, 8, 10, 20, 21, 22] fun _ => seg [(29, vb (!(ByteArray.toList (((gtD l) (Int.toNat x22)).1) == ByteArray.toList kk)))] [(0, none), (1, none), (2, none)] [.e (ν9 0)] trivial fun ac wd hS => ?_
   refine hS.condC (!(ByteArray.toList (((gtD l) (Int.toNat x22)).1) == ByteArray.toList kk)) (fun hb3o hb3 => ?_) (fun hb3o hb3 => ?_)
   ·
    have hn : rKp kk (gtD l (Int.toNat x22)) = true := hb3o
    refine wp_region_lit ?_
    refine hS.opsC 3 [0, 200, 0] [1, 8, 20, 21, 22] fun ν11 => seg [(30, .slice aoq lq.length cq), (32, sc (ν11 0) 0 1 1)] [(0, none), (1, none), (3, some ((ν11 0), .cells [.string (((gtD l) (Int.toNat x22)).1), vu (((gtD l) (Int.toNat x22)).2)] 49))] [.e (ν9 0), .e (ν9 0)] trivial fun ac wd hS => ?_
    obtain ⟨i_, hi_, hz_, hs_, hb_⟩ := info_get (P := Tryz.prog) (e := 49) (z := .agg #[.string (ByteArray.empty), vu 0]) (s := 2) (b := 24) (by kernel_rfl)
    refine Runs1.list ?_
    refine St.appV (m := lq.length) (f := (itV (gtD lq) 0)) (news := [.string (((gtD l) (Int.toNat x22)).1), vu (((gtD l) (Int.toNat x22)).2)]) (bx := (ν11 0)) (cx := 1) (Tx := 49) 0 hS (.tmp 30) (.tmp 32) 33 rfl rfl (by decide) Tryz.underlying33 hi_ hz_ hs_ (by omega) rfl (by decide) 2 rfl rfl (by (have := List.length_filter_le (rKp kk) (l.take (Int.toNat x22)); rw [← i1] at this; simp at this; omega)) fun ac wd v2_ F6 hB7 hS => ?_
    obtain ⟨xo4, xc5, rfl⟩ := hB7.slice
    replace hS := hS.to (hS.mem.grTell (m := (lq.length + 1)) 0 (itV (gtD (lq ++ [(((gtD l) (Int.toNat x22)).1, ((gtD l) (Int.toNat x22)).2)])) 0) (itV_app lq (((gtD l) (Int.toNat x22)).1) (((gtD l) (Int.toNat x22)).2)))
    have hm_ : lq.length + 1 = ((lq ++ [(((gtD l) (Int.toNat x22)).1, ((gtD l) (Int.toNat x22)).2)])).length := by simp
    replace hS := hS.to (hS.mem.grRe (v := .slice xo4 (lq.length + 1) xc5) (v' := .slice xo4 (((lq ++ [(((gtD l) (Int.toNat x22)).1, ((gtD l) (Int.toNat x22)).2)])).length) xc5) (m := (lq.length + 1)) (m' := ((lq ++ [(((gtD l) (Int.toNat x22)).1, ((gtD l) (Int.toNat x22)).2)])).length) (f := (itV (gtD (lq ++ [(((gtD l) (Int.toNat x22)).1, ((gtD l) (Int.toNat x22)).2)])) 0)) 0 (by rw [hm_]) hm_)
    replace hS := hS.fix 33 (.slice xo4 (((lq ++ [(((gtD l) (Int.toNat x22)).1, ((gtD l) (Int.toNat x22)).2)])).length) xc5) (show (.slice xo4 (lq.length + 1) xc5 : Value) = .slice xo4 (((lq ++ [(((gtD l) (Int.toNat x22)).1, ((gtD l) (Int.toNat x22)).2)])).length) xc5 by rw [hm_])
    refine hS.opsC 1 [0] [1, 20, 21, 22] fun _ => seg [(8, .slice xo4 (((lq ++ [(((gtD l) (Int.toNat x22)).1, ((gtD l) (Int.toNat x22)).2)])).length) xc5)] [(0, none), (1, none)] [] trivial fun ac wd hS => ?_
    refine list_nil ?_
    refine pop_block ?_
    refine pop_then ?_
    refine hS.regC [20, 0] [1, 8, 20, 21] fun _ => seg [(22, vi (x22 + 1))] [(0, none), (1, none)] [.p (fit .i64 (x22 + 1))] ⟨fit_i64 (by omega), trivial⟩ fun ac wd hS => ?_
    exact pop_then (hS.next ((x22 + 1), xo4, xc5, F6, (lq ++ [(((gtD l) (Int.toNat x22)).1, ((gtD l) (Int.toNat x22)).2)])) ⟨(by first | omega | assumption | (simp; done) | (simp; omega)), (by first | exact flt_yes i1 i0.1 (by omega) hn | exact flt_no i1 i0.1 (by omega) hn), trivial⟩ (by dsimp only; omega))
   ·
    have hn : rKp kk (gtD l (Int.toNat x22)) = false := hb3o
    refine wp_skip ?_
    refine pop_block ?_
    refine pop_then ?_
    refine hS.regC [20, 0] [1, 8, 20, 21] fun _ => seg [(22, vi (x22 + 1))] [(0, none), (1, none)] [.p (fit .i64 (x22 + 1))] ⟨fit_i64 (by omega), trivial⟩ fun ac wd hS => ?_
    exact pop_then (hS.next ((x22 + 1), aoq, cq, Fq, lq) ⟨(by first | omega | assumption | (simp; done) | (simp; omega)), (by first | exact flt_yes i1 i0.1 (by omega) hn | exact flt_no i1 i0.1 (by omega) hn), trivial⟩ (by dsimp only; omega))
  ·
   refine wp_exit ?_
   refine pop_then_exit ?_
   refine pop_then_exit ?_
   refine pop_block_hit ?_
   refine pop_then ?_
   refine hS.regS [0, 0, 0] [] fun _ => seg [(4, .slice aoq lq.length cq), (5, vi 0)] [(0, none)] [] trivial fun ac wd hS => ?_
   refine wp_ret ?_
   have hq_ : (l.filter (rKp kk)) = lq := (show lq = (l.filter (rKp kk)) by rw [i1, List.take_of_length_le (by omega)]).symm
   subst hq_
   rcases Nat.eq_zero_or_pos ((l.filter (rKp kk)).length) with hz_ | hz_
   ·
    have hm_ : (l.filter (rKp kk)).length = 0 := by exact hz_
    replace hS := hS.to (hS.mem.grRe (v := .slice aoq ((l.filter (rKp kk)).length) cq) (v' := .slice aoq 0 cq) (m := ((l.filter (rKp kk)).length)) (m' := 0) (f := (itV (gtD (l.filter (rKp kk))) 0)) 0 (by rw [hm_]) hm_)
    replace hS := hS.fix 4 (.slice aoq 0 cq) (show (.slice aoq ((l.filter (rKp kk)).length) cq : Value) = .slice aoq 0 cq by rw [hm_])
    obtain ⟨hv_, hO⟩ := WS.grNil (e := 49) (sz := 2) (m := 0) (f := (itV (gtD (l.filter (rKp kk))) 0)) hS.mem (by first | omega | rfl)
    obtain ⟨rfl, rfl⟩ : (none : Option Addr) = aoq ∧ 0 = cq := by cases hv_; exact ⟨rfl, rfl⟩
    clear hv_
    replace hS := hS.to hO
    clear hO
    refine St.retC 0 hS (.tuple #[vnil, vi 0]) [] trivial fun hw => ?_
    refine ⟨none, 0, 0, 0, retd (tuple2 (slN ?_) (vint ?_)), (by first | exact (.inl rfl) | exact .inl hz_ | (rw [← hD]; exact (.inl rfl)) | (rw [← hD]; exact .inl hz_)), (by omega), (HE.fn_none (hw.get 0 0 (.fn 0 64 dbT)) ?_), hw.fr0⟩
    all_goals (first | (first | rfl | (rw [← hD]; done) | (rw [← hD]; omega) | (intro x_ _ _; rw [← hD]) | exact hE | (rw [hD]; done) | (intro x_ _; rw [← hD]) | (intro x_ hx_; rw [hD])) | (intro x_ hx_; rfl) | (intro x_ hx_ hy_; rfl))
   ·
    obtain ⟨gg8, cp9, hv_, hcp_, hO⟩ := WS.grOpen (e := 49) (sz := 2) (m := ((l.filter (rKp kk)).length)) (f := (itV (gtD (l.filter (rKp kk))) 0)) hS.mem (by omega)
    obtain ⟨rfl, rfl⟩ : some (⟨gg8, 0, none⟩ : Addr) = aoq ∧ cp9 = cq := by cases hv_; exact ⟨rfl, rfl⟩
    clear hv_
    replace hS := hS.to hO
    clear hO
    refine St.retC 0 hS (.tuple #[sc gg8 0 ((l.filter (rKp kk)).length) cp9, vi 0]) [] trivial fun hw => ?_
    refine ⟨(some ⟨gg8, 0, none⟩), cp9, gg8, 0, retd (tuple2 (slN ?_) (vint ?_)), (by first | exact (.inr rfl) | exact .inl hz_ | (rw [← hD]; exact (.inr rfl)) | (rw [← hD]; exact .inl hz_)), (by have hg_ : w.heap.size ≤ gg8 := (hw.getm 1 gg8 (.row 49 ((l.filter (rKp kk)).length * 2) (cp9 * 2) (itV (gtD (l.filter (rKp kk))) 0))).resolve_right (fun h => h); omega), (HE.row_to (hw.get 1 gg8 (.row 49 ((l.filter (rKp kk)).length * 2) (cp9 * 2) (itV (gtD (l.filter (rKp kk))) 0))) ?_ ?_), hw.fr0⟩
    all_goals (first | (first | rfl | (rw [← hD]; done) | (rw [← hD]; omega) | (intro x_ _ _; rw [← hD]) | exact hE | (rw [hD]; done) | (intro x_ _; rw [← hD]) | (intro x_ hx_; rw [hD])) | (intro x_ hx_; rfl) | (intro x_ hx_ hy_; rfl))

set_option maxRecDepth 100000 in
set_option maxHeartbeats 1000000 in
theorem law22_Of (ao1 : Option Addr) (c1 : Nat) (g1 : Nat) (o1 : Nat) (l : List (ByteArray × Int)) (w : World) (hh0 : HE.holds w 0 (.fn 0 64 dbT)) (hh1 : HE.holds w g1 (.fn o1 (o1 + l.length * 2) (itV (gtD l) o1))) (hv1 : (l.length = 0 ∨ ao1 = some ⟨g1, o1, none⟩)) (hl : l.length ≤ 4294967295) :
    Calls Tryz.prog 9 #[.slice ao1 l.length c1] w fun e w' => ∃ (ao2 : Option Addr) (c2 : Nat) (g2 : Nat) (o2 : Nat), e = .returned (.slice ao2 l.length c2) ∧ (l.length = 0 ∨ ao2 = some ⟨g2, o2, none⟩) ∧ (g2 = 0 ∨ w.heap.size ≤ g2) ∧ HE.holds w' g2 (.fn o2 (o2 + l.length * 2) (itV (gtD l) o2)) ∧ Fr w w' no no := by
 refine enter (args := [.slice ao1 l.length c1]) (D := no) (A := []) Tryz.func9 rfl 18 rfl [(0, .fn 0 64 dbT), (g1, .fn o1 (o1 + l.length * 2) (itV (gtD l) o1))] (WS.startL ⟨⟨rfl, hh0⟩, ⟨rfl, hh1⟩, trivial⟩) fun ac hS => ?_
 refine hS.regS [0] [0] fun _ => seg [] [(0, none), (1, none)] [] trivial fun ac wd hS => ?_
 refine hS.regS [0] [0] fun _ => seg [(3, vnil)] [(0, none), (1, none)] [] trivial fun ac wd hS => ?_
 refine wp_seq ?_
 replace hS := hS.to (hS.mem.grNew 49 2 (itV (gtD ([] : List (ByteArray × Int))) 0))
 refine hS.regS [0, 0, 0] [3] fun _ => seg [(6, .slice ao1 l.length c1), (7, vi ((l.length : Nat) : Int)), (8, vi 0)] [(0, none), (1, none)] [] trivial fun ac wd hS => ?_
 refine wp_block ?_
 refine St.loopC (σ := Int × Option Addr × Nat × (Nat → Prop) × (List (ByteArray × Int))) (fun (x : Int × Option Addr × Nat × (Nat → Prop) × (List (ByteArray × Int))) => match x with | (x8, aoq, cq, Fq, lq) => ⟨[(3, [], .slice aoq lq.length cq), (6, [], .slice ao1 l.length c1), (7, [], vi ((l.length : Nat) : Int)), (8, [], vi x8)], [(0, .fn 0 64 dbT), (g1, .fn o1 (o1 + l.length * 2) (itV (gtD l) o1))], [grR 49 2 (.slice aoq lq.length cq) Fq (lq.length, (itV (gtD lq) 0))], (0 ≤ x8 ∧ x8 ≤ (l.length : Int)) ∧ (lq = l.take (Int.toNat x8)) ∧ True, l.length - Int.toNat x8⟩) (0, none, 0, no, ([] : List (ByteArray × Int))) ⟨(by first | omega | rfl), (by first | omega | rfl), trivial⟩ hS ?_
 clear hS
 rintro ⟨x8, aoq, cq, Fq, lq⟩ ⟨i0, i1, -⟩ ac wd hS
 replace i0 : 0 ≤ x8 ∧ x8 ≤ (l.length : Int) := i0
 replace i1 : lq = l.take (Int.toNat x8) := i1
 refine hS.regS [0] [3, 6, 7, 8] fun _ => seg [(9, vb (decide ((x8 : Int) < ((l.length : Nat) : Int))))] [(0, none), (1, none)] [] trivial fun ac wd hS => ?_
 refine wp_seq ?_
 refine hS.condC (decide ((x8 : Int) < ((l.length : Nat) : Int))) (fun hb1o hb1 => ?_) (fun hb1o hb1 => ?_)
 ·
  refine wp_skip ?_
  refine pop_then ?_
  refine wp_seq ?_
  refine wp_block ?_
  obtain rfl : ao1 = some ⟨g1, o1, none⟩ := Or.resolve_left hv1 (by omega)
  refine hS.regS [20, fx 100 (.agg #[.string (((gtD l) (Int.toNat x8)).1), vu (((gtD l) (Int.toNat x8)).2)]), 0, 200] [3, 6, 7, 8] fun ν5 => seg [(5, pt (ν5 0) 0)] [(0, none), (1, none), (2, some ((ν5 0), .cells [.string (((gtD l) (Int.toNat x8)).1), vu (((gtD l) (Int.toNat x8)).2)] 39))] [.e (ν5 0), .e (ν5 0), .p ((.agg #[((itV (gtD l) o1) (o1 + Int.toNat x8 * 2)), ((itV (gtD l) o1) (o1 + Int.toNat x8 * 2 + 1))] : Value) = .agg #[.string (((gtD l) (Int.toNat x8)).1), vu (((gtD l) (Int.toNat x8)).2)]), .e g1, .p (o1 ≤ o1 + Int.toNat x8 * 2 + 1 ∧ o1 + Int.toNat x8 * 2 + 1 < (o1 + l.length * 2)), .e g1, .p (o1 ≤ o1 + Int.toNat x8 * 2 ∧ o1 + Int.toNat x8 * 2 < (o1 + l.length * 2)), .p ((0 : Int) ≤ x8 ∧ (x8 : Int) < ((l.length : Nat) : Int))] ⟨(agg2 (itV_0 (gtD l) o1 (Int.toNat x8)) (itV_1 (gtD l) o1 (Int.toNat x8))), (by omega), (by omega), (by omega), trivial⟩ fun ac wd hS => ?_
  refine wp_region_lit ?_
  refine hS.opsC 3 [0, 200, 0] [3, 6, 7, 8] fun ν6 => seg [(12, .slice aoq lq.length cq), (14, sc (ν6 0) 0 1 1)] [(0, none), (1, none), (3, some ((ν6 0), .cells [.string (((gtD l) (Int.toNat x8)).1), vu (((gtD l) (Int.toNat x8)).2)] 49))] [.e (ν5 0), .e (ν5 0)] trivial fun ac wd hS => ?_
  obtain ⟨i_, hi_, hz_, hs_, hb_⟩ := info_get (P := Tryz.prog) (e := 49) (z := .agg #[.string (ByteArray.empty), vu 0]) (s := 2) (b := 24) (by kernel_rfl)
  refine Runs1.list ?_
  refine St.appV (m := lq.length) (f := (itV (gtD lq) 0)) (news := [.string (((gtD l) (Int.toNat x8)).1), vu (((gtD l) (Int.toNat x8)).2)]) (bx := (ν6 0)) (cx := 1) (Tx := 49) 0 hS (.tmp 12) (.tmp 14) 33 rfl rfl (by decide) Tryz.underlying33 hi_ hz_ hs_ (by omega) rfl (by decide) 2 rfl rfl (by (rw [i1]; simp; omega)) fun ac wd v2_ F4 hB5 hS => ?_
  obtain ⟨xo2, xc3, rfl⟩ := hB5.slice
  replace hS := hS.to (hS.mem.grTell (m := (lq.length + 1)) 0 (itV (gtD (lq ++ [(((gtD l) (Int.toNat x8)).1, ((gtD l) (Int.toNat x8)).2)])) 0) (itV_app lq (((gtD l) (Int.toNat x8)).1) (((gtD l) (Int.toNat x8)).2)))
  have hm_ : lq.length + 1 = ((lq ++ [(((gtD l) (Int.toNat x8)).1, ((gtD l) (Int.toNat x8)).2)])).length := by simp
  replace hS := hS.to (hS.mem.grRe (v := .slice xo2 (lq.length + 1) xc3) (v' := .slice xo2 (((lq ++ [(((gtD l) (Int.toNat x8)).1, ((gtD l) (Int.toNat x8)).2)])).length) xc3) (m := (lq.length + 1)) (m' := ((lq ++ [(((gtD l) (Int.toNat x8)).1, ((gtD l) (Int.toNat x8)).2)])).length) (f := (itV (gtD (lq ++ [(((gtD l) (Int.toNat x8)).1, ((gtD l) (Int.toNat x8)).2)])) 0)) 0 (by rw [hm_]) hm_)
  replace hS := hS.fix 15 (.slice xo2 (((lq ++ [(((gtD l) (Int.toNat x8)).1, ((gtD l) (Int.toNat x8)).2)])).length) xc3) (show (.slice xo2 (lq.length + 1) xc3 : Value) = .slice xo2 (((lq ++ [(((gtD l) (Int.toNat x8)).1, ((gtD l) (Int.toNat x8)).2)])).length) xc3 by rw [hm_])
  refine hS.opsC 1 [0] [6, 7, 8] fun _ => seg [(3, .slice xo2 (((lq ++ [(((gtD l) (Int.toNat x8)).1, ((gtD l) (Int.toNat x8)).2)])).length) xc3)] [(0, none), (1, none)] [] trivial fun ac wd hS => ?_
  refine list_nil ?_
  refine pop_block ?_
  refine pop_then ?_
  refine hS.regC [20, 0] [3, 6, 7] fun _ => seg [(8, vi (x8 + 1))] [(0, none), (1, none)] [.p (fit .i64 (x8 + 1))] ⟨fit_i64 (by omega), trivial⟩ fun ac wd hS => ?_
  exact pop_then (hS.next ((x8 + 1), xo2, xc3, F4, (lq ++ [(((gtD l) (Int.toNat x8)).1, ((gtD l) (Int.toNat x8)).2)])) ⟨(by first | omega | assumption | (simp; done) | (simp; omega)), (by exact take_yes i1 i0.1 (by omega)), trivial⟩ (by dsimp only; omega))
 ·
  refine wp_exit ?_
  refine pop_then_exit ?_
  refine pop_then_exit ?_
  refine pop_block_hit ?_
  refine pop_then ?_
  refine hS.regS [0, 0] [] fun _ => seg [(2, .slice aoq lq.length cq)] [(0, none)] [] trivial fun ac wd hS => ?_
  refine wp_ret ?_
  have hq_ : l = lq := (show lq = l by rw [i1]; exact List.take_of_length_le (by omega)).symm
  subst hq_
  rcases Nat.eq_zero_or_pos l.length with hz_ | hz_
  ·
   have hm_ : l.length = 0 := by exact hz_
   replace hS := hS.to (hS.mem.grRe (v := .slice aoq l.length cq) (v' := .slice aoq 0 cq) (m := l.length) (m' := 0) (f := (itV (gtD l) 0)) 0 (by rw [hm_]) hm_)
   replace hS := hS.fix 2 (.slice aoq 0 cq) (show (.slice aoq l.length cq : Value) = .slice aoq 0 cq by rw [hm_])
   obtain ⟨hv_, hO⟩ := WS.grNil (e := 49) (sz := 2) (m := 0) (f := (itV (gtD l) 0)) hS.mem (by first | omega | rfl)
   obtain ⟨rfl, rfl⟩ : (none : Option Addr) = aoq ∧ 0 = cq := by cases hv_; exact ⟨rfl, rfl⟩
   clear hv_
   replace hS := hS.to hO
   clear hO
   refine St.retC 0 hS (vnil) [] trivial fun hw => ?_
   refine ⟨none, 0, 0, 0, retd (slN ?_), (by first | exact (.inl rfl) | exact .inl hz_ | (rw [← hD]; exact (.inl rfl)) | (rw [← hD]; exact .inl hz_)), (by omega), (HE.fn_none (hw.get 0 0 (.fn 0 64 dbT)) ?_), hw.fr0⟩
   all_goals (first | (first | omega | rfl) | (intro x_ hx_; rfl) | (intro x_ hx_ hy_; rfl))
  ·
   obtain ⟨gg6, cp7, hv_, hcp_, hO⟩ := WS.grOpen (e := 49) (sz := 2) (m := l.length) (f := (itV (gtD l) 0)) hS.mem (by omega)
   obtain ⟨rfl, rfl⟩ : some (⟨gg6, 0, none⟩ : Addr) = aoq ∧ cp7 = cq := by cases hv_; exact ⟨rfl, rfl⟩
   clear hv_
   replace hS := hS.to hO
   clear hO
   refine St.retC 0 hS (sc gg6 0 l.length cp7) [] trivial fun hw => ?_
   refine ⟨(some ⟨gg6, 0, none⟩), cp7, gg6, 0, retd rfl, (by first | exact (.inr rfl) | exact .inl hz_ | (rw [← hD]; exact (.inr rfl)) | (rw [← hD]; exact .inl hz_)), (by have hg_ : w.heap.size ≤ gg6 := (hw.getm 1 gg6 (.row 49 (l.length * 2) (cp7 * 2) (itV (gtD l) 0))).resolve_right (fun h => h); omega), (HE.row_to (hw.get 1 gg6 (.row 49 (l.length * 2) (cp7 * 2) (itV (gtD l) 0))) ?_ ?_), hw.fr0⟩
   all_goals (first | (first | omega | rfl) | (intro x_ hx_; rfl) | (intro x_ hx_ hy_; rfl))

set_option maxRecDepth 100000 in
set_option maxHeartbeats 1000000 in
theorem law22_DataPlays (size : Int) (ao7 : Option Addr) (c7 : Nat) (g7 : Nat) (o7 : Nat) (l : List (AcD)) (w : World) (hh0 : HE.holds w 0 (.fn 0 64 dbT)) (hh1 : HE.holds w g7 (.fn o7 (o7 + l.length * 2) (aDV (gtD l) o7))) (hv7 : (l.length = 0 ∨ ao7 = some ⟨g7, o7, none⟩)) (hsz : 0 ≤ size ∧ size ≤ 65535) (hAl : ∀ i, i < l.length → rg_aDV w (gtD l i)) :
    Calls Tryz.prog 3 #[.int .u16 size, .slice ao7 l.length c7] w fun e w' => e = .returned (vb true) ∧ Fr w w' no no := by
 refine enter (args := [.int .u16 size, .slice ao7 l.length c7]) (D := no) (A := []) Tryz.func3 rfl 150 rfl [(0, .fn 0 64 dbT), (g7, .fn o7 (o7 + l.length * 2) (aDV (gtD l) o7))] (WS.startL ⟨⟨rfl, hh0⟩, ⟨rfl, hh1⟩, trivial⟩) fun ac hS => ?_
 refine hS.regS [0] [0, 1] fun _ => seg [] [(0, none), (1, none)] [] trivial fun ac wd hS => ?_
 refine wp_seq ?_
 refine wp_region_seq ?_
 refine hS.call0 4 #[] 21 (law22_awake  _ (hS.mem.get 0 0 (.fn 0 64 dbT)) ) fun ac wd hS => ?_
 refine hS.opsC 1 [0] [0, 1] fun _ => seg [(22, vb false)] [(0, none), (1, none)] [] trivial fun ac wd hS => ?_
 refine list_nil_seq ?_
 refine hS.condF ?_
 refine wp_skip ?_
 refine pop_then ?_
 refine wp_seq ?_
 refine wp_region_seq ?_
 refine hS.opsC 1 [0] [0, 1] fun _ => seg [(23, .slice ao7 l.length c7)] [(0, none), (1, none)] [] trivial fun ac wd hS => ?_
 refine hS.callC 5 #[.slice ao7 l.length c7] (law22_Light ao7 c7 g7 o7 l _ (hS.mem.get 0 0 (.fn 0 64 dbT)) (hS.mem.get 1 g7 (.fn o7 (o7 + l.length * 2) (aDV (gtD l) o7))) hv7 (by exact fun i_ hi_ => (hAl i_ hi_).keep hS.mem.fr)) ?_
 rintro _ wd ⟨r21, rfl, hL2, hF⟩
 refine ⟨vb r21, rfl, ?_⟩
 replace hS := (hS.to (hS.mem.keep0 hF)).put (d := 24) (v := vb r21) (by decide)
 clear hF
 have hLg0 := hL2
 refine hS.opsC 1 [0] [0, 1] fun _ => seg [(25, vb (!r21))] [(0, none), (1, none)] [] trivial fun ac wd hS => ?_
 refine list_nil_seq ?_
 refine hS.condC (!r21) (fun hb3o hb3 => ?_) (fun hb3o hb3 => ?_)
 ·
  refine hS.regS [0] [] fun _ => seg [(4, vb true)] [(0, none)] [] trivial fun ac wd hS => ?_
  refine wp_ret ?_
  refine pop_then_ret ?_
  refine St.retC 0 hS (vb true) [] trivial fun hw => ?_
  refine ⟨retd rfl, hw.fr0⟩
 ·
  have hLg := hLg0 (by simpa using hb3)
  refine wp_skip ?_
  refine pop_then ?_
  refine hS.regS [0, 20, 20, 0] [1] fun _ => seg [(5, vi (size % 401))] [(0, none), (1, none)] [.p ((401 : Int) ≠ 0 ∧ Int.tmod size 401 = size % 401), .p (fit .i64 size)] ⟨rem2 (by omega) (by omega), fit_i64 (by omega), trivial⟩ fun ac wd hS => ?_
  obtain ⟨nn, nn_e⟩ : ∃ q_ : Int, q_ = (size % 401) := ⟨_, rfl⟩
  replace hS := hS.fix 5 (vi nn) (show (vi (size % 401) : Value) = vi nn by rw [nn_e])
  have hnn : 0 ≤ nn ∧ nn ≤ 400 := by omega
  clear nn_e
  refine wp_region_seq ?_
  refine hS.opsC 1 [0] [1, 5] fun _ => seg [(30, vi nn)] [(0, none), (1, none)] [] trivial fun ac wd hS => ?_
  refine hS.callC 6 #[vi nn] (law22_open nn _  (by omega)) ?_
  rintro _ wd ⟨b'4, F5, rfl, hN, hF⟩
  refine ⟨.tuple #[pt b'4 0, .agg #[pt b'4 0, vi 40, vi nn], vb true], rfl, ?_⟩
  replace hS := (hS.to (hS.mem.newA hN hF)).put (d := 31) (v := .tuple #[pt b'4 0, .agg #[pt b'4 0, vi 40, vi nn], vb true]) (by decide)
  clear hF
  refine hS.opsC 8 [0, 0, 0, 0, 0, 0, 200, 0] [1, 5] fun ν8 => seg [(6, pt b'4 0), (7, pt (ν8 0) 0), (8, vb true)] [(0, none), (1, none), (2, some ((ν8 0), .cells [pt b'4 0, vi 40, vi nn] 30))] [.e (ν8 0), .e (ν8 0), .e (ν8 0)] trivial fun ac wd hS => ?_
  refine list_nil_seq ?_
  refine wp_seq ?_
  refine hS.regS [0, 0] [1, 5, 6, 7] fun _ => seg [(36, vb false)] [(0, none), (1, none), (2, none)] [] trivial fun ac wd hS => ?_
  refine hS.condF ?_
  refine wp_skip ?_
  refine pop_then ?_
  refine hS.regS [0] [1, 5, 6, 7] fun _ => seg [(9, vnil)] [(0, none), (1, none), (2, none)] [] trivial fun ac wd hS => ?_
  refine wp_seq ?_
  refine hS.regS [0, 0, 0] [5, 6, 7, 9] fun _ => seg [(37, .slice ao7 l.length c7), (38, vi ((l.length : Nat) : Int)), (39, vi 0)] [(0, none), (1, none), (2, none)] [] trivial fun ac wd hS => ?_
  refine wp_block ?_
  have hZ0 : DtR (comM (AM.new 1) 0 1) 40 nn [] := DtR.zero (by decide) (by omega) (page_thr1 (by omega)) (comM_zero (fun _ => rfl) 0 1)
  replace hS := hS.to (hS.mem.addNone (b := 0) (lo := 0) (hi := 64) (f := dbT) (k := ([] : List (ByteArray × Int)).length * 2) (f' := (itV (gtD ([] : List (ByteArray × Int))) 0)) (o := 0) 0 rfl)
  refine St.loopC (σ := Int × (Nat → Prop) × AM × Option Addr × Nat × Nat × Nat × (List (ByteArray × Int))) (fun (x : Int × (Nat → Prop) × AM × Option Addr × Nat × Nat × Nat × (List (ByteArray × Int))) => match x with | (x39, Fx, mx, aoq, cq, gq, oq, lq) => ⟨[(5, [], vi nn), (6, [], pt b'4 0), (7, [], pt (ν8 0) 0), (9, [], .slice aoq lq.length cq), (37, [], .slice ao7 l.length c7), (38, [], vi ((l.length : Nat) : Int)), (39, [], vi x39)], [(0, .fn 0 64 dbT), (g7, .fn o7 (o7 + l.length * 2) (aDV (gtD l) o7)), ((ν8 0), .cells [pt b'4 0, vi 40, vi nn] 30), (gq, .fn oq (oq + lq.length * 2) (itV (gtD lq) oq))], [arR b'4 Fx mx], (0 ≤ x39 ∧ x39 ≤ ((l.length : Nat) : Int)) ∧ (DtR mx 40 nn lq) ∧ (lq.length = 0 ∨ aoq = some ⟨gq, oq, none⟩) ∧ True, l.length - Int.toNat x39⟩) (0, F5, (comM (AM.new 1) 0 1), none, 0, 0, 0, ([] : List (ByteArray × Int))) ⟨(by omega), (by exact hZ0), (by exact (.inl rfl)), trivial⟩ hS ?_
  clear hS
  rintro ⟨x39, Fx, mx, aoq, cq, gq, oq, lq⟩ ⟨i0, i1, hvq, -⟩ ac wd hS
  replace i0 : 0 ≤ x39 ∧ x39 ≤ ((l.length : Nat) : Int) := i0
  replace i1 : DtR mx 40 nn lq := i1
  replace hvq : lq.length = 0 ∨ aoq = some ⟨gq, oq, none⟩ := hvq
  refine hS.regS [0] [5, 6, 7, 9, 37, 38, 39] fun _ => seg [(40, vb (decide ((x39 : Int) < ((l.length : Nat) : Int))))] [(0, none), (1, none), (2, none), (3, none)] [] trivial fun ac wd hS => ?_
  refine wp_seq ?_
  refine hS.condC (decide ((x39 : Int) < ((l.length : Nat) : Int))) (fun hb6o hb6 => ?_) (fun hb6o hb6 => ?_)
  ·
   refine wp_skip ?_
   refine pop_then ?_
   refine wp_seq ?_
   refine wp_block ?_
   obtain rfl : ao7 = some ⟨g7, o7, none⟩ := Or.resolve_left hv7 (by omega)
   refine hS.regS [20, fx 100 (.agg #[v8 (((gtD l) (Int.toNat x39)).1), .slice (((gtD l) (Int.toNat x39)).2.1) (((gtD l) (Int.toNat x39)).2.2.2.2.2.length) (((gtD l) (Int.toNat x39)).2.2.1)]), 0, 400] [5, 6, 7, 9, 37, 38, 39] fun ν13 => seg [(11, pt (ν13 0) 0)] [(0, none), (1, none), (2, none), (3, none), (4, some ((ν13 0), .cells [v8 (((gtD l) (Int.toNat x39)).1), .slice (((gtD l) (Int.toNat x39)).2.1) (((gtD l) (Int.toNat x39)).2.2.2.2.2.length) (((gtD l) (Int.toNat x39)).2.2.1)] 36))] [.e (ν13 0), .e (ν13 0), .p ((.agg #[((aDV (gtD l) o7) (o7 + Int.toNat x39 * 2)), ((aDV (gtD l) o7) (o7 + Int.toNat x39 * 2 + 1))] : Value) = .agg #[v8 (((gtD l) (Int.toNat x39)).1), .slice (((gtD l) (Int.toNat x39)).2.1) (((gtD l) (Int.toNat x39)).2.2.2.2.2.length) (((gtD l) (Int.toNat x39)).2.2.1)]), .e g7, .p (o7 ≤ o7 + Int.toNat x39 * 2 + 1 ∧ o7 + Int.toNat x39 * 2 + 1 < (o7 + l.length * 2)), .e g7, .p (o7 ≤ o7 + Int.toNat x39 * 2 ∧ o7 + Int.toNat x39 * 2 < (o7 + l.length * 2)), .p ((0 : Int) ≤ x39 ∧ (x39 : Int) < ((l.length : Nat) : Int))] ⟨(agg2 (aDV_0 (gtD l) o7 (Int.toNat x39)) (aDV_1 (gtD l) o7 (Int.toNat x39))), (by omega), (by omega), (by omega), trivial⟩ fun ac wd hS => ?_
   obtain ⟨⟨yd, ya, yc, yg, yo, yL⟩, hy⟩ : ∃ q_ : AcD, q_ = gtD l (Int.toNat x39) := ⟨_, rfl⟩
   have hac := hAl _ (show Int.toNat x39 < l.length by omega)
   rw [← hy] at hac
   obtain ⟨hyd, hyv, hyh, hyi⟩ : (0 ≤ yd ∧ yd ≤ 255) ∧ (yL.length = 0 ∨ ya = some ⟨yg, yo, none⟩) ∧ HE.holds w yg (.fn yo (yo + yL.length * 2) (itV (gtD yL) yo)) ∧ ∀ i, i < yL.length → 0 ≤ (gtD yL i).2 ∧ (gtD yL i).2 ≤ 18446744073709551615 := hac
   replace hS := hS.to (hS.mem.tell 4 (b := (ν13 0)) (x := (.cells [v8 (((gtD l) (Int.toNat x39)).1), .slice (((gtD l) (Int.toNat x39)).2.1) (((gtD l) (Int.toNat x39)).2.2.2.2.2.length) (((gtD l) (Int.toNat x39)).2.2.1)] 36)) (.cells [v8 yd, .slice ya yL.length yc] 36) (hh := fun h_ => by rw [← hy] at h_; exact h_))
   replace hS := hS.to (hS.mem.acq (g := yg) (lo := yo) (hi := yo + yL.length * 2) (f := itV (gtD yL) yo) hyh (fun h_ => h_))
   refine hS.regS [0] [5, 6, 7, 9, 11, 37, 38, 39] fun ν14 => seg [(12, pt (ν14 0) 0)] [(0, none), (1, none), (2, none), (3, none), (4, none), (5, none), (6, some ((ν14 0), .cells [.string (ByteArray.empty), vu 0] 39))] [] trivial fun ac wd hS => ?_
   refine wp_seq ?_
   refine hS.regS [0, 400, 0, 0] [5, 6, 7, 9, 11, 12, 37, 38, 39] fun _ => seg [(46, vb (decide ((0 : Int) < ((yL.length : Nat) : Int))))] [(0, none), (1, none), (2, none), (3, none), (4, none), (5, none), (6, none)] [.e (ν13 0)] trivial fun ac wd hS => ?_
   refine hS.condC (decide ((0 : Int) < ((yL.length : Nat) : Int))) (fun hb7o hb7 => ?_) (fun hb7o hb7 => ?_)
   ·
    obtain rfl : ya = some ⟨yg, yo, none⟩ := Or.resolve_left hyv (by omega)
    refine hS.regC [0, 400, 20, fx 500 (.agg #[.string (((gtD yL) 0).1), vu (((gtD yL) 0).2)]), 600] [5, 6, 7, 9, 11, 12, 37, 38, 39] fun _ => seg [] [(0, none), (1, none), (2, none), (3, none), (4, none), (5, none), (6, some ((ν14 0), .cells [.string (((gtD yL) 0).1), vu (((gtD yL) 0).2)] 39))] [.e (ν14 0), .e (ν14 0), .p ((.agg #[((itV (gtD yL) yo) (yo + Int.toNat 0 * 2)), ((itV (gtD yL) yo) (yo + Int.toNat 0 * 2 + 1))] : Value) = .agg #[.string (((gtD yL) 0).1), vu (((gtD yL) 0).2)]), .e yg, .p (yo ≤ yo + Int.toNat 0 * 2 + 1 ∧ yo + Int.toNat 0 * 2 + 1 < (yo + yL.length * 2)), .e yg, .p (yo ≤ yo + Int.toNat 0 * 2 ∧ yo + Int.toNat 0 * 2 < (yo + yL.length * 2)), .p ((0 : Int) ≤ 0 ∧ (0 : Int) < ((yL.length : Nat) : Int)), .e (ν13 0)] ⟨(agg2 (itV_0 (gtD yL) yo 0) (itV_1 (gtD yL) yo 0)), (by omega), (by omega), (by omega), trivial⟩ fun ac wd hS => ?_
    refine pop_then ?_
    obtain ⟨xk, xk_e⟩ : ∃ q_ : ByteArray, q_ = ((gtD yL) 0).1 := ⟨_, rfl⟩
    obtain ⟨xn, xn_e⟩ : ∃ q_ : Int, q_ = ((gtD yL) 0).2 := ⟨_, rfl⟩
    replace hS := hS.to (hS.mem.tell 6 (b := (ν14 0)) (x := (.cells [.string (((gtD yL) 0).1), vu (((gtD yL) 0).2)] 39)) (.cells [.string xk, vu xn] 39) (hh := fun h_ => by rw [xk_e, xn_e]; exact h_))
    have hxr : ∀ x_, x_ ∈ [(xk, xn)] → 0 ≤ x_.2 ∧ x_.2 ≤ 18446744073709551615 := fun x_ hx_ => by obtain rfl := List.mem_singleton.1 hx_; show 0 ≤ xn ∧ xn ≤ 18446744073709551615; first | omega | (have h9_ := hyi 0 (by omega); omega)
    clear xk_e xn_e
    have hyr : ∀ x_, x_ ∈ yL → 0 ≤ x_.2 ∧ x_.2 ≤ 18446744073709551615 := fun x_ hx_ => by obtain ⟨j_, hj_, e_⟩ := List.mem_iff_getElem.1 hx_; have h9_ := hyi j_ hj_; rw [gtD_lt hj_, e_] at h9_; exact h9_
    have hql := i1.okd.len
    have hy12 := hLg.2 _ (show Int.toNat x39 < l.length by omega)
    rw [← hy] at hy12
    replace hy12 : yL.length ≤ 12 := hy12
    refine hS.regS [0] [5, 6, 7, 9, 11, 12, 37, 38, 39] fun _ => seg [] [(0, none), (1, none), (2, none), (3, none), (4, none), (5, none), (6, none)] [] trivial fun ac wd hS => ?_
    refine hS.regS [0] [5, 6, 7, 9, 11, 12, 37, 38, 39] fun _ => seg [] [(0, none), (1, none), (2, none), (3, none), (4, none), (5, none), (6, none)] [] trivial fun ac wd hS => ?_
    refine wp_seq ?_
    refine hS.regS [0, 400, 20] [5, 6, 7, 9, 11, 12, 37, 38, 39] fun _ => seg [(53, v8 (yd % 4))] [(0, none), (1, none), (2, none), (3, none), (4, none), (5, none), (6, none)] [.p ((4 : Int) ≠ 0 ∧ Int.tmod yd 4 = yd % 4), .e (ν13 0)] ⟨rem2 (by omega) (by omega), trivial⟩ fun ac wd hS => ?_
    refine wp_block ?_
    refine hS.regS [0, 0] [5, 6, 7, 9, 11, 12, 37, 38, 39, 53] fun _ => seg [(68, vb (((yd % 4) : Int) == 2))] [(0, none), (1, none), (2, none), (3, none), (4, none), (5, none), (6, none)] [] trivial fun ac wd hS => ?_
    refine hS.condC (((yd % 4) : Int) == 2) (fun hb8o hb8 => ?_) (fun hb8o hb8 => ?_)
    ·
     refine wp_region_seq ?_
     refine hS.opsC 3 [200, 0, 400] [5, 6, 7, 9, 11, 12, 37, 38, 39] fun _ => seg [(70, .agg #[pt b'4 0, vi 40, vi nn]), (72, sc yg yo yL.length yc)] [(0, none), (1, none), (2, none), (3, none), (4, none), (5, none), (6, none)] [.e (ν13 0), .e (ν8 0), .e (ν8 0), .e (ν8 0)] trivial fun ac wd hS => ?_
     refine hS.callC 7 #[.agg #[pt b'4 0, vi 40, vi nn], sc yg yo yL.length yc] (d_Put b'4 Fx mx 40 nn (some ⟨yg, yo, none⟩) yc yg yo yL lq _ (hS.mem.res 0) (hS.mem.get 0 0 (.fn 0 64 dbT)) (hS.mem.get 5 yg (.fn yo (yo + yL.length * 2) (itV (gtD yL) yo))) (hS.mem.nF (g := 0) (r := arR b'4 Fx mx) 0 0) (hS.mem.nF (g := yg) (r := arR b'4 Fx mx) 5 0) (by first | assumption | omega | (simp_all; done) | (simp_all; omega)) (.inr rfl) (by exact i1) (by first | assumption | omega | (simp_all; done) | (simp_all; omega))) ?_
     rintro _ wd ⟨F9, rfl, hA, hF⟩
     refine ⟨vi ((dPutT (nn / 32) lq yL).2), rfl, ?_⟩
     replace hS := (hS.to (hS.mem.stepA 0 rfl hA hF)).put (d := 73) (v := vi ((dPutT (nn / 32) lq yL).2)) (by decide)
     clear hF
     refine hS.opsC 1 [0] [5, 6, 7, 9, 11, 12, 37, 38, 39] fun _ => seg [(13, vi ((dPutT (nn / 32) lq yL).2))] [(0, none), (1, none), (2, none), (3, none), (4, none), (5, none), (6, none)] [] trivial fun ac wd hS => ?_
     refine list_nil_seq ?_
     refine wp_region_lit ?_
     refine hS.opsC 5 [0, 0, 20, 0, 400] [5, 6, 7, 9, 12, 13, 37, 38, 39] fun _ => seg [(75, .slice aoq lq.length cq), (77, vi (nn / 32)), (79, sc yg yo yL.length yc)] [(0, none), (1, none), (2, none), (3, none), (5, none), (6, none)] [.e (ν13 0), .p ((32 : Int) ≠ 0 ∧ IntKind.i64.wrap (Int.tdiv nn 32) = nn / 32)] ⟨quo2 (by omega) (by omega) (by omega), trivial⟩ fun ac wd hS => ?_
     refine hS.callC 9 #[sc yg yo yL.length yc] (law22_Of (some ⟨yg, yo, none⟩) yc yg yo yL _ (hS.mem.get 0 0 (.fn 0 64 dbT)) (hS.mem.get 4 yg (.fn yo (yo + yL.length * 2) (itV (gtD yL) yo))) (.inr rfl) (by first | omega | (have := i1.okd.len; omega))) ?_
     rintro _ wd ⟨ao210, c211, g212, o213, rfl, hv214, hog0, hoh0, hF⟩
     have ho15 : g212 = 0 ∨ w.heap.size ≤ g212 := by have := hS.mem.fr.size; have : w.heap.size ≤ _ := this; omega
     refine ⟨.slice ao210 yL.length c211, rfl, ?_⟩
     replace hS := (hS.to (hS.mem.outs hF [(g212, .fn o213 (o213 + yL.length * 2) (itV (gtD yL) o213))] ⟨⟨rfl, hoh0, (fun q_ => q_.elim (fun e => .inl ⟨0, .fn 0 64 dbT, by rw [e]; as_aux_lemma => kernel_rfl, rfl⟩) (fun q_ => .inr q_)) hog0⟩, trivial⟩)).put (d := 80) (v := .slice ao210 yL.length c211) (by decide)
     clear hF
     refine hS.callC 8 #[.slice aoq lq.length cq, vi (nn / 32), .slice ao210 yL.length c211] (r22_Put aoq cq gq oq lq (nn / 32) ao210 c211 g212 o213 yL _ (hS.mem.get 0 0 (.fn 0 64 dbT)) (hS.mem.get 3 gq (.fn oq (oq + lq.length * 2) (itV (gtD lq) oq))) (hS.mem.get 6 g212 (.fn o213 (o213 + yL.length * 2) (itV (gtD yL) o213))) hvq hv214 (by first | assumption | omega | (simp_all; done) | (simp_all; omega)) (by exact i1.okd) (by first | assumption | omega | (simp_all; done) | (simp_all; omega)) (by exact hyi) (by first | assumption | omega | (simp_all; done) | (simp_all; omega))) ?_
     rintro _ wd ⟨ao216, c217, g218, o219, rfl, hv220, hog0, hoh0, hF⟩
     have ho21 : g218 = gq ∨ g218 = 0 ∨ w.heap.size ≤ g218 := by have := hS.mem.fr.size; have : w.heap.size ≤ _ := this; omega
     refine ⟨.tuple #[.slice ao216 ((dPutL (nn / 32) lq yL).length) c217, vi ((dPutT (nn / 32) lq yL).2)], rfl, ?_⟩
     replace hS := (hS.to (hS.mem.outs hF [(g218, .fn o219 (o219 + (dPutL (nn / 32) lq yL).length * 2) (itV (gtD (dPutL (nn / 32) lq yL)) o219))] ⟨⟨rfl, hoh0, (fun q_ => q_.elim (fun e => .inl ⟨3, .fn oq (oq + lq.length * 2) (itV (gtD lq) oq), by rw [e]; as_aux_lemma => kernel_rfl, rfl⟩) (fun q_ => q_.elim (fun e => .inl ⟨0, .fn 0 64 dbT, by rw [e]; as_aux_lemma => kernel_rfl, rfl⟩) (fun q_ => .inr q_))) hog0⟩, trivial⟩)).put (d := 81) (v := .tuple #[.slice ao216 ((dPutL (nn / 32) lq yL).length) c217, vi ((dPutT (nn / 32) lq yL).2)]) (by decide)
     clear hF
     refine hS.opsC 5 [0, 0, 0, 0, 0] [5, 6, 7, 12, 13, 37, 38, 39] fun _ => seg [(9, .slice ao216 ((dPutL (nn / 32) lq yL).length) c217), (14, vi ((dPutT (nn / 32) lq yL).2))] [(0, none), (1, none), (2, none), (5, none), (7, none)] [] trivial fun ac wd hS => ?_
     refine list_nil ?_
     refine pop_block ?_
     refine pop_then ?_
     have hRc : DtR (dPutM mx 40 nn lq yL) 40 nn (dPutL (nn / 32) lq yL) := by first | exact i1.put hyr | exact i1.drop xk | exact i1.put hxr
     have hrl := hRc.okd.len
     refine wp_region_seq ?_
     refine hS.opsC 3 [200, 0, 300] [5, 6, 7, 9, 12, 13, 14, 37, 38, 39] fun _ => seg [(98, .agg #[pt b'4 0, vi 40, vi nn]), (100, .string xk)] [(0, none), (1, none), (2, none), (3, none), (4, none)] [.e (ν14 0), .e (ν8 0), .e (ν8 0), .e (ν8 0)] trivial fun ac wd hS => ?_
     refine hS.call0 14 #[.agg #[pt b'4 0, vi 40, vi nn], .string xk] 101 (d_Get b'4 F9 (dPutM mx 40 nn lq yL) 40 nn xk (dPutL (nn / 32) lq yL) _ (hS.mem.res 0) (hS.mem.get 0 0 (.fn 0 64 dbT)) (by first | assumption | omega | (simp_all; done) | (simp_all; omega)) (by exact hRc)) fun ac wd hS => ?_
     refine hS.opsC 5 [0, 0, 0, 0, 0] [5, 6, 7, 9, 12, 13, 14, 37, 38, 39] fun _ => seg [(15, vu (dGetV (dPutL (nn / 32) lq yL) xk)), (16, vb (dGetB (dPutL (nn / 32) lq yL) xk))] [(0, none), (1, none), (2, none), (3, none), (4, none)] [] trivial fun ac wd hS => ?_
     refine list_nil_seq ?_
     refine wp_region_seq ?_
     refine hS.opsC 3 [0, 0, 300] [5, 6, 7, 9, 13, 14, 15, 16, 37, 38, 39] fun _ => seg [(105, .slice ao216 ((dPutL (nn / 32) lq yL).length) c217), (107, .string xk)] [(0, none), (1, none), (2, none), (4, none)] [.e (ν14 0)] trivial fun ac wd hS => ?_
     refine hS.call0 15 #[.slice ao216 ((dPutL (nn / 32) lq yL).length) c217, .string xk] 108 (r22_Get ao216 c217 g218 o219 (dPutL (nn / 32) lq yL) xk _ (hS.mem.get 3 g218 (.fn o219 (o219 + (dPutL (nn / 32) lq yL).length * 2) (itV (gtD (dPutL (nn / 32) lq yL)) o219))) hv220 (by first | assumption | omega | (simp_all; done) | (simp_all; omega))) fun ac wd hS => ?_
     refine hS.opsC 5 [0, 0, 0, 0, 0] [5, 6, 7, 9, 13, 14, 15, 16, 37, 38, 39] fun _ => seg [(17, vu (dGetV (dPutL (nn / 32) lq yL) xk)), (18, vb (dGetB (dPutL (nn / 32) lq yL) xk))] [(0, none), (1, none), (2, none), (3, none)] [] trivial fun ac wd hS => ?_
     refine list_nil_seq ?_
     refine wp_region_seq ?_
     refine hS.opsC 14 [0, 0, fx 0 (vb false), 0, 1, 1, fx 1 (vb false), 60, 0, 1, 1, fx 1 (vb false), 60, 0] [5, 6, 7, 9, 37, 38, 39] fun _ => seg [(124, vb false)] [(0, none), (1, none), (2, none), (3, none)] [.t false, .t false, .p ((vb (!((dGetB (dPutL (nn / 32) lq yL) xk) == (dGetB (dPutL (nn / 32) lq yL) xk))) : Value) = vb false), .t false, .t false, .t false, .t false, .p ((vb (((dGetV (dPutL (nn / 32) lq yL) xk) : Int) != (dGetV (dPutL (nn / 32) lq yL) xk)) : Value) = vb false), .t false, .t false, .p ((vb (((dPutT (nn / 32) lq yL).2 : Int) != ((dPutT (nn / 32) lq yL).2)) : Value) = vb false)] ⟨(congrArg Value.bool (by simp)), (congrArg Value.bool (bne_self_eq_false _)), (congrArg Value.bool (bne_self_eq_false _)), trivial⟩ fun ac wd hS => ?_
     refine hS.opsC 1 [201] [5, 6, 7, 9, 37, 38, 39, 124] fun _ => seg [(125, .agg #[pt b'4 0, vi 40, vi nn])] [(0, none), (1, none), (2, none), (3, none)] [.t false, .e (ν8 0), .e (ν8 0), .e (ν8 0)] trivial fun ac wd hS => ?_
     refine hS.callG false 17 #[.agg #[pt b'4 0, vi 40, vi nn]] (d_All b'4 F9 (dPutM mx 40 nn lq yL) 40 nn (dPutL (nn / 32) lq yL) _ (hS.mem.res 0) (hS.mem.get 0 0 (.fn 0 64 dbT)) (by first | assumption | omega | (simp_all; done) | (simp_all; omega)) (by first | exact hRc | exact i1)) ?_
     rintro _ wd ⟨ao222, c223, g224, o225, rfl, hv226, hog0, hoh0, hF⟩
     have ho27 : g224 = 0 ∨ w.heap.size ≤ g224 := by have := hS.mem.fr.size; have : w.heap.size ≤ _ := this; omega
     refine ⟨.slice ao222 ((dPutL (nn / 32) lq yL).length) c223, rfl, ?_⟩
     replace hS := (hS.to (hS.mem.outs hF [(g224, .fn o225 (o225 + (dPutL (nn / 32) lq yL).length * 2) (itV (gtD (dPutL (nn / 32) lq yL)) o225))] ⟨⟨rfl, hoh0, (fun q_ => q_.elim (fun e => .inl ⟨0, .fn 0 64 dbT, by rw [e]; as_aux_lemma => kernel_rfl, rfl⟩) (fun q_ => .inr q_)) hog0⟩, trivial⟩)).put (d := 126) (v := .slice ao222 ((dPutL (nn / 32) lq yL).length) c223) (by decide)
     clear hF
     refine hS.callG false 9 #[.slice ao222 ((dPutL (nn / 32) lq yL).length) c223] (law22_Of ao222 c223 g224 o225 (dPutL (nn / 32) lq yL) _ (hS.mem.get 0 0 (.fn 0 64 dbT)) (hS.mem.get 4 g224 (.fn o225 (o225 + (dPutL (nn / 32) lq yL).length * 2) (itV (gtD (dPutL (nn / 32) lq yL)) o225))) hv226 (by first | omega | (have := i1.okd.len; omega))) ?_
     rintro _ wd ⟨ao228, c229, g230, o231, rfl, hv232, hog0, hoh0, hF⟩
     have ho33 : g230 = 0 ∨ w.heap.size ≤ g230 := by have := hS.mem.fr.size; have : w.heap.size ≤ _ := this; omega
     refine ⟨.slice ao228 ((dPutL (nn / 32) lq yL).length) c229, rfl, ?_⟩
     replace hS := (hS.to (hS.mem.outs hF [(g230, .fn o231 (o231 + (dPutL (nn / 32) lq yL).length * 2) (itV (gtD (dPutL (nn / 32) lq yL)) o231))] ⟨⟨rfl, hoh0, (fun q_ => q_.elim (fun e => .inl ⟨0, .fn 0 64 dbT, by rw [e]; as_aux_lemma => kernel_rfl, rfl⟩) (fun q_ => .inr q_)) hog0⟩, trivial⟩)).put (d := 127) (v := .slice ao228 ((dPutL (nn / 32) lq yL).length) c229) (by decide)
     clear hF
     refine hS.opsC 1 [1] [5, 6, 7, 9, 37, 38, 39, 124, 127] fun _ => seg [(128, .slice ao216 ((dPutL (nn / 32) lq yL).length) c217)] [(0, none), (1, none), (2, none), (3, none), (5, none)] [.t false] trivial fun ac wd hS => ?_
     refine hS.callG false 16 #[.slice ao228 ((dPutL (nn / 32) lq yL).length) c229, .slice ao216 ((dPutL (nn / 32) lq yL).length) c217] (eq_ritems ao228 c229 g230 o231 (dPutL (nn / 32) lq yL) ao216 c217 g218 o219 _ (hS.mem.get 4 g230 (.fn o231 (o231 + (dPutL (nn / 32) lq yL).length * 2) (itV (gtD (dPutL (nn / 32) lq yL)) o231))) (hS.mem.get 3 g218 (.fn o219 (o219 + (dPutL (nn / 32) lq yL).length * 2) (itV (gtD (dPutL (nn / 32) lq yL)) o219))) hv232 hv220 (by first | omega | (have := i1.okd.len; omega))) ?_
     rintro _ wd ⟨rfl, hF⟩
     refine ⟨vb true, rfl, ?_⟩
     replace hS := (hS.to (hS.mem.keep0 hF)).put (d := 129) (v := vb true) (by decide)
     clear hF
     refine hS.opsC 2 [1, 60] [5, 6, 7, 9, 37, 38, 39] fun _ => seg [(131, vb false)] [(0, none), (1, none), (2, none), (3, none)] [.t false, .t false] trivial fun ac wd hS => ?_
     refine list_nil_seq ?_
     refine hS.condF ?_
     refine wp_skip ?_
     refine pop_block ?_
     refine pop_then ?_
     refine hS.regC [20, 0] [5, 6, 7, 9, 37, 38] fun _ => seg [(39, vi (x39 + 1))] [(0, none), (1, none), (2, none), (3, none)] [.p (fit .i64 (x39 + 1))] ⟨fit_i64 (by omega), trivial⟩ fun ac wd hS => ?_
     replace hS := hS.perm (H' := [(0, .fn 0 64 dbT), (g7, .fn o7 (o7 + l.length * 2) (aDV (gtD l) o7)), ((ν8 0), .cells [pt b'4 0, vi 40, vi nn] 30), (g218, .fn o219 (o219 + (dPutL (nn / 32) lq yL).length * 2) (itV (gtD (dPutL (nn / 32) lq yL)) o219))]) [0, 1, 2, 3] (by as_aux_lemma => kernel_rfl) (by decide)
     exact pop_then (hS.next ((x39 + 1), F9, (dPutM mx 40 nn lq yL), ao216, c217, g218, o219, (dPutL (nn / 32) lq yL)) ⟨(by omega), (by exact hRc), (by exact hv220), trivial⟩ (by dsimp only; omega))
    ·
     refine hS.regS [0, 0] [5, 6, 7, 9, 12, 37, 38, 39] fun _ => seg [(84, vb (((yd % 4) : Int) == 3))] [(0, none), (1, none), (2, none), (3, none), (6, none)] [] trivial fun ac wd hS => ?_
     refine hS.condC (((yd % 4) : Int) == 3) (fun hb34o hb34 => ?_) (fun hb34o hb34 => ?_)
     ·
      refine wp_region_seq ?_
      refine hS.opsC 3 [200, 0, 400] [5, 6, 7, 9, 12, 37, 38, 39] fun _ => seg [(86, .agg #[pt b'4 0, vi 40, vi nn]), (88, .string xk)] [(0, none), (1, none), (2, none), (3, none), (4, none)] [.e (ν14 0), .e (ν8 0), .e (ν8 0), .e (ν8 0)] trivial fun ac wd hS => ?_
      refine hS.callC 10 #[.agg #[pt b'4 0, vi 40, vi nn], .string xk] (d_Drop b'4 Fx mx 40 nn xk lq _ (hS.mem.res 0) (hS.mem.get 0 0 (.fn 0 64 dbT)) (hS.mem.nF (g := 0) (r := arR b'4 Fx mx) 0 0) (by first | assumption | omega | (simp_all; done) | (simp_all; omega)) (by exact i1)) ?_
      rintro _ wd ⟨F35, rfl, hA, hF⟩
      refine ⟨vi (dDroE lq xk), rfl, ?_⟩
      replace hS := (hS.to (hS.mem.stepA 0 rfl hA hF)).put (d := 89) (v := vi (dDroE lq xk)) (by decide)
      clear hF
      refine hS.opsC 1 [0] [5, 6, 7, 9, 12, 37, 38, 39] fun _ => seg [(13, vi (dDroE lq xk))] [(0, none), (1, none), (2, none), (3, none), (4, none)] [] trivial fun ac wd hS => ?_
      refine list_nil_seq ?_
      refine wp_region_lit ?_
      refine hS.opsC 3 [0, 0, 400] [5, 6, 7, 9, 12, 13, 37, 38, 39] fun _ => seg [(91, .slice aoq lq.length cq), (93, .string xk)] [(0, none), (1, none), (2, none), (3, none), (4, none)] [.e (ν14 0)] trivial fun ac wd hS => ?_
      refine hS.callC 11 #[.slice aoq lq.length cq, .string xk] (r22_Drop aoq cq gq oq lq xk (nn / 32) _ (hS.mem.get 0 0 (.fn 0 64 dbT)) (hS.mem.get 3 gq (.fn oq (oq + lq.length * 2) (itV (gtD lq) oq))) hvq (by first | assumption | omega | (simp_all; done) | (simp_all; omega)) (by exact i1.okd)) ?_
      rintro _ wd ⟨ao236, c237, g238, o239, rfl, hv240, hog0, hoh0, hF⟩
      have ho41 : g238 = gq ∨ g238 = 0 ∨ w.heap.size ≤ g238 := by have := hS.mem.fr.size; have : w.heap.size ≤ _ := this; omega
      refine ⟨.tuple #[.slice ao236 ((dDroL lq xk).length) c237, vi (dDroE lq xk)], rfl, ?_⟩
      replace hS := (hS.to (hS.mem.outs hF [(g238, .fn o239 (o239 + (dDroL lq xk).length * 2) (itV (gtD (dDroL lq xk)) o239))] ⟨⟨rfl, hoh0, (fun q_ => q_.elim (fun e => .inl ⟨3, .fn oq (oq + lq.length * 2) (itV (gtD lq) oq), by rw [e]; as_aux_lemma => kernel_rfl, rfl⟩) (fun q_ => q_.elim (fun e => .inl ⟨0, .fn 0 64 dbT, by rw [e]; as_aux_lemma => kernel_rfl, rfl⟩) (fun q_ => .inr q_))) hog0⟩, trivial⟩)).put (d := 94) (v := .tuple #[.slice ao236 ((dDroL lq xk).length) c237, vi (dDroE lq xk)]) (by decide)
      clear hF
      refine hS.opsC 5 [0, 0, 0, 0, 0] [5, 6, 7, 12, 13, 37, 38, 39] fun _ => seg [(9, .slice ao236 ((dDroL lq xk).length) c237), (14, vi (dDroE lq xk))] [(0, none), (1, none), (2, none), (4, none), (5, none)] [] trivial fun ac wd hS => ?_
      refine list_nil ?_
      refine pop_block ?_
      refine pop_then ?_
      have hRc : DtR (dDroM mx 40 nn lq xk) 40 nn (dDroL lq xk) := by first | exact i1.put hyr | exact i1.drop xk | exact i1.put hxr
      have hrl := hRc.okd.len
      refine wp_region_seq ?_
      refine hS.opsC 3 [200, 0, 300] [5, 6, 7, 9, 12, 13, 14, 37, 38, 39] fun _ => seg [(98, .agg #[pt b'4 0, vi 40, vi nn]), (100, .string xk)] [(0, none), (1, none), (2, none), (3, none), (4, none)] [.e (ν14 0), .e (ν8 0), .e (ν8 0), .e (ν8 0)] trivial fun ac wd hS => ?_
      refine hS.call0 14 #[.agg #[pt b'4 0, vi 40, vi nn], .string xk] 101 (d_Get b'4 F35 (dDroM mx 40 nn lq xk) 40 nn xk (dDroL lq xk) _ (hS.mem.res 0) (hS.mem.get 0 0 (.fn 0 64 dbT)) (by first | assumption | omega | (simp_all; done) | (simp_all; omega)) (by exact hRc)) fun ac wd hS => ?_
      refine hS.opsC 5 [0, 0, 0, 0, 0] [5, 6, 7, 9, 12, 13, 14, 37, 38, 39] fun _ => seg [(15, vu (dGetV (dDroL lq xk) xk)), (16, vb (dGetB (dDroL lq xk) xk))] [(0, none), (1, none), (2, none), (3, none), (4, none)] [] trivial fun ac wd hS => ?_
      refine list_nil_seq ?_
      refine wp_region_seq ?_
      refine hS.opsC 3 [0, 0, 300] [5, 6, 7, 9, 13, 14, 15, 16, 37, 38, 39] fun _ => seg [(105, .slice ao236 ((dDroL lq xk).length) c237), (107, .string xk)] [(0, none), (1, none), (2, none), (4, none)] [.e (ν14 0)] trivial fun ac wd hS => ?_
      refine hS.call0 15 #[.slice ao236 ((dDroL lq xk).length) c237, .string xk] 108 (r22_Get ao236 c237 g238 o239 (dDroL lq xk) xk _ (hS.mem.get 3 g238 (.fn o239 (o239 + (dDroL lq xk).length * 2) (itV (gtD (dDroL lq xk)) o239))) hv240 (by first | assumption | omega | (simp_all; done) | (simp_all; omega))) fun ac wd hS => ?_
      refine hS.opsC 5 [0, 0, 0, 0, 0] [5, 6, 7, 9, 13, 14, 15, 16, 37, 38, 39] fun _ => seg [(17, vu (dGetV (dDroL lq xk) xk)), (18, vb (dGetB (dDroL lq xk) xk))] [(0, none), (1, none), (2, none), (3, none)] [] trivial fun ac wd hS => ?_
      refine list_nil_seq ?_
      refine wp_region_seq ?_
      refine hS.opsC 14 [0, 0, fx 0 (vb false), 0, 1, 1, fx 1 (vb false), 60, 0, 1, 1, fx 1 (vb false), 60, 0] [5, 6, 7, 9, 37, 38, 39] fun _ => seg [(124, vb false)] [(0, none), (1, none), (2, none), (3, none)] [.t false, .t false, .p ((vb (!((dGetB (dDroL lq xk) xk) == (dGetB (dDroL lq xk) xk))) : Value) = vb false), .t false, .t false, .t false, .t false, .p ((vb (((dGetV (dDroL lq xk) xk) : Int) != (dGetV (dDroL lq xk) xk)) : Value) = vb false), .t false, .t false, .p ((vb (((dDroE lq xk) : Int) != (dDroE lq xk)) : Value) = vb false)] ⟨(congrArg Value.bool (by simp)), (congrArg Value.bool (bne_self_eq_false _)), (congrArg Value.bool (bne_self_eq_false _)), trivial⟩ fun ac wd hS => ?_
      refine hS.opsC 1 [201] [5, 6, 7, 9, 37, 38, 39, 124] fun _ => seg [(125, .agg #[pt b'4 0, vi 40, vi nn])] [(0, none), (1, none), (2, none), (3, none)] [.t false, .e (ν8 0), .e (ν8 0), .e (ν8 0)] trivial fun ac wd hS => ?_
      refine hS.callG false 17 #[.agg #[pt b'4 0, vi 40, vi nn]] (d_All b'4 F35 (dDroM mx 40 nn lq xk) 40 nn (dDroL lq xk) _ (hS.mem.res 0) (hS.mem.get 0 0 (.fn 0 64 dbT)) (by first | assumption | omega | (simp_all; done) | (simp_all; omega)) (by first | exact hRc | exact i1)) ?_
      rintro _ wd ⟨ao242, c243, g244, o245, rfl, hv246, hog0, hoh0, hF⟩
      have ho47 : g244 = 0 ∨ w.heap.size ≤ g244 := by have := hS.mem.fr.size; have : w.heap.size ≤ _ := this; omega
      refine ⟨.slice ao242 ((dDroL lq xk).length) c243, rfl, ?_⟩
      replace hS := (hS.to (hS.mem.outs hF [(g244, .fn o245 (o245 + (dDroL lq xk).length * 2) (itV (gtD (dDroL lq xk)) o245))] ⟨⟨rfl, hoh0, (fun q_ => q_.elim (fun e => .inl ⟨0, .fn 0 64 dbT, by rw [e]; as_aux_lemma => kernel_rfl, rfl⟩) (fun q_ => .inr q_)) hog0⟩, trivial⟩)).put (d := 126) (v := .slice ao242 ((dDroL lq xk).length) c243) (by decide)
      clear hF
      refine hS.callG false 9 #[.slice ao242 ((dDroL lq xk).length) c243] (law22_Of ao242 c243 g244 o245 (dDroL lq xk) _ (hS.mem.get 0 0 (.fn 0 64 dbT)) (hS.mem.get 4 g244 (.fn o245 (o245 + (dDroL lq xk).length * 2) (itV (gtD (dDroL lq xk)) o245))) hv246 (by first | omega | (have := i1.okd.len; omega))) ?_
      rintro _ wd ⟨ao248, c249, g250, o251, rfl, hv252, hog0, hoh0, hF⟩
      have ho53 : g250 = 0 ∨ w.heap.size ≤ g250 := by have := hS.mem.fr.size; have : w.heap.size ≤ _ := this; omega
      refine ⟨.slice ao248 ((dDroL lq xk).length) c249, rfl, ?_⟩
      replace hS := (hS.to (hS.mem.outs hF [(g250, .fn o251 (o251 + (dDroL lq xk).length * 2) (itV (gtD (dDroL lq xk)) o251))] ⟨⟨rfl, hoh0, (fun q_ => q_.elim (fun e => .inl ⟨0, .fn 0 64 dbT, by rw [e]; as_aux_lemma => kernel_rfl, rfl⟩) (fun q_ => .inr q_)) hog0⟩, trivial⟩)).put (d := 127) (v := .slice ao248 ((dDroL lq xk).length) c249) (by decide)
      clear hF
      refine hS.opsC 1 [1] [5, 6, 7, 9, 37, 38, 39, 124, 127] fun _ => seg [(128, .slice ao236 ((dDroL lq xk).length) c237)] [(0, none), (1, none), (2, none), (3, none), (5, none)] [.t false] trivial fun ac wd hS => ?_
      refine hS.callG false 16 #[.slice ao248 ((dDroL lq xk).length) c249, .slice ao236 ((dDroL lq xk).length) c237] (eq_ritems ao248 c249 g250 o251 (dDroL lq xk) ao236 c237 g238 o239 _ (hS.mem.get 4 g250 (.fn o251 (o251 + (dDroL lq xk).length * 2) (itV (gtD (dDroL lq xk)) o251))) (hS.mem.get 3 g238 (.fn o239 (o239 + (dDroL lq xk).length * 2) (itV (gtD (dDroL lq xk)) o239))) hv252 hv240 (by first | omega | (have := i1.okd.len; omega))) ?_
      rintro _ wd ⟨rfl, hF⟩
      refine ⟨vb true, rfl, ?_⟩
      replace hS := (hS.to (hS.mem.keep0 hF)).put (d := 129) (v := vb true) (by decide)
      clear hF
      refine hS.opsC 2 [1, 60] [5, 6, 7, 9, 37, 38, 39] fun _ => seg [(131, vb false)] [(0, none), (1, none), (2, none), (3, none)] [.t false, .t false] trivial fun ac wd hS => ?_
      refine list_nil_seq ?_
      refine hS.condF ?_
      refine wp_skip ?_
      refine pop_block ?_
      refine pop_then ?_
      refine hS.regC [20, 0] [5, 6, 7, 9, 37, 38] fun _ => seg [(39, vi (x39 + 1))] [(0, none), (1, none), (2, none), (3, none)] [.p (fit .i64 (x39 + 1))] ⟨fit_i64 (by omega), trivial⟩ fun ac wd hS => ?_
      replace hS := hS.perm (H' := [(0, .fn 0 64 dbT), (g7, .fn o7 (o7 + l.length * 2) (aDV (gtD l) o7)), ((ν8 0), .cells [pt b'4 0, vi 40, vi nn] 30), (g238, .fn o239 (o239 + (dDroL lq xk).length * 2) (itV (gtD (dDroL lq xk)) o239))]) [0, 1, 2, 3] (by as_aux_lemma => kernel_rfl) (by decide)
      exact pop_then (hS.next ((x39 + 1), F35, (dDroM mx 40 nn lq xk), ao236, c237, g238, o239, (dDroL lq xk)) ⟨(by omega), (by exact hRc), (by exact hv240), trivial⟩ (by dsimp only; omega))
     ·
      refine wp_region_seq ?_
      refine hS.opsC 5 [200, 0, 400, 0, 400] [5, 6, 7, 9, 12, 37, 38, 39] fun _ => seg [(54, .agg #[pt b'4 0, vi 40, vi nn]), (56, .string xk), (58, vu xn)] [(0, none), (1, none), (2, none), (3, none), (4, none)] [.e (ν14 0), .e (ν14 0), .e (ν8 0), .e (ν8 0), .e (ν8 0)] trivial fun ac wd hS => ?_
      refine hS.callC 12 #[.agg #[pt b'4 0, vi 40, vi nn], .string xk, vu xn] (d_Set b'4 Fx mx 40 nn xk xn lq _ (hS.mem.res 0) (hS.mem.get 0 0 (.fn 0 64 dbT)) (hS.mem.nF (g := 0) (r := arR b'4 Fx mx) 0 0) (by first | assumption | omega | (simp_all; done) | (simp_all; omega)) (by exact i1)) ?_
      rintro _ wd ⟨F54, rfl, hA, hF⟩
      refine ⟨vi ((dPutT (nn / 32) lq [(xk, xn)]).2), rfl, ?_⟩
      replace hS := (hS.to (hS.mem.stepA 0 rfl hA hF)).put (d := 59) (v := vi ((dPutT (nn / 32) lq [(xk, xn)]).2)) (by decide)
      clear hF
      refine hS.opsC 1 [0] [5, 6, 7, 9, 12, 37, 38, 39] fun _ => seg [(13, vi ((dPutT (nn / 32) lq [(xk, xn)]).2))] [(0, none), (1, none), (2, none), (3, none), (4, none)] [] trivial fun ac wd hS => ?_
      refine list_nil_seq ?_
      refine wp_region_lit ?_
      refine hS.opsC 4 [0, 0, 20, 400] [5, 6, 7, 9, 12, 13, 37, 38, 39] fun _ => seg [(61, .slice aoq lq.length cq), (63, vi (nn / 32)), (64, .agg #[.string xk, vu xn])] [(0, none), (1, none), (2, none), (3, none), (4, none)] [.e (ν14 0), .e (ν14 0), .p ((32 : Int) ≠ 0 ∧ IntKind.i64.wrap (Int.tdiv nn 32) = nn / 32)] ⟨quo2 (by omega) (by omega) (by omega), trivial⟩ fun ac wd hS => ?_
      refine hS.callC 13 #[.slice aoq lq.length cq, vi (nn / 32), .agg #[.string xk, vu xn]] (r22_Set aoq cq gq oq lq (nn / 32) xk xn _ (hS.mem.get 0 0 (.fn 0 64 dbT)) (hS.mem.get 3 gq (.fn oq (oq + lq.length * 2) (itV (gtD lq) oq))) hvq (by first | assumption | omega | (simp_all; done) | (simp_all; omega)) (by exact i1.okd)) ?_
      rintro _ wd ⟨ao255, c256, g257, o258, rfl, hv259, hog0, hoh0, hF⟩
      have ho60 : g257 = gq ∨ g257 = 0 ∨ w.heap.size ≤ g257 := by have := hS.mem.fr.size; have : w.heap.size ≤ _ := this; omega
      refine ⟨.tuple #[.slice ao255 ((dPutL (nn / 32) lq [(xk, xn)]).length) c256, vi ((dPutT (nn / 32) lq [(xk, xn)]).2)], rfl, ?_⟩
      replace hS := (hS.to (hS.mem.outs hF [(g257, .fn o258 (o258 + (dPutL (nn / 32) lq [(xk, xn)]).length * 2) (itV (gtD (dPutL (nn / 32) lq [(xk, xn)])) o258))] ⟨⟨rfl, hoh0, (fun q_ => q_.elim (fun e => .inl ⟨3, .fn oq (oq + lq.length * 2) (itV (gtD lq) oq), by rw [e]; as_aux_lemma => kernel_rfl, rfl⟩) (fun q_ => q_.elim (fun e => .inl ⟨0, .fn 0 64 dbT, by rw [e]; as_aux_lemma => kernel_rfl, rfl⟩) (fun q_ => .inr q_))) hog0⟩, trivial⟩)).put (d := 65) (v := .tuple #[.slice ao255 ((dPutL (nn / 32) lq [(xk, xn)]).length) c256, vi ((dPutT (nn / 32) lq [(xk, xn)]).2)]) (by decide)
      clear hF
      refine hS.opsC 5 [0, 0, 0, 0, 0] [5, 6, 7, 12, 13, 37, 38, 39] fun _ => seg [(9, .slice ao255 ((dPutL (nn / 32) lq [(xk, xn)]).length) c256), (14, vi ((dPutT (nn / 32) lq [(xk, xn)]).2))] [(0, none), (1, none), (2, none), (4, none), (5, none)] [] trivial fun ac wd hS => ?_
      refine list_nil ?_
      refine pop_block ?_
      refine pop_then ?_
      have hRc : DtR (dPutM mx 40 nn lq [(xk, xn)]) 40 nn (dPutL (nn / 32) lq [(xk, xn)]) := by first | exact i1.put hyr | exact i1.drop xk | exact i1.put hxr
      have hrl := hRc.okd.len
      refine wp_region_seq ?_
      refine hS.opsC 3 [200, 0, 300] [5, 6, 7, 9, 12, 13, 14, 37, 38, 39] fun _ => seg [(98, .agg #[pt b'4 0, vi 40, vi nn]), (100, .string xk)] [(0, none), (1, none), (2, none), (3, none), (4, none)] [.e (ν14 0), .e (ν8 0), .e (ν8 0), .e (ν8 0)] trivial fun ac wd hS => ?_
      refine hS.call0 14 #[.agg #[pt b'4 0, vi 40, vi nn], .string xk] 101 (d_Get b'4 F54 (dPutM mx 40 nn lq [(xk, xn)]) 40 nn xk (dPutL (nn / 32) lq [(xk, xn)]) _ (hS.mem.res 0) (hS.mem.get 0 0 (.fn 0 64 dbT)) (by first | assumption | omega | (simp_all; done) | (simp_all; omega)) (by exact hRc)) fun ac wd hS => ?_
      refine hS.opsC 5 [0, 0, 0, 0, 0] [5, 6, 7, 9, 12, 13, 14, 37, 38, 39] fun _ => seg [(15, vu (dGetV (dPutL (nn / 32) lq [(xk, xn)]) xk)), (16, vb (dGetB (dPutL (nn / 32) lq [(xk, xn)]) xk))] [(0, none), (1, none), (2, none), (3, none), (4, none)] [] trivial fun ac wd hS => ?_
      refine list_nil_seq ?_
      refine wp_region_seq ?_
      refine hS.opsC 3 [0, 0, 300] [5, 6, 7, 9, 13, 14, 15, 16, 37, 38, 39] fun _ => seg [(105, .slice ao255 ((dPutL (nn / 32) lq [(xk, xn)]).length) c256), (107, .string xk)] [(0, none), (1, none), (2, none), (4, none)] [.e (ν14 0)] trivial fun ac wd hS => ?_
      refine hS.call0 15 #[.slice ao255 ((dPutL (nn / 32) lq [(xk, xn)]).length) c256, .string xk] 108 (r22_Get ao255 c256 g257 o258 (dPutL (nn / 32) lq [(xk, xn)]) xk _ (hS.mem.get 3 g257 (.fn o258 (o258 + (dPutL (nn / 32) lq [(xk, xn)]).length * 2) (itV (gtD (dPutL (nn / 32) lq [(xk, xn)])) o258))) hv259 (by first | assumption | omega | (simp_all; done) | (simp_all; omega))) fun ac wd hS => ?_
      refine hS.opsC 5 [0, 0, 0, 0, 0] [5, 6, 7, 9, 13, 14, 15, 16, 37, 38, 39] fun _ => seg [(17, vu (dGetV (dPutL (nn / 32) lq [(xk, xn)]) xk)), (18, vb (dGetB (dPutL (nn / 32) lq [(xk, xn)]) xk))] [(0, none), (1, none), (2, none), (3, none)] [] trivial fun ac wd hS => ?_
      refine list_nil_seq ?_
      refine wp_region_seq ?_
      refine hS.opsC 14 [0, 0, fx 0 (vb false), 0, 1, 1, fx 1 (vb false), 60, 0, 1, 1, fx 1 (vb false), 60, 0] [5, 6, 7, 9, 37, 38, 39] fun _ => seg [(124, vb false)] [(0, none), (1, none), (2, none), (3, none)] [.t false, .t false, .p ((vb (!((dGetB (dPutL (nn / 32) lq [(xk, xn)]) xk) == (dGetB (dPutL (nn / 32) lq [(xk, xn)]) xk))) : Value) = vb false), .t false, .t false, .t false, .t false, .p ((vb (((dGetV (dPutL (nn / 32) lq [(xk, xn)]) xk) : Int) != (dGetV (dPutL (nn / 32) lq [(xk, xn)]) xk)) : Value) = vb false), .t false, .t false, .p ((vb (((dPutT (nn / 32) lq [(xk, xn)]).2 : Int) != ((dPutT (nn / 32) lq [(xk, xn)]).2)) : Value) = vb false)] ⟨(congrArg Value.bool (by simp)), (congrArg Value.bool (bne_self_eq_false _)), (congrArg Value.bool (bne_self_eq_false _)), trivial⟩ fun ac wd hS => ?_
      refine hS.opsC 1 [201] [5, 6, 7, 9, 37, 38, 39, 124] fun _ => seg [(125, .agg #[pt b'4 0, vi 40, vi nn])] [(0, none), (1, none), (2, none), (3, none)] [.t false, .e (ν8 0), .e (ν8 0), .e (ν8 0)] trivial fun ac wd hS => ?_
      refine hS.callG false 17 #[.agg #[pt b'4 0, vi 40, vi nn]] (d_All b'4 F54 (dPutM mx 40 nn lq [(xk, xn)]) 40 nn (dPutL (nn / 32) lq [(xk, xn)]) _ (hS.mem.res 0) (hS.mem.get 0 0 (.fn 0 64 dbT)) (by first | assumption | omega | (simp_all; done) | (simp_all; omega)) (by first | exact hRc | exact i1)) ?_
      rintro _ wd ⟨ao261, c262, g263, o264, rfl, hv265, hog0, hoh0, hF⟩
      have ho66 : g263 = 0 ∨ w.heap.size ≤ g263 := by have := hS.mem.fr.size; have : w.heap.size ≤ _ := this; omega
      refine ⟨.slice ao261 ((dPutL (nn / 32) lq [(xk, xn)]).length) c262, rfl, ?_⟩
      replace hS := (hS.to (hS.mem.outs hF [(g263, .fn o264 (o264 + (dPutL (nn / 32) lq [(xk, xn)]).length * 2) (itV (gtD (dPutL (nn / 32) lq [(xk, xn)])) o264))] ⟨⟨rfl, hoh0, (fun q_ => q_.elim (fun e => .inl ⟨0, .fn 0 64 dbT, by rw [e]; as_aux_lemma => kernel_rfl, rfl⟩) (fun q_ => .inr q_)) hog0⟩, trivial⟩)).put (d := 126) (v := .slice ao261 ((dPutL (nn / 32) lq [(xk, xn)]).length) c262) (by decide)
      clear hF
      refine hS.callG false 9 #[.slice ao261 ((dPutL (nn / 32) lq [(xk, xn)]).length) c262] (law22_Of ao261 c262 g263 o264 (dPutL (nn / 32) lq [(xk, xn)]) _ (hS.mem.get 0 0 (.fn 0 64 dbT)) (hS.mem.get 4 g263 (.fn o264 (o264 + (dPutL (nn / 32) lq [(xk, xn)]).length * 2) (itV (gtD (dPutL (nn / 32) lq [(xk, xn)])) o264))) hv265 (by first | omega | (have := i1.okd.len; omega))) ?_
      rintro _ wd ⟨ao267, c268, g269, o270, rfl, hv271, hog0, hoh0, hF⟩
      have ho72 : g269 = 0 ∨ w.heap.size ≤ g269 := by have := hS.mem.fr.size; have : w.heap.size ≤ _ := this; omega
      refine ⟨.slice ao267 ((dPutL (nn / 32) lq [(xk, xn)]).length) c268, rfl, ?_⟩
      replace hS := (hS.to (hS.mem.outs hF [(g269, .fn o270 (o270 + (dPutL (nn / 32) lq [(xk, xn)]).length * 2) (itV (gtD (dPutL (nn / 32) lq [(xk, xn)])) o270))] ⟨⟨rfl, hoh0, (fun q_ => q_.elim (fun e => .inl ⟨0, .fn 0 64 dbT, by rw [e]; as_aux_lemma => kernel_rfl, rfl⟩) (fun q_ => .inr q_)) hog0⟩, trivial⟩)).put (d := 127) (v := .slice ao267 ((dPutL (nn / 32) lq [(xk, xn)]).length) c268) (by decide)
      clear hF
      refine hS.opsC 1 [1] [5, 6, 7, 9, 37, 38, 39, 124, 127] fun _ => seg [(128, .slice ao255 ((dPutL (nn / 32) lq [(xk, xn)]).length) c256)] [(0, none), (1, none), (2, none), (3, none), (5, none)] [.t false] trivial fun ac wd hS => ?_
      refine hS.callG false 16 #[.slice ao267 ((dPutL (nn / 32) lq [(xk, xn)]).length) c268, .slice ao255 ((dPutL (nn / 32) lq [(xk, xn)]).length) c256] (eq_ritems ao267 c268 g269 o270 (dPutL (nn / 32) lq [(xk, xn)]) ao255 c256 g257 o258 _ (hS.mem.get 4 g269 (.fn o270 (o270 + (dPutL (nn / 32) lq [(xk, xn)]).length * 2) (itV (gtD (dPutL (nn / 32) lq [(xk, xn)])) o270))) (hS.mem.get 3 g257 (.fn o258 (o258 + (dPutL (nn / 32) lq [(xk, xn)]).length * 2) (itV (gtD (dPutL (nn / 32) lq [(xk, xn)])) o258))) hv271 hv259 (by first | omega | (have := i1.okd.len; omega))) ?_
      rintro _ wd ⟨rfl, hF⟩
      refine ⟨vb true, rfl, ?_⟩
      replace hS := (hS.to (hS.mem.keep0 hF)).put (d := 129) (v := vb true) (by decide)
      clear hF
      refine hS.opsC 2 [1, 60] [5, 6, 7, 9, 37, 38, 39] fun _ => seg [(131, vb false)] [(0, none), (1, none), (2, none), (3, none)] [.t false, .t false] trivial fun ac wd hS => ?_
      refine list_nil_seq ?_
      refine hS.condF ?_
      refine wp_skip ?_
      refine pop_block ?_
      refine pop_then ?_
      refine hS.regC [20, 0] [5, 6, 7, 9, 37, 38] fun _ => seg [(39, vi (x39 + 1))] [(0, none), (1, none), (2, none), (3, none)] [.p (fit .i64 (x39 + 1))] ⟨fit_i64 (by omega), trivial⟩ fun ac wd hS => ?_
      replace hS := hS.perm (H' := [(0, .fn 0 64 dbT), (g7, .fn o7 (o7 + l.length * 2) (aDV (gtD l) o7)), ((ν8 0), .cells [pt b'4 0, vi 40, vi nn] 30), (g257, .fn o258 (o258 + (dPutL (nn / 32) lq [(xk, xn)]).length * 2) (itV (gtD (dPutL (nn / 32) lq [(xk, xn)])) o258))]) [0, 1, 2, 3] (by as_aux_lemma => kernel_rfl) (by decide)
      exact pop_then (hS.next ((x39 + 1), F54, (dPutM mx 40 nn lq [(xk, xn)]), ao255, c256, g257, o258, (dPutL (nn / 32) lq [(xk, xn)])) ⟨(by omega), (by exact hRc), (by exact hv259), trivial⟩ (by dsimp only; omega))
   ·
    refine wp_skip ?_
    refine pop_then ?_
    obtain ⟨xk, xk_e⟩ : ∃ q_ : ByteArray, q_ = (ByteArray.empty) := ⟨_, rfl⟩
    obtain ⟨xn, xn_e⟩ : ∃ q_ : Int, q_ = 0 := ⟨_, rfl⟩
    replace hS := hS.to (hS.mem.tell 6 (b := (ν14 0)) (x := (.cells [.string (ByteArray.empty), vu 0] 39)) (.cells [.string xk, vu xn] 39) (hh := fun h_ => by rw [xk_e, xn_e]; exact h_))
    have hxr : ∀ x_, x_ ∈ [(xk, xn)] → 0 ≤ x_.2 ∧ x_.2 ≤ 18446744073709551615 := fun x_ hx_ => by obtain rfl := List.mem_singleton.1 hx_; show 0 ≤ xn ∧ xn ≤ 18446744073709551615; first | omega | (have h9_ := hyi 0 (by omega); omega)
    clear xk_e xn_e
    have hyr : ∀ x_, x_ ∈ yL → 0 ≤ x_.2 ∧ x_.2 ≤ 18446744073709551615 := fun x_ hx_ => by obtain ⟨j_, hj_, e_⟩ := List.mem_iff_getElem.1 hx_; have h9_ := hyi j_ hj_; rw [gtD_lt hj_, e_] at h9_; exact h9_
    have hql := i1.okd.len
    have hy12 := hLg.2 _ (show Int.toNat x39 < l.length by omega)
    rw [← hy] at hy12
    replace hy12 : yL.length ≤ 12 := hy12
    refine hS.regS [0] [5, 6, 7, 9, 11, 12, 37, 38, 39] fun _ => seg [] [(0, none), (1, none), (2, none), (3, none), (4, none), (5, none), (6, none)] [] trivial fun ac wd hS => ?_
    refine hS.regS [0] [5, 6, 7, 9, 11, 12, 37, 38, 39] fun _ => seg [] [(0, none), (1, none), (2, none), (3, none), (4, none), (5, none), (6, none)] [] trivial fun ac wd hS => ?_
    refine wp_seq ?_
    refine hS.regS [0, 400, 20] [5, 6, 7, 9, 11, 12, 37, 38, 39] fun _ => seg [(53, v8 (yd % 4))] [(0, none), (1, none), (2, none), (3, none), (4, none), (5, none), (6, none)] [.p ((4 : Int) ≠ 0 ∧ Int.tmod yd 4 = yd % 4), .e (ν13 0)] ⟨rem2 (by omega) (by omega), trivial⟩ fun ac wd hS => ?_
    refine wp_block ?_
    refine hS.regS [0, 0] [5, 6, 7, 9, 11, 12, 37, 38, 39, 53] fun _ => seg [(68, vb (((yd % 4) : Int) == 2))] [(0, none), (1, none), (2, none), (3, none), (4, none), (5, none), (6, none)] [] trivial fun ac wd hS => ?_
    refine hS.condC (((yd % 4) : Int) == 2) (fun hb73o hb73 => ?_) (fun hb73o hb73 => ?_)
    ·
     refine wp_region_seq ?_
     refine hS.opsC 3 [200, 0, 400] [5, 6, 7, 9, 11, 12, 37, 38, 39] fun _ => seg [(70, .agg #[pt b'4 0, vi 40, vi nn]), (72, .slice ya yL.length yc)] [(0, none), (1, none), (2, none), (3, none), (4, none), (5, none), (6, none)] [.e (ν13 0), .e (ν8 0), .e (ν8 0), .e (ν8 0)] trivial fun ac wd hS => ?_
     refine hS.callC 7 #[.agg #[pt b'4 0, vi 40, vi nn], .slice ya yL.length yc] (d_Put b'4 Fx mx 40 nn ya yc yg yo yL lq _ (hS.mem.res 0) (hS.mem.get 0 0 (.fn 0 64 dbT)) (hS.mem.get 5 yg (.fn yo (yo + yL.length * 2) (itV (gtD yL) yo))) (hS.mem.nF (g := 0) (r := arR b'4 Fx mx) 0 0) (hS.mem.nF (g := yg) (r := arR b'4 Fx mx) 5 0) (by first | assumption | omega | (simp_all; done) | (simp_all; omega)) hyv (by exact i1) (by first | assumption | omega | (simp_all; done) | (simp_all; omega))) ?_
     rintro _ wd ⟨F74, rfl, hA, hF⟩
     refine ⟨vi ((dPutT (nn / 32) lq yL).2), rfl, ?_⟩
     replace hS := (hS.to (hS.mem.stepA 0 rfl hA hF)).put (d := 73) (v := vi ((dPutT (nn / 32) lq yL).2)) (by decide)
     clear hF
     refine hS.opsC 1 [0] [5, 6, 7, 9, 11, 12, 37, 38, 39] fun _ => seg [(13, vi ((dPutT (nn / 32) lq yL).2))] [(0, none), (1, none), (2, none), (3, none), (4, none), (5, none), (6, none)] [] trivial fun ac wd hS => ?_
     refine list_nil_seq ?_
     refine wp_region_lit ?_
     refine hS.opsC 5 [0, 0, 20, 0, 400] [5, 6, 7, 9, 12, 13, 37, 38, 39] fun _ => seg [(75, .slice aoq lq.length cq), (77, vi (nn / 32)), (79, .slice ya yL.length yc)] [(0, none), (1, none), (2, none), (3, none), (5, none), (6, none)] [.e (ν13 0), .p ((32 : Int) ≠ 0 ∧ IntKind.i64.wrap (Int.tdiv nn 32) = nn / 32)] ⟨quo2 (by omega) (by omega) (by omega), trivial⟩ fun ac wd hS => ?_
     refine hS.callC 9 #[.slice ya yL.length yc] (law22_Of ya yc yg yo yL _ (hS.mem.get 0 0 (.fn 0 64 dbT)) (hS.mem.get 4 yg (.fn yo (yo + yL.length * 2) (itV (gtD yL) yo))) hyv (by first | omega | (have := i1.okd.len; omega))) ?_
     rintro _ wd ⟨ao275, c276, g277, o278, rfl, hv279, hog0, hoh0, hF⟩
     have ho80 : g277 = 0 ∨ w.heap.size ≤ g277 := by have := hS.mem.fr.size; have : w.heap.size ≤ _ := this; omega
     refine ⟨.slice ao275 yL.length c276, rfl, ?_⟩
     replace hS := (hS.to (hS.mem.outs hF [(g277, .fn o278 (o278 + yL.length * 2) (itV (gtD yL) o278))] ⟨⟨rfl, hoh0, (fun q_ => q_.elim (fun e => .inl ⟨0, .fn 0 64 dbT, by rw [e]; as_aux_lemma => kernel_rfl, rfl⟩) (fun q_ => .inr q_)) hog0⟩, trivial⟩)).put (d := 80) (v := .slice ao275 yL.length c276) (by decide)
     clear hF
     refine hS.callC 8 #[.slice aoq lq.length cq, vi (nn / 32), .slice ao275 yL.length c276] (r22_Put aoq cq gq oq lq (nn / 32) ao275 c276 g277 o278 yL _ (hS.mem.get 0 0 (.fn 0 64 dbT)) (hS.mem.get 3 gq (.fn oq (oq + lq.length * 2) (itV (gtD lq) oq))) (hS.mem.get 6 g277 (.fn o278 (o278 + yL.length * 2) (itV (gtD yL) o278))) hvq hv279 (by first | assumption | omega | (simp_all; done) | (simp_all; omega)) (by exact i1.okd) (by first | assumption | omega | (simp_all; done) | (simp_all; omega)) (by exact hyi) (by first | assumption | omega | (simp_all; done) | (simp_all; omega))) ?_
     rintro _ wd ⟨ao281, c282, g283, o284, rfl, hv285, hog0, hoh0, hF⟩
     have ho86 : g283 = gq ∨ g283 = 0 ∨ w.heap.size ≤ g283 := by have := hS.mem.fr.size; have : w.heap.size ≤ _ := this; omega
     refine ⟨.tuple #[.slice ao281 ((dPutL (nn / 32) lq yL).length) c282, vi ((dPutT (nn / 32) lq yL).2)], rfl, ?_⟩
     replace hS := (hS.to (hS.mem.outs hF [(g283, .fn o284 (o284 + (dPutL (nn / 32) lq yL).length * 2) (itV (gtD (dPutL (nn / 32) lq yL)) o284))] ⟨⟨rfl, hoh0, (fun q_ => q_.elim (fun e => .inl ⟨3, .fn oq (oq + lq.length * 2) (itV (gtD lq) oq), by rw [e]; as_aux_lemma => kernel_rfl, rfl⟩) (fun q_ => q_.elim (fun e => .inl ⟨0, .fn 0 64 dbT, by rw [e]; as_aux_lemma => kernel_rfl, rfl⟩) (fun q_ => .inr q_))) hog0⟩, trivial⟩)).put (d := 81) (v := .tuple #[.slice ao281 ((dPutL (nn / 32) lq yL).length) c282, vi ((dPutT (nn / 32) lq yL).2)]) (by decide)
     clear hF
     refine hS.opsC 5 [0, 0, 0, 0, 0] [5, 6, 7, 12, 13, 37, 38, 39] fun _ => seg [(9, .slice ao281 ((dPutL (nn / 32) lq yL).length) c282), (14, vi ((dPutT (nn / 32) lq yL).2))] [(0, none), (1, none), (2, none), (5, none), (7, none)] [] trivial fun ac wd hS => ?_
     refine list_nil ?_
     refine pop_block ?_
     refine pop_then ?_
     have hRc : DtR (dPutM mx 40 nn lq yL) 40 nn (dPutL (nn / 32) lq yL) := by first | exact i1.put hyr | exact i1.drop xk | exact i1.put hxr
     have hrl := hRc.okd.len
     refine wp_region_seq ?_
     refine hS.opsC 3 [200, 0, 300] [5, 6, 7, 9, 12, 13, 14, 37, 38, 39] fun _ => seg [(98, .agg #[pt b'4 0, vi 40, vi nn]), (100, .string xk)] [(0, none), (1, none), (2, none), (3, none), (4, none)] [.e (ν14 0), .e (ν8 0), .e (ν8 0), .e (ν8 0)] trivial fun ac wd hS => ?_
     refine hS.call0 14 #[.agg #[pt b'4 0, vi 40, vi nn], .string xk] 101 (d_Get b'4 F74 (dPutM mx 40 nn lq yL) 40 nn xk (dPutL (nn / 32) lq yL) _ (hS.mem.res 0) (hS.mem.get 0 0 (.fn 0 64 dbT)) (by first | assumption | omega | (simp_all; done) | (simp_all; omega)) (by exact hRc)) fun ac wd hS => ?_
     refine hS.opsC 5 [0, 0, 0, 0, 0] [5, 6, 7, 9, 12, 13, 14, 37, 38, 39] fun _ => seg [(15, vu (dGetV (dPutL (nn / 32) lq yL) xk)), (16, vb (dGetB (dPutL (nn / 32) lq yL) xk))] [(0, none), (1, none), (2, none), (3, none), (4, none)] [] trivial fun ac wd hS => ?_
     refine list_nil_seq ?_
     refine wp_region_seq ?_
     refine hS.opsC 3 [0, 0, 300] [5, 6, 7, 9, 13, 14, 15, 16, 37, 38, 39] fun _ => seg [(105, .slice ao281 ((dPutL (nn / 32) lq yL).length) c282), (107, .string xk)] [(0, none), (1, none), (2, none), (4, none)] [.e (ν14 0)] trivial fun ac wd hS => ?_
     refine hS.call0 15 #[.slice ao281 ((dPutL (nn / 32) lq yL).length) c282, .string xk] 108 (r22_Get ao281 c282 g283 o284 (dPutL (nn / 32) lq yL) xk _ (hS.mem.get 3 g283 (.fn o284 (o284 + (dPutL (nn / 32) lq yL).length * 2) (itV (gtD (dPutL (nn / 32) lq yL)) o284))) hv285 (by first | assumption | omega | (simp_all; done) | (simp_all; omega))) fun ac wd hS => ?_
     refine hS.opsC 5 [0, 0, 0, 0, 0] [5, 6, 7, 9, 13, 14, 15, 16, 37, 38, 39] fun _ => seg [(17, vu (dGetV (dPutL (nn / 32) lq yL) xk)), (18, vb (dGetB (dPutL (nn / 32) lq yL) xk))] [(0, none), (1, none), (2, none), (3, none)] [] trivial fun ac wd hS => ?_
     refine list_nil_seq ?_
     refine wp_region_seq ?_
     refine hS.opsC 14 [0, 0, fx 0 (vb false), 0, 1, 1, fx 1 (vb false), 60, 0, 1, 1, fx 1 (vb false), 60, 0] [5, 6, 7, 9, 37, 38, 39] fun _ => seg [(124, vb false)] [(0, none), (1, none), (2, none), (3, none)] [.t false, .t false, .p ((vb (!((dGetB (dPutL (nn / 32) lq yL) xk) == (dGetB (dPutL (nn / 32) lq yL) xk))) : Value) = vb false), .t false, .t false, .t false, .t false, .p ((vb (((dGetV (dPutL (nn / 32) lq yL) xk) : Int) != (dGetV (dPutL (nn / 32) lq yL) xk)) : Value) = vb false), .t false, .t false, .p ((vb (((dPutT (nn / 32) lq yL).2 : Int) != ((dPutT (nn / 32) lq yL).2)) : Value) = vb false)] ⟨(congrArg Value.bool (by simp)), (congrArg Value.bool (bne_self_eq_false _)), (congrArg Value.bool (bne_self_eq_false _)), trivial⟩ fun ac wd hS => ?_
     refine hS.opsC 1 [201] [5, 6, 7, 9, 37, 38, 39, 124] fun _ => seg [(125, .agg #[pt b'4 0, vi 40, vi nn])] [(0, none), (1, none), (2, none), (3, none)] [.t false, .e (ν8 0), .e (ν8 0), .e (ν8 0)] trivial fun ac wd hS => ?_
     refine hS.callG false 17 #[.agg #[pt b'4 0, vi 40, vi nn]] (d_All b'4 F74 (dPutM mx 40 nn lq yL) 40 nn (dPutL (nn / 32) lq yL) _ (hS.mem.res 0) (hS.mem.get 0 0 (.fn 0 64 dbT)) (by first | assumption | omega | (simp_all; done) | (simp_all; omega)) (by first | exact hRc | exact i1)) ?_
     rintro _ wd ⟨ao287, c288, g289, o290, rfl, hv291, hog0, hoh0, hF⟩
     have ho92 : g289 = 0 ∨ w.heap.size ≤ g289 := by have := hS.mem.fr.size; have : w.heap.size ≤ _ := this; omega
     refine ⟨.slice ao287 ((dPutL (nn / 32) lq yL).length) c288, rfl, ?_⟩
     replace hS := (hS.to (hS.mem.outs hF [(g289, .fn o290 (o290 + (dPutL (nn / 32) lq yL).length * 2) (itV (gtD (dPutL (nn / 32) lq yL)) o290))] ⟨⟨rfl, hoh0, (fun q_ => q_.elim (fun e => .inl ⟨0, .fn 0 64 dbT, by rw [e]; as_aux_lemma => kernel_rfl, rfl⟩) (fun q_ => .inr q_)) hog0⟩, trivial⟩)).put (d := 126) (v := .slice ao287 ((dPutL (nn / 32) lq yL).length) c288) (by decide)
     clear hF
     refine hS.callG false 9 #[.slice ao287 ((dPutL (nn / 32) lq yL).length) c288] (law22_Of ao287 c288 g289 o290 (dPutL (nn / 32) lq yL) _ (hS.mem.get 0 0 (.fn 0 64 dbT)) (hS.mem.get 4 g289 (.fn o290 (o290 + (dPutL (nn / 32) lq yL).length * 2) (itV (gtD (dPutL (nn / 32) lq yL)) o290))) hv291 (by first | omega | (have := i1.okd.len; omega))) ?_
     rintro _ wd ⟨ao293, c294, g295, o296, rfl, hv297, hog0, hoh0, hF⟩
     have ho98 : g295 = 0 ∨ w.heap.size ≤ g295 := by have := hS.mem.fr.size; have : w.heap.size ≤ _ := this; omega
     refine ⟨.slice ao293 ((dPutL (nn / 32) lq yL).length) c294, rfl, ?_⟩
     replace hS := (hS.to (hS.mem.outs hF [(g295, .fn o296 (o296 + (dPutL (nn / 32) lq yL).length * 2) (itV (gtD (dPutL (nn / 32) lq yL)) o296))] ⟨⟨rfl, hoh0, (fun q_ => q_.elim (fun e => .inl ⟨0, .fn 0 64 dbT, by rw [e]; as_aux_lemma => kernel_rfl, rfl⟩) (fun q_ => .inr q_)) hog0⟩, trivial⟩)).put (d := 127) (v := .slice ao293 ((dPutL (nn / 32) lq yL).length) c294) (by decide)
     clear hF
     refine hS.opsC 1 [1] [5, 6, 7, 9, 37, 38, 39, 124, 127] fun _ => seg [(128, .slice ao281 ((dPutL (nn / 32) lq yL).length) c282)] [(0, none), (1, none), (2, none), (3, none), (5, none)] [.t false] trivial fun ac wd hS => ?_
     refine hS.callG false 16 #[.slice ao293 ((dPutL (nn / 32) lq yL).length) c294, .slice ao281 ((dPutL (nn / 32) lq yL).length) c282] (eq_ritems ao293 c294 g295 o296 (dPutL (nn / 32) lq yL) ao281 c282 g283 o284 _ (hS.mem.get 4 g295 (.fn o296 (o296 + (dPutL (nn / 32) lq yL).length * 2) (itV (gtD (dPutL (nn / 32) lq yL)) o296))) (hS.mem.get 3 g283 (.fn o284 (o284 + (dPutL (nn / 32) lq yL).length * 2) (itV (gtD (dPutL (nn / 32) lq yL)) o284))) hv297 hv285 (by first | omega | (have := i1.okd.len; omega))) ?_
     rintro _ wd ⟨rfl, hF⟩
     refine ⟨vb true, rfl, ?_⟩
     replace hS := (hS.to (hS.mem.keep0 hF)).put (d := 129) (v := vb true) (by decide)
     clear hF
     refine hS.opsC 2 [1, 60] [5, 6, 7, 9, 37, 38, 39] fun _ => seg [(131, vb false)] [(0, none), (1, none), (2, none), (3, none)] [.t false, .t false] trivial fun ac wd hS => ?_
     refine list_nil_seq ?_
     refine hS.condF ?_
     refine wp_skip ?_
     refine pop_block ?_
     refine pop_then ?_
     refine hS.regC [20, 0] [5, 6, 7, 9, 37, 38] fun _ => seg [(39, vi (x39 + 1))] [(0, none), (1, none), (2, none), (3, none)] [.p (fit .i64 (x39 + 1))] ⟨fit_i64 (by omega), trivial⟩ fun ac wd hS => ?_
     replace hS := hS.perm (H' := [(0, .fn 0 64 dbT), (g7, .fn o7 (o7 + l.length * 2) (aDV (gtD l) o7)), ((ν8 0), .cells [pt b'4 0, vi 40, vi nn] 30), (g283, .fn o284 (o284 + (dPutL (nn / 32) lq yL).length * 2) (itV (gtD (dPutL (nn / 32) lq yL)) o284))]) [0, 1, 2, 3] (by as_aux_lemma => kernel_rfl) (by decide)
     exact pop_then (hS.next ((x39 + 1), F74, (dPutM mx 40 nn lq yL), ao281, c282, g283, o284, (dPutL (nn / 32) lq yL)) ⟨(by omega), (by exact hRc), (by exact hv285), trivial⟩ (by dsimp only; omega))
    ·
     refine hS.regS [0, 0] [5, 6, 7, 9, 12, 37, 38, 39] fun _ => seg [(84, vb (((yd % 4) : Int) == 3))] [(0, none), (1, none), (2, none), (3, none), (6, none)] [] trivial fun ac wd hS => ?_
     refine hS.condC (((yd % 4) : Int) == 3) (fun hb99o hb99 => ?_) (fun hb99o hb99 => ?_)
     ·
      refine wp_region_seq ?_
      refine hS.opsC 3 [200, 0, 400] [5, 6, 7, 9, 12, 37, 38, 39] fun _ => seg [(86, .agg #[pt b'4 0, vi 40, vi nn]), (88, .string xk)] [(0, none), (1, none), (2, none), (3, none), (4, none)] [.e (ν14 0), .e (ν8 0), .e (ν8 0), .e (ν8 0)] trivial fun ac wd hS => ?_
      refine hS.callC 10 #[.agg #[pt b'4 0, vi 40, vi nn], .string xk] (d_Drop b'4 Fx mx 40 nn xk lq _ (hS.mem.res 0) (hS.mem.get 0 0 (.fn 0 64 dbT)) (hS.mem.nF (g := 0) (r := arR b'4 Fx mx) 0 0) (by first | assumption | omega | (simp_all; done) | (simp_all; omega)) (by exact i1)) ?_
      rintro _ wd ⟨F100, rfl, hA, hF⟩
      refine ⟨vi (dDroE lq xk), rfl, ?_⟩
      replace hS := (hS.to (hS.mem.stepA 0 rfl hA hF)).put (d := 89) (v := vi (dDroE lq xk)) (by decide)
      clear hF
      refine hS.opsC 1 [0] [5, 6, 7, 9, 12, 37, 38, 39] fun _ => seg [(13, vi (dDroE lq xk))] [(0, none), (1, none), (2, none), (3, none), (4, none)] [] trivial fun ac wd hS => ?_
      refine list_nil_seq ?_
      refine wp_region_lit ?_
      refine hS.opsC 3 [0, 0, 400] [5, 6, 7, 9, 12, 13, 37, 38, 39] fun _ => seg [(91, .slice aoq lq.length cq), (93, .string xk)] [(0, none), (1, none), (2, none), (3, none), (4, none)] [.e (ν14 0)] trivial fun ac wd hS => ?_
      refine hS.callC 11 #[.slice aoq lq.length cq, .string xk] (r22_Drop aoq cq gq oq lq xk (nn / 32) _ (hS.mem.get 0 0 (.fn 0 64 dbT)) (hS.mem.get 3 gq (.fn oq (oq + lq.length * 2) (itV (gtD lq) oq))) hvq (by first | assumption | omega | (simp_all; done) | (simp_all; omega)) (by exact i1.okd)) ?_
      rintro _ wd ⟨ao2101, c2102, g2103, o2104, rfl, hv2105, hog0, hoh0, hF⟩
      have ho106 : g2103 = gq ∨ g2103 = 0 ∨ w.heap.size ≤ g2103 := by have := hS.mem.fr.size; have : w.heap.size ≤ _ := this; omega
      refine ⟨.tuple #[.slice ao2101 ((dDroL lq xk).length) c2102, vi (dDroE lq xk)], rfl, ?_⟩
      replace hS := (hS.to (hS.mem.outs hF [(g2103, .fn o2104 (o2104 + (dDroL lq xk).length * 2) (itV (gtD (dDroL lq xk)) o2104))] ⟨⟨rfl, hoh0, (fun q_ => q_.elim (fun e => .inl ⟨3, .fn oq (oq + lq.length * 2) (itV (gtD lq) oq), by rw [e]; as_aux_lemma => kernel_rfl, rfl⟩) (fun q_ => q_.elim (fun e => .inl ⟨0, .fn 0 64 dbT, by rw [e]; as_aux_lemma => kernel_rfl, rfl⟩) (fun q_ => .inr q_))) hog0⟩, trivial⟩)).put (d := 94) (v := .tuple #[.slice ao2101 ((dDroL lq xk).length) c2102, vi (dDroE lq xk)]) (by decide)
      clear hF
      refine hS.opsC 5 [0, 0, 0, 0, 0] [5, 6, 7, 12, 13, 37, 38, 39] fun _ => seg [(9, .slice ao2101 ((dDroL lq xk).length) c2102), (14, vi (dDroE lq xk))] [(0, none), (1, none), (2, none), (4, none), (5, none)] [] trivial fun ac wd hS => ?_
      refine list_nil ?_
      refine pop_block ?_
      refine pop_then ?_
      have hRc : DtR (dDroM mx 40 nn lq xk) 40 nn (dDroL lq xk) := by first | exact i1.put hyr | exact i1.drop xk | exact i1.put hxr
      have hrl := hRc.okd.len
      refine wp_region_seq ?_
      refine hS.opsC 3 [200, 0, 300] [5, 6, 7, 9, 12, 13, 14, 37, 38, 39] fun _ => seg [(98, .agg #[pt b'4 0, vi 40, vi nn]), (100, .string xk)] [(0, none), (1, none), (2, none), (3, none), (4, none)] [.e (ν14 0), .e (ν8 0), .e (ν8 0), .e (ν8 0)] trivial fun ac wd hS => ?_
      refine hS.call0 14 #[.agg #[pt b'4 0, vi 40, vi nn], .string xk] 101 (d_Get b'4 F100 (dDroM mx 40 nn lq xk) 40 nn xk (dDroL lq xk) _ (hS.mem.res 0) (hS.mem.get 0 0 (.fn 0 64 dbT)) (by first | assumption | omega | (simp_all; done) | (simp_all; omega)) (by exact hRc)) fun ac wd hS => ?_
      refine hS.opsC 5 [0, 0, 0, 0, 0] [5, 6, 7, 9, 12, 13, 14, 37, 38, 39] fun _ => seg [(15, vu (dGetV (dDroL lq xk) xk)), (16, vb (dGetB (dDroL lq xk) xk))] [(0, none), (1, none), (2, none), (3, none), (4, none)] [] trivial fun ac wd hS => ?_
      refine list_nil_seq ?_
      refine wp_region_seq ?_
      refine hS.opsC 3 [0, 0, 300] [5, 6, 7, 9, 13, 14, 15, 16, 37, 38, 39] fun _ => seg [(105, .slice ao2101 ((dDroL lq xk).length) c2102), (107, .string xk)] [(0, none), (1, none), (2, none), (4, none)] [.e (ν14 0)] trivial fun ac wd hS => ?_
      refine hS.call0 15 #[.slice ao2101 ((dDroL lq xk).length) c2102, .string xk] 108 (r22_Get ao2101 c2102 g2103 o2104 (dDroL lq xk) xk _ (hS.mem.get 3 g2103 (.fn o2104 (o2104 + (dDroL lq xk).length * 2) (itV (gtD (dDroL lq xk)) o2104))) hv2105 (by first | assumption | omega | (simp_all; done) | (simp_all; omega))) fun ac wd hS => ?_
      refine hS.opsC 5 [0, 0, 0, 0, 0] [5, 6, 7, 9, 13, 14, 15, 16, 37, 38, 39] fun _ => seg [(17, vu (dGetV (dDroL lq xk) xk)), (18, vb (dGetB (dDroL lq xk) xk))] [(0, none), (1, none), (2, none), (3, none)] [] trivial fun ac wd hS => ?_
      refine list_nil_seq ?_
      refine wp_region_seq ?_
      refine hS.opsC 14 [0, 0, fx 0 (vb false), 0, 1, 1, fx 1 (vb false), 60, 0, 1, 1, fx 1 (vb false), 60, 0] [5, 6, 7, 9, 37, 38, 39] fun _ => seg [(124, vb false)] [(0, none), (1, none), (2, none), (3, none)] [.t false, .t false, .p ((vb (!((dGetB (dDroL lq xk) xk) == (dGetB (dDroL lq xk) xk))) : Value) = vb false), .t false, .t false, .t false, .t false, .p ((vb (((dGetV (dDroL lq xk) xk) : Int) != (dGetV (dDroL lq xk) xk)) : Value) = vb false), .t false, .t false, .p ((vb (((dDroE lq xk) : Int) != (dDroE lq xk)) : Value) = vb false)] ⟨(congrArg Value.bool (by simp)), (congrArg Value.bool (bne_self_eq_false _)), (congrArg Value.bool (bne_self_eq_false _)), trivial⟩ fun ac wd hS => ?_
      refine hS.opsC 1 [201] [5, 6, 7, 9, 37, 38, 39, 124] fun _ => seg [(125, .agg #[pt b'4 0, vi 40, vi nn])] [(0, none), (1, none), (2, none), (3, none)] [.t false, .e (ν8 0), .e (ν8 0), .e (ν8 0)] trivial fun ac wd hS => ?_
      refine hS.callG false 17 #[.agg #[pt b'4 0, vi 40, vi nn]] (d_All b'4 F100 (dDroM mx 40 nn lq xk) 40 nn (dDroL lq xk) _ (hS.mem.res 0) (hS.mem.get 0 0 (.fn 0 64 dbT)) (by first | assumption | omega | (simp_all; done) | (simp_all; omega)) (by first | exact hRc | exact i1)) ?_
      rintro _ wd ⟨ao2107, c2108, g2109, o2110, rfl, hv2111, hog0, hoh0, hF⟩
      have ho112 : g2109 = 0 ∨ w.heap.size ≤ g2109 := by have := hS.mem.fr.size; have : w.heap.size ≤ _ := this; omega
      refine ⟨.slice ao2107 ((dDroL lq xk).length) c2108, rfl, ?_⟩
      replace hS := (hS.to (hS.mem.outs hF [(g2109, .fn o2110 (o2110 + (dDroL lq xk).length * 2) (itV (gtD (dDroL lq xk)) o2110))] ⟨⟨rfl, hoh0, (fun q_ => q_.elim (fun e => .inl ⟨0, .fn 0 64 dbT, by rw [e]; as_aux_lemma => kernel_rfl, rfl⟩) (fun q_ => .inr q_)) hog0⟩, trivial⟩)).put (d := 126) (v := .slice ao2107 ((dDroL lq xk).length) c2108) (by decide)
      clear hF
      refine hS.callG false 9 #[.slice ao2107 ((dDroL lq xk).length) c2108] (law22_Of ao2107 c2108 g2109 o2110 (dDroL lq xk) _ (hS.mem.get 0 0 (.fn 0 64 dbT)) (hS.mem.get 4 g2109 (.fn o2110 (o2110 + (dDroL lq xk).length * 2) (itV (gtD (dDroL lq xk)) o2110))) hv2111 (by first | omega | (have := i1.okd.len; omega))) ?_
      rintro _ wd ⟨ao2113, c2114, g2115, o2116, rfl, hv2117, hog0, hoh0, hF⟩
      have ho118 : g2115 = 0 ∨ w.heap.size ≤ g2115 := by have := hS.mem.fr.size; have : w.heap.size ≤ _ := this; omega
      refine ⟨.slice ao2113 ((dDroL lq xk).length) c2114, rfl, ?_⟩
      replace hS := (hS.to (hS.mem.outs hF [(g2115, .fn o2116 (o2116 + (dDroL lq xk).length * 2) (itV (gtD (dDroL lq xk)) o2116))] ⟨⟨rfl, hoh0, (fun q_ => q_.elim (fun e => .inl ⟨0, .fn 0 64 dbT, by rw [e]; as_aux_lemma => kernel_rfl, rfl⟩) (fun q_ => .inr q_)) hog0⟩, trivial⟩)).put (d := 127) (v := .slice ao2113 ((dDroL lq xk).length) c2114) (by decide)
      clear hF
      refine hS.opsC 1 [1] [5, 6, 7, 9, 37, 38, 39, 124, 127] fun _ => seg [(128, .slice ao2101 ((dDroL lq xk).length) c2102)] [(0, none), (1, none), (2, none), (3, none), (5, none)] [.t false] trivial fun ac wd hS => ?_
      refine hS.callG false 16 #[.slice ao2113 ((dDroL lq xk).length) c2114, .slice ao2101 ((dDroL lq xk).length) c2102] (eq_ritems ao2113 c2114 g2115 o2116 (dDroL lq xk) ao2101 c2102 g2103 o2104 _ (hS.mem.get 4 g2115 (.fn o2116 (o2116 + (dDroL lq xk).length * 2) (itV (gtD (dDroL lq xk)) o2116))) (hS.mem.get 3 g2103 (.fn o2104 (o2104 + (dDroL lq xk).length * 2) (itV (gtD (dDroL lq xk)) o2104))) hv2117 hv2105 (by first | omega | (have := i1.okd.len; omega))) ?_
      rintro _ wd ⟨rfl, hF⟩
      refine ⟨vb true, rfl, ?_⟩
      replace hS := (hS.to (hS.mem.keep0 hF)).put (d := 129) (v := vb true) (by decide)
      clear hF
      refine hS.opsC 2 [1, 60] [5, 6, 7, 9, 37, 38, 39] fun _ => seg [(131, vb false)] [(0, none), (1, none), (2, none), (3, none)] [.t false, .t false] trivial fun ac wd hS => ?_
      refine list_nil_seq ?_
      refine hS.condF ?_
      refine wp_skip ?_
      refine pop_block ?_
      refine pop_then ?_
      refine hS.regC [20, 0] [5, 6, 7, 9, 37, 38] fun _ => seg [(39, vi (x39 + 1))] [(0, none), (1, none), (2, none), (3, none)] [.p (fit .i64 (x39 + 1))] ⟨fit_i64 (by omega), trivial⟩ fun ac wd hS => ?_
      replace hS := hS.perm (H' := [(0, .fn 0 64 dbT), (g7, .fn o7 (o7 + l.length * 2) (aDV (gtD l) o7)), ((ν8 0), .cells [pt b'4 0, vi 40, vi nn] 30), (g2103, .fn o2104 (o2104 + (dDroL lq xk).length * 2) (itV (gtD (dDroL lq xk)) o2104))]) [0, 1, 2, 3] (by as_aux_lemma => kernel_rfl) (by decide)
      exact pop_then (hS.next ((x39 + 1), F100, (dDroM mx 40 nn lq xk), ao2101, c2102, g2103, o2104, (dDroL lq xk)) ⟨(by omega), (by exact hRc), (by exact hv2105), trivial⟩ (by dsimp only; omega))
     ·
      refine wp_region_seq ?_
      refine hS.opsC 5 [200, 0, 400, 0, 400] [5, 6, 7, 9, 12, 37, 38, 39] fun _ => seg [(54, .agg #[pt b'4 0, vi 40, vi nn]), (56, .string xk), (58, vu xn)] [(0, none), (1, none), (2, none), (3, none), (4, none)] [.e (ν14 0), .e (ν14 0), .e (ν8 0), .e (ν8 0), .e (ν8 0)] trivial fun ac wd hS => ?_
      refine hS.callC 12 #[.agg #[pt b'4 0, vi 40, vi nn], .string xk, vu xn] (d_Set b'4 Fx mx 40 nn xk xn lq _ (hS.mem.res 0) (hS.mem.get 0 0 (.fn 0 64 dbT)) (hS.mem.nF (g := 0) (r := arR b'4 Fx mx) 0 0) (by first | assumption | omega | (simp_all; done) | (simp_all; omega)) (by exact i1)) ?_
      rintro _ wd ⟨F119, rfl, hA, hF⟩
      refine ⟨vi ((dPutT (nn / 32) lq [(xk, xn)]).2), rfl, ?_⟩
      replace hS := (hS.to (hS.mem.stepA 0 rfl hA hF)).put (d := 59) (v := vi ((dPutT (nn / 32) lq [(xk, xn)]).2)) (by decide)
      clear hF
      refine hS.opsC 1 [0] [5, 6, 7, 9, 12, 37, 38, 39] fun _ => seg [(13, vi ((dPutT (nn / 32) lq [(xk, xn)]).2))] [(0, none), (1, none), (2, none), (3, none), (4, none)] [] trivial fun ac wd hS => ?_
      refine list_nil_seq ?_
      refine wp_region_lit ?_
      refine hS.opsC 4 [0, 0, 20, 400] [5, 6, 7, 9, 12, 13, 37, 38, 39] fun _ => seg [(61, .slice aoq lq.length cq), (63, vi (nn / 32)), (64, .agg #[.string xk, vu xn])] [(0, none), (1, none), (2, none), (3, none), (4, none)] [.e (ν14 0), .e (ν14 0), .p ((32 : Int) ≠ 0 ∧ IntKind.i64.wrap (Int.tdiv nn 32) = nn / 32)] ⟨quo2 (by omega) (by omega) (by omega), trivial⟩ fun ac wd hS => ?_
      refine hS.callC 13 #[.slice aoq lq.length cq, vi (nn / 32), .agg #[.string xk, vu xn]] (r22_Set aoq cq gq oq lq (nn / 32) xk xn _ (hS.mem.get 0 0 (.fn 0 64 dbT)) (hS.mem.get 3 gq (.fn oq (oq + lq.length * 2) (itV (gtD lq) oq))) hvq (by first | assumption | omega | (simp_all; done) | (simp_all; omega)) (by exact i1.okd)) ?_
      rintro _ wd ⟨ao2120, c2121, g2122, o2123, rfl, hv2124, hog0, hoh0, hF⟩
      have ho125 : g2122 = gq ∨ g2122 = 0 ∨ w.heap.size ≤ g2122 := by have := hS.mem.fr.size; have : w.heap.size ≤ _ := this; omega
      refine ⟨.tuple #[.slice ao2120 ((dPutL (nn / 32) lq [(xk, xn)]).length) c2121, vi ((dPutT (nn / 32) lq [(xk, xn)]).2)], rfl, ?_⟩
      replace hS := (hS.to (hS.mem.outs hF [(g2122, .fn o2123 (o2123 + (dPutL (nn / 32) lq [(xk, xn)]).length * 2) (itV (gtD (dPutL (nn / 32) lq [(xk, xn)])) o2123))] ⟨⟨rfl, hoh0, (fun q_ => q_.elim (fun e => .inl ⟨3, .fn oq (oq + lq.length * 2) (itV (gtD lq) oq), by rw [e]; as_aux_lemma => kernel_rfl, rfl⟩) (fun q_ => q_.elim (fun e => .inl ⟨0, .fn 0 64 dbT, by rw [e]; as_aux_lemma => kernel_rfl, rfl⟩) (fun q_ => .inr q_))) hog0⟩, trivial⟩)).put (d := 65) (v := .tuple #[.slice ao2120 ((dPutL (nn / 32) lq [(xk, xn)]).length) c2121, vi ((dPutT (nn / 32) lq [(xk, xn)]).2)]) (by decide)
      clear hF
      refine hS.opsC 5 [0, 0, 0, 0, 0] [5, 6, 7, 12, 13, 37, 38, 39] fun _ => seg [(9, .slice ao2120 ((dPutL (nn / 32) lq [(xk, xn)]).length) c2121), (14, vi ((dPutT (nn / 32) lq [(xk, xn)]).2))] [(0, none), (1, none), (2, none), (4, none), (5, none)] [] trivial fun ac wd hS => ?_
      refine list_nil ?_
      refine pop_block ?_
      refine pop_then ?_
      have hRc : DtR (dPutM mx 40 nn lq [(xk, xn)]) 40 nn (dPutL (nn / 32) lq [(xk, xn)]) := by first | exact i1.put hyr | exact i1.drop xk | exact i1.put hxr
      have hrl := hRc.okd.len
      refine wp_region_seq ?_
      refine hS.opsC 3 [200, 0, 300] [5, 6, 7, 9, 12, 13, 14, 37, 38, 39] fun _ => seg [(98, .agg #[pt b'4 0, vi 40, vi nn]), (100, .string xk)] [(0, none), (1, none), (2, none), (3, none), (4, none)] [.e (ν14 0), .e (ν8 0), .e (ν8 0), .e (ν8 0)] trivial fun ac wd hS => ?_
      refine hS.call0 14 #[.agg #[pt b'4 0, vi 40, vi nn], .string xk] 101 (d_Get b'4 F119 (dPutM mx 40 nn lq [(xk, xn)]) 40 nn xk (dPutL (nn / 32) lq [(xk, xn)]) _ (hS.mem.res 0) (hS.mem.get 0 0 (.fn 0 64 dbT)) (by first | assumption | omega | (simp_all; done) | (simp_all; omega)) (by exact hRc)) fun ac wd hS => ?_
      refine hS.opsC 5 [0, 0, 0, 0, 0] [5, 6, 7, 9, 12, 13, 14, 37, 38, 39] fun _ => seg [(15, vu (dGetV (dPutL (nn / 32) lq [(xk, xn)]) xk)), (16, vb (dGetB (dPutL (nn / 32) lq [(xk, xn)]) xk))] [(0, none), (1, none), (2, none), (3, none), (4, none)] [] trivial fun ac wd hS => ?_
      refine list_nil_seq ?_
      refine wp_region_seq ?_
      refine hS.opsC 3 [0, 0, 300] [5, 6, 7, 9, 13, 14, 15, 16, 37, 38, 39] fun _ => seg [(105, .slice ao2120 ((dPutL (nn / 32) lq [(xk, xn)]).length) c2121), (107, .string xk)] [(0, none), (1, none), (2, none), (4, none)] [.e (ν14 0)] trivial fun ac wd hS => ?_
      refine hS.call0 15 #[.slice ao2120 ((dPutL (nn / 32) lq [(xk, xn)]).length) c2121, .string xk] 108 (r22_Get ao2120 c2121 g2122 o2123 (dPutL (nn / 32) lq [(xk, xn)]) xk _ (hS.mem.get 3 g2122 (.fn o2123 (o2123 + (dPutL (nn / 32) lq [(xk, xn)]).length * 2) (itV (gtD (dPutL (nn / 32) lq [(xk, xn)])) o2123))) hv2124 (by first | assumption | omega | (simp_all; done) | (simp_all; omega))) fun ac wd hS => ?_
      refine hS.opsC 5 [0, 0, 0, 0, 0] [5, 6, 7, 9, 13, 14, 15, 16, 37, 38, 39] fun _ => seg [(17, vu (dGetV (dPutL (nn / 32) lq [(xk, xn)]) xk)), (18, vb (dGetB (dPutL (nn / 32) lq [(xk, xn)]) xk))] [(0, none), (1, none), (2, none), (3, none)] [] trivial fun ac wd hS => ?_
      refine list_nil_seq ?_
      refine wp_region_seq ?_
      refine hS.opsC 14 [0, 0, fx 0 (vb false), 0, 1, 1, fx 1 (vb false), 60, 0, 1, 1, fx 1 (vb false), 60, 0] [5, 6, 7, 9, 37, 38, 39] fun _ => seg [(124, vb false)] [(0, none), (1, none), (2, none), (3, none)] [.t false, .t false, .p ((vb (!((dGetB (dPutL (nn / 32) lq [(xk, xn)]) xk) == (dGetB (dPutL (nn / 32) lq [(xk, xn)]) xk))) : Value) = vb false), .t false, .t false, .t false, .t false, .p ((vb (((dGetV (dPutL (nn / 32) lq [(xk, xn)]) xk) : Int) != (dGetV (dPutL (nn / 32) lq [(xk, xn)]) xk)) : Value) = vb false), .t false, .t false, .p ((vb (((dPutT (nn / 32) lq [(xk, xn)]).2 : Int) != ((dPutT (nn / 32) lq [(xk, xn)]).2)) : Value) = vb false)] ⟨(congrArg Value.bool (by simp)), (congrArg Value.bool (bne_self_eq_false _)), (congrArg Value.bool (bne_self_eq_false _)), trivial⟩ fun ac wd hS => ?_
      refine hS.opsC 1 [201] [5, 6, 7, 9, 37, 38, 39, 124] fun _ => seg [(125, .agg #[pt b'4 0, vi 40, vi nn])] [(0, none), (1, none), (2, none), (3, none)] [.t false, .e (ν8 0), .e (ν8 0), .e (ν8 0)] trivial fun ac wd hS => ?_
      refine hS.callG false 17 #[.agg #[pt b'4 0, vi 40, vi nn]] (d_All b'4 F119 (dPutM mx 40 nn lq [(xk, xn)]) 40 nn (dPutL (nn / 32) lq [(xk, xn)]) _ (hS.mem.res 0) (hS.mem.get 0 0 (.fn 0 64 dbT)) (by first | assumption | omega | (simp_all; done) | (simp_all; omega)) (by first | exact hRc | exact i1)) ?_
      rintro _ wd ⟨ao2126, c2127, g2128, o2129, rfl, hv2130, hog0, hoh0, hF⟩
      have ho131 : g2128 = 0 ∨ w.heap.size ≤ g2128 := by have := hS.mem.fr.size; have : w.heap.size ≤ _ := this; omega
      refine ⟨.slice ao2126 ((dPutL (nn / 32) lq [(xk, xn)]).length) c2127, rfl, ?_⟩
      replace hS := (hS.to (hS.mem.outs hF [(g2128, .fn o2129 (o2129 + (dPutL (nn / 32) lq [(xk, xn)]).length * 2) (itV (gtD (dPutL (nn / 32) lq [(xk, xn)])) o2129))] ⟨⟨rfl, hoh0, (fun q_ => q_.elim (fun e => .inl ⟨0, .fn 0 64 dbT, by rw [e]; as_aux_lemma => kernel_rfl, rfl⟩) (fun q_ => .inr q_)) hog0⟩, trivial⟩)).put (d := 126) (v := .slice ao2126 ((dPutL (nn / 32) lq [(xk, xn)]).length) c2127) (by decide)
      clear hF
      refine hS.callG false 9 #[.slice ao2126 ((dPutL (nn / 32) lq [(xk, xn)]).length) c2127] (law22_Of ao2126 c2127 g2128 o2129 (dPutL (nn / 32) lq [(xk, xn)]) _ (hS.mem.get 0 0 (.fn 0 64 dbT)) (hS.mem.get 4 g2128 (.fn o2129 (o2129 + (dPutL (nn / 32) lq [(xk, xn)]).length * 2) (itV (gtD (dPutL (nn / 32) lq [(xk, xn)])) o2129))) hv2130 (by first | omega | (have := i1.okd.len; omega))) ?_
      rintro _ wd ⟨ao2132, c2133, g2134, o2135, rfl, hv2136, hog0, hoh0, hF⟩
      have ho137 : g2134 = 0 ∨ w.heap.size ≤ g2134 := by have := hS.mem.fr.size; have : w.heap.size ≤ _ := this; omega
      refine ⟨.slice ao2132 ((dPutL (nn / 32) lq [(xk, xn)]).length) c2133, rfl, ?_⟩
      replace hS := (hS.to (hS.mem.outs hF [(g2134, .fn o2135 (o2135 + (dPutL (nn / 32) lq [(xk, xn)]).length * 2) (itV (gtD (dPutL (nn / 32) lq [(xk, xn)])) o2135))] ⟨⟨rfl, hoh0, (fun q_ => q_.elim (fun e => .inl ⟨0, .fn 0 64 dbT, by rw [e]; as_aux_lemma => kernel_rfl, rfl⟩) (fun q_ => .inr q_)) hog0⟩, trivial⟩)).put (d := 127) (v := .slice ao2132 ((dPutL (nn / 32) lq [(xk, xn)]).length) c2133) (by decide)
      clear hF
      refine hS.opsC 1 [1] [5, 6, 7, 9, 37, 38, 39, 124, 127] fun _ => seg [(128, .slice ao2120 ((dPutL (nn / 32) lq [(xk, xn)]).length) c2121)] [(0, none), (1, none), (2, none), (3, none), (5, none)] [.t false] trivial fun ac wd hS => ?_
      refine hS.callG false 16 #[.slice ao2132 ((dPutL (nn / 32) lq [(xk, xn)]).length) c2133, .slice ao2120 ((dPutL (nn / 32) lq [(xk, xn)]).length) c2121] (eq_ritems ao2132 c2133 g2134 o2135 (dPutL (nn / 32) lq [(xk, xn)]) ao2120 c2121 g2122 o2123 _ (hS.mem.get 4 g2134 (.fn o2135 (o2135 + (dPutL (nn / 32) lq [(xk, xn)]).length * 2) (itV (gtD (dPutL (nn / 32) lq [(xk, xn)])) o2135))) (hS.mem.get 3 g2122 (.fn o2123 (o2123 + (dPutL (nn / 32) lq [(xk, xn)]).length * 2) (itV (gtD (dPutL (nn / 32) lq [(xk, xn)])) o2123))) hv2136 hv2124 (by first | omega | (have := i1.okd.len; omega))) ?_
      rintro _ wd ⟨rfl, hF⟩
      refine ⟨vb true, rfl, ?_⟩
      replace hS := (hS.to (hS.mem.keep0 hF)).put (d := 129) (v := vb true) (by decide)
      clear hF
      refine hS.opsC 2 [1, 60] [5, 6, 7, 9, 37, 38, 39] fun _ => seg [(131, vb false)] [(0, none), (1, none), (2, none), (3, none)] [.t false, .t false] trivial fun ac wd hS => ?_
      refine list_nil_seq ?_
      refine hS.condF ?_
      refine wp_skip ?_
      refine pop_block ?_
      refine pop_then ?_
      refine hS.regC [20, 0] [5, 6, 7, 9, 37, 38] fun _ => seg [(39, vi (x39 + 1))] [(0, none), (1, none), (2, none), (3, none)] [.p (fit .i64 (x39 + 1))] ⟨fit_i64 (by omega), trivial⟩ fun ac wd hS => ?_
      replace hS := hS.perm (H' := [(0, .fn 0 64 dbT), (g7, .fn o7 (o7 + l.length * 2) (aDV (gtD l) o7)), ((ν8 0), .cells [pt b'4 0, vi 40, vi nn] 30), (g2122, .fn o2123 (o2123 + (dPutL (nn / 32) lq [(xk, xn)]).length * 2) (itV (gtD (dPutL (nn / 32) lq [(xk, xn)])) o2123))]) [0, 1, 2, 3] (by as_aux_lemma => kernel_rfl) (by decide)
      exact pop_then (hS.next ((x39 + 1), F119, (dPutM mx 40 nn lq [(xk, xn)]), ao2120, c2121, g2122, o2123, (dPutL (nn / 32) lq [(xk, xn)])) ⟨(by omega), (by exact hRc), (by exact hv2124), trivial⟩ (by dsimp only; omega))
  ·
   refine wp_exit ?_
   refine pop_then_exit ?_
   refine pop_then_exit ?_
   refine pop_block_hit ?_
   refine pop_then ?_
   refine wp_region_seq ?_
   refine hS.opsC 1 [0] [5, 9] fun _ => seg [(134, pt b'4 0)] [(0, none), (3, none)] [] trivial fun ac wd hS => ?_
   refine hS.callC 19 #[pt b'4 0] (ar_Clone b'4 Fx mx _ (hS.mem.res 0) ) ?_
   rintro _ wd ⟨b'138, F139, rfl, hN, hF⟩
   refine ⟨pt b'138 0, rfl, ?_⟩
   replace hS := (hS.to (hS.mem.stepA 0 (r' := arR b'138 F139 mx) rfl hN hF)).put (d := 135) (v := pt b'138 0) (by decide)
   clear hF
   refine hS.opsC 1 [0] [9, 135] fun _ => seg [(136, vi nn)] [(0, none), (1, none)] [] trivial fun ac wd hS => ?_
   refine hS.call0 18 #[pt b'138 0, vi 40, vi nn] 137 (vw_Of b'138 F139 mx 40 nn _ (hS.mem.res 0) (by exact i1.there)) fun ac wd hS => ?_
   refine hS.opsC 6 [0, 0, 0, 0, 200, 0] [9] fun ν107 => seg [(19, pt (ν107 0) 0), (20, vi 0)] [(0, none), (1, none), (2, some ((ν107 0), .cells [pt b'138 0, vi 40, vi nn] 28))] [.e (ν107 0), .e (ν107 0), .e (ν107 0)] trivial fun ac wd hS => ?_
   refine list_nil_seq ?_
   refine wp_region_seq ?_
   refine hS.opsC 3 [0, 0, 0] [9, 19] fun _ => seg [(142, vb true)] [(0, none), (1, none), (2, none)] [] trivial fun ac wd hS => ?_
   refine hS.opsC 1 [201] [9, 142] fun _ => seg [(143, .agg #[pt b'138 0, vi 40, vi nn])] [(0, none), (1, none)] [.t true, .e (ν107 0), .e (ν107 0), .e (ν107 0)] trivial fun ac wd hS => ?_
   refine hS.callG true 20 #[.agg #[pt b'138 0, vi 40, vi nn]] (d_Open b'138 40 nn _  ) ?_
   rintro _ wd ⟨rfl, hF⟩
   refine ⟨.agg #[pt b'138 0, vi 40, vi nn], rfl, ?_⟩
   replace hS := (hS.to (hS.mem.keep0 hF)).put (d := 144) (v := .agg #[pt b'138 0, vi 40, vi nn]) (by decide)
   clear hF
   refine hS.callG true 17 #[.agg #[pt b'138 0, vi 40, vi nn]] (d_All b'138 F139 mx 40 nn lq _ (hS.mem.res 0) (hS.mem.get 0 0 (.fn 0 64 dbT)) (by first | assumption | omega | (simp_all; done) | (simp_all; omega)) (by first | exact hRc | exact i1)) ?_
   rintro _ wd ⟨ao2140, c2141, g2142, o2143, rfl, hv2144, hog0, hoh0, hF⟩
   have ho145 : g2142 = 0 ∨ w.heap.size ≤ g2142 := by have := hS.mem.fr.size; have : w.heap.size ≤ _ := this; omega
   refine ⟨.slice ao2140 lq.length c2141, rfl, ?_⟩
   replace hS := (hS.to (hS.mem.outs hF [(g2142, .fn o2143 (o2143 + lq.length * 2) (itV (gtD lq) o2143))] ⟨⟨rfl, hoh0, (fun q_ => q_.elim (fun e => .inl ⟨0, .fn 0 64 dbT, by rw [e]; as_aux_lemma => kernel_rfl, rfl⟩) (fun q_ => .inr q_)) hog0⟩, trivial⟩)).put (d := 145) (v := .slice ao2140 lq.length c2141) (by decide)
   clear hF
   refine hS.callG true 9 #[.slice ao2140 lq.length c2141] (law22_Of ao2140 c2141 g2142 o2143 lq _ (hS.mem.get 0 0 (.fn 0 64 dbT)) (hS.mem.get 2 g2142 (.fn o2143 (o2143 + lq.length * 2) (itV (gtD lq) o2143))) hv2144 (by first | omega | (have := i1.okd.len; omega))) ?_
   rintro _ wd ⟨ao2146, c2147, g2148, o2149, rfl, hv2150, hog0, hoh0, hF⟩
   have ho151 : g2148 = 0 ∨ w.heap.size ≤ g2148 := by have := hS.mem.fr.size; have : w.heap.size ≤ _ := this; omega
   refine ⟨.slice ao2146 lq.length c2147, rfl, ?_⟩
   replace hS := (hS.to (hS.mem.outs hF [(g2148, .fn o2149 (o2149 + lq.length * 2) (itV (gtD lq) o2149))] ⟨⟨rfl, hoh0, (fun q_ => q_.elim (fun e => .inl ⟨0, .fn 0 64 dbT, by rw [e]; as_aux_lemma => kernel_rfl, rfl⟩) (fun q_ => .inr q_)) hog0⟩, trivial⟩)).put (d := 146) (v := .slice ao2146 lq.length c2147) (by decide)
   clear hF
   refine hS.opsC 1 [1] [142, 146] fun _ => seg [(147, .slice aoq lq.length cq)] [(0, none), (1, none), (3, none)] [.t true] trivial fun ac wd hS => ?_
   refine hS.callG true 16 #[.slice ao2146 lq.length c2147, .slice aoq lq.length cq] (eq_ritems ao2146 c2147 g2148 o2149 lq aoq cq gq oq _ (hS.mem.get 2 g2148 (.fn o2149 (o2149 + lq.length * 2) (itV (gtD lq) o2149))) (hS.mem.get 1 gq (.fn oq (oq + lq.length * 2) (itV (gtD lq) oq))) hv2150 hvq (by first | omega | (have := i1.okd.len; omega))) ?_
   rintro _ wd ⟨rfl, hF⟩
   refine ⟨vb true, rfl, ?_⟩
   replace hS := (hS.to (hS.mem.keep0 hF)).put (d := 148) (v := vb true) (by decide)
   clear hF
   refine hS.opsC 2 [70, 0] [] fun _ => seg [(4, vb true)] [(0, none)] [.t true] trivial fun ac wd hS => ?_
   refine list_nil_seq ?_
   refine wp_ret ?_
   refine St.retC 0 hS (vb true) [] trivial fun hw => ?_
   refine ⟨retd rfl, hw.fr0⟩

end Go.Proofs.YtnbkafnikpbmbaaGreatDoor.K
