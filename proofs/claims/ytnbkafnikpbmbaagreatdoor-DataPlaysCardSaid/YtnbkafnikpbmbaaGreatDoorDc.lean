/-
  Walks, printed by w2.py.
-/
import Derived.Test.YtnbkafnikpbmbaaGreatDoorDb
import Derived.Test.YtnbkafnikpbmbaaGreatDoorYf
import Derived.Test.YtnbkafnikpbmbaaGreatDoorProg
namespace Go.Proofs.YtnbkafnikpbmbaaGreatDoor.K
set_option linter.unusedVariables false
set_option linter.unusedSimpArgs false

set_option maxRecDepth 100000 in
set_option maxHeartbeats 1000000 in
theorem d_slots (b : Nat) (o_ : Int) (z : Int) (w : World) (ho : 0 ≤ o_ ∧ 0 ≤ z ∧ o_ + z ≤ 4294967296) :
    Calls Tryz.prog 29 #[.agg #[pt b 0, vi o_, vi z]] w fun e w' => e = .returned (vi (z / 32)) ∧ Fr w w' no no := by
 refine enter (args := [.agg #[pt b 0, vi o_, vi z]]) (D := no) (A := []) Tryz.func29 rfl 7 rfl [] (WS.startL trivial) fun ac hS => ?_
 refine hS.regS [0, 0] [] fun ν1 => seg [(1, pt (ν1 0) 0)] [(0, some ((ν1 0), .cells [pt b 0, vi o_, vi z] 30))] [] trivial fun ac wd hS => ?_
 refine wp_region_seq ?_
 refine hS.opsC 2 [0, 0] [] fun _ => seg [(4, .agg #[pt b 0, vi o_, vi z])] [] [.e (ν1 0), .e (ν1 0), .e (ν1 0)] trivial fun ac wd hS => ?_
 refine hS.call0 43 #[.agg #[pt b 0, vi o_, vi z]] 5 (vw_Size b o_ z _  ) fun ac wd hS => ?_
 refine hS.opsC 2 [20, 0] [] fun _ => seg [(2, vi (z / 32))] [] [.p ((32 : Int) ≠ 0 ∧ IntKind.i64.wrap (Int.tdiv z 32) = z / 32)] ⟨quo2 (by omega) (by omega) (by omega), trivial⟩ fun ac wd hS => ?_
 refine list_nil_seq ?_
 refine wp_ret ?_
 refine St.retC 0 hS (vi (z / 32)) [] trivial fun hw => ?_
 refine ⟨retd rfl, hw.fr0⟩

set_option maxRecDepth 100000 in
set_option maxHeartbeats 1000000 in
theorem d_of1 (kk : ByteArray) (nn : Int) (kb : Nat) (key : ByteArray) (w : World) (hh0 : HE.holds w kb (.fn 0 1 (roF [.string key]))) :
    Calls Tryz.prog 42 #[.agg #[.string kk, vu nn], pt kb 0] w fun e w' => e = .returned (vb ((ByteArray.toList kk) == (ByteArray.toList key))) ∧ Fr w w' no no := by
 refine enter (args := [.agg #[.string kk, vu nn], pt kb 0]) (D := no) (A := []) Tryz.func42 rfl 8 rfl [(kb, .fn 0 1 (roF [.string key]))] (WS.startL ⟨⟨rfl, hh0⟩, trivial⟩) fun ac hS => ?_
 refine hS.regS [0, 0] [1] fun ν1 => seg [(2, pt (ν1 0) 0)] [(0, none), (1, some ((ν1 0), .cells [.string kk, vu nn] 39))] [] trivial fun ac wd hS => ?_
 refine hS.regS [0, 100, 0, 0, 0] [] fun _ => seg [(3, vb (ByteArray.toList kk == ByteArray.toList key))] [] [.e kb, .p (0 ≤ 0 ∧ 0 < 1), .e (ν1 0)] ⟨(by decide), trivial⟩ fun ac wd hS => ?_
 refine wp_ret ?_
 refine St.retC 0 hS (vb (ByteArray.toList kk == ByteArray.toList key)) [] trivial fun hw => ?_
 refine ⟨retd (vbool ?_), hw.fr0⟩
 all_goals (rfl)

set_option maxRecDepth 100000 in
set_option maxHeartbeats 1000000 in
theorem d_IndexFunc (ao1 : Option Addr) (c1 : Nat) (g1 : Nat) (o1 : Nat) (l : List (ByteArray × Int)) (kb : Nat) (key : ByteArray) (w : World) (hh0 : HE.holds w g1 (.fn o1 (o1 + l.length * 2) (itV (gtD l) o1))) (hh1 : HE.holds w kb (.fn 0 1 (roF [.string key]))) (hv1 : (l.length = 0 ∨ ao1 = some ⟨g1, o1, none⟩)) (hl4 : l.length ≤ 4294967296) :
    Calls Tryz.prog 41 #[.slice ao1 l.length c1, .func (.func 42) #[] #[pt kb 0]] w fun e w' => e = .returned (vi (dOf l key)) ∧ Fr w w' no no := by
 refine enter (args := [.slice ao1 l.length c1, .func (.func 42) #[] #[pt kb 0]]) (D := no) (A := []) Tryz.func41 rfl 19 rfl [(g1, .fn o1 (o1 + l.length * 2) (itV (gtD l) o1)), (kb, .fn 0 1 (roF [.string key]))] (WS.startL ⟨⟨rfl, hh0⟩, ⟨rfl, hh1⟩, trivial⟩) fun ac hS => ?_
 refine hS.regS [0] [0, 1] fun _ => seg [] [(0, none), (1, none)] [] trivial fun ac wd hS => ?_
 refine wp_seq ?_
 refine hS.regS [0, 0, 0] [0, 1] fun _ => seg [(7, vi ((l.length : Nat) : Int)), (8, vi 0)] [(0, none), (1, none)] [] trivial fun ac wd hS => ?_
 refine wp_block ?_
 refine St.loopC (σ := Int) (fun (x8 : Int) => ⟨[(0, [], .slice ao1 l.length c1), (1, [], .func (.func 42) #[] #[pt kb 0]), (7, [], vi ((l.length : Nat) : Int)), (8, [], vi x8)], [(g1, .fn o1 (o1 + l.length * 2) (itV (gtD l) o1)), (kb, .fn 0 1 (roF [.string key]))], [], (0 ≤ x8 ∧ x8 ≤ (l.length : Int)) ∧ (NoUp (dIs l key) x8) ∧ True, l.length - Int.toNat x8⟩) 0 ⟨(by first | omega | exact noUp_zero _), (by first | omega | exact noUp_zero _), trivial⟩ hS ?_
 clear hS
 rintro x8 ⟨i0, i1, -⟩ ac wd hS
 replace i0 : 0 ≤ x8 ∧ x8 ≤ (l.length : Int) := i0
 replace i1 : NoUp (dIs l key) x8 := i1
 refine hS.regS [0] [0, 1, 7, 8] fun _ => seg [(9, vb (decide ((x8 : Int) < ((l.length : Nat) : Int))))] [(0, none), (1, none)] [] trivial fun ac wd hS => ?_
 refine wp_seq ?_
 refine hS.condC (decide ((x8 : Int) < ((l.length : Nat) : Int))) (fun hb1o hb1 => ?_) (fun hb1o hb1 => ?_)
 ·
  refine wp_skip ?_
  refine pop_then ?_
  refine wp_seq ?_
  refine wp_block ?_
  refine hS.regS [0, 0] [0, 1, 7, 8] fun _ => seg [(5, vi x8)] [(0, none), (1, none)] [] trivial fun ac wd hS => ?_
  obtain rfl : ao1 = some ⟨g1, o1, none⟩ := Or.resolve_left hv1 (by omega)
  refine wp_region_seq ?_
  refine hS.opsC 5 [0, 0, 0, 20, fx 0 (.agg #[.string (((gtD l) (Int.toNat x8)).1), vu (((gtD l) (Int.toNat x8)).2)])] [0, 1, 5, 7, 8] fun _ => seg [(11, .func (.func 42) #[] #[pt kb 0]), (15, .agg #[.string (((gtD l) (Int.toNat x8)).1), vu (((gtD l) (Int.toNat x8)).2)])] [(0, none), (1, none)] [.p ((.agg #[((itV (gtD l) o1) (o1 + Int.toNat x8 * 2)), ((itV (gtD l) o1) (o1 + Int.toNat x8 * 2 + 1))] : Value) = .agg #[.string (((gtD l) (Int.toNat x8)).1), vu (((gtD l) (Int.toNat x8)).2)]), .e g1, .p (o1 ≤ o1 + Int.toNat x8 * 2 + 1 ∧ o1 + Int.toNat x8 * 2 + 1 < (o1 + l.length * 2)), .e g1, .p (o1 ≤ o1 + Int.toNat x8 * 2 ∧ o1 + Int.toNat x8 * 2 < (o1 + l.length * 2)), .p ((0 : Int) ≤ x8 ∧ (x8 : Int) < ((l.length : Nat) : Int))] ⟨(agg2 (itV_0 (gtD l) o1 (Int.toNat x8)) (itV_1 (gtD l) o1 (Int.toNat x8))), (by omega), (by omega), (by omega), trivial⟩ fun ac wd hS => ?_
  refine hS.call0 42 #[.agg #[.string (((gtD l) (Int.toNat x8)).1), vu (((gtD l) (Int.toNat x8)).2)], pt kb 0] 16 (d_of1 (((gtD l) (Int.toNat x8)).1) (((gtD l) (Int.toNat x8)).2) kb key _ (hS.mem.get 1 kb (.fn 0 1 (roF [.string key]))) ) fun ac wd hS => ?_
  refine list_nil_seq ?_
  refine hS.condC ((ByteArray.toList (((gtD l) (Int.toNat x8)).1)) == (ByteArray.toList key)) (fun hb2o hb2 => ?_) (fun hb2o hb2 => ?_)
  ·
   have hn : dIs l key (Int.toNat x8) = true := hb2o
   refine hS.regS [0, 0] [] fun _ => seg [(4, vi x8)] [] [] trivial fun ac wd hS => ?_
   refine wp_ret ?_
   refine pop_block_ret ?_
   refine pop_then_ret ?_
   refine pop_then_ret ?_
   refine pop_block_ret ?_
   refine pop_then_ret ?_
   refine St.retC 0 hS (vi x8) [] trivial fun hw => ?_
   refine ⟨retd (vint ?_), hw.fr0⟩
   all_goals (first | exact fIx_at i1 i0.1 (by omega) hn | exact fIx_none i1 (by omega))
  ·
   have hn : dIs l key (Int.toNat x8) = false := hb2o
   refine wp_skip ?_
   refine pop_block ?_
   refine pop_then ?_
   refine hS.regC [20, 0] [0, 1, 7] fun _ => seg [(8, vi (x8 + 1))] [(0, none), (1, none)] [.p (fit .i64 (x8 + 1))] ⟨fit_i64 (by omega), trivial⟩ fun ac wd hS => ?_
   exact pop_then (hS.next (x8 + 1) ⟨(by first | omega | assumption | (simp; done) | (simp; omega)), (by exact noUp_step i1 i0.1 hn), trivial⟩ (by dsimp only; omega))
 ·
  refine wp_exit ?_
  refine pop_then_exit ?_
  refine pop_then_exit ?_
  refine pop_block_hit ?_
  refine pop_then ?_
  refine hS.regS [0] [] fun _ => seg [(4, vi (-1))] [] [] trivial fun ac wd hS => ?_
  refine wp_ret ?_
  refine St.retC 0 hS (vi (-1)) [] trivial fun hw => ?_
  refine ⟨retd (vint ?_), hw.fr0⟩
  all_goals (first | exact fIx_at i1 i0.1 (by omega) hn | exact fIx_none i1 (by omega))

set_option maxRecDepth 100000 in
set_option maxHeartbeats 1000000 in
theorem d_of (ao1 : Option Addr) (c1 : Nat) (g1 : Nat) (o1 : Nat) (l : List (ByteArray × Int)) (key : ByteArray) (w : World) (hh0 : HE.holds w g1 (.fn o1 (o1 + l.length * 2) (itV (gtD l) o1))) (hv1 : (l.length = 0 ∨ ao1 = some ⟨g1, o1, none⟩)) (hl4 : l.length ≤ 4294967296) :
    Calls Tryz.prog 27 #[.slice ao1 l.length c1, .string key] w fun e w' => e = .returned (vi (dOf l key)) ∧ Fr w w' no no := by
 refine enter (args := [.slice ao1 l.length c1, .string key]) (D := no) (A := []) Tryz.func27 rfl 8 rfl [(g1, .fn o1 (o1 + l.length * 2) (itV (gtD l) o1))] (WS.startL ⟨⟨rfl, hh0⟩, trivial⟩) fun ac hS => ?_
 refine hS.regS [0, 0] [0] fun ν1 => seg [(3, pt (ν1 0) 0)] [(0, none), (1, some ((ν1 0), .cells [.string key] 9))] [] trivial fun ac wd hS => ?_
 refine wp_region_seq ?_
 refine hS.opsC 2 [0, 0] [] fun _ => seg [(5, .slice ao1 l.length c1), (6, .func (.func 42) #[] #[pt (ν1 0) 0])] [(0, none), (1, none)] [] trivial fun ac wd hS => ?_
 refine hS.call0 41 #[.slice ao1 l.length c1, .func (.func 42) #[] #[pt (ν1 0) 0]] 7 (d_IndexFunc ao1 c1 g1 o1 l (ν1 0) key _ (hS.mem.get 0 g1 (.fn o1 (o1 + l.length * 2) (itV (gtD l) o1))) (HE.ro (hS.mem.get 1 (ν1 0) (.cells [.string key] 9))) hv1 (by first | assumption | omega | (simp_all; done) | (simp_all; omega))) fun ac wd hS => ?_
 refine hS.opsC 1 [0] [] fun _ => seg [(4, vi (dOf l key))] [] [] trivial fun ac wd hS => ?_
 refine list_nil_seq ?_
 refine wp_ret ?_
 refine St.retC 0 hS (vi (dOf l key)) [] trivial fun hw => ?_
 refine ⟨retd rfl, hw.fr0⟩

set_option maxRecDepth 100000 in
set_option maxHeartbeats 1000000 in
theorem d_All (b : Nat) (F : Nat → Prop) (m : AM) (o_ : Int) (z : Int) (L : List (ByteArray × Int)) (w : World) (hr : (arR b F m).R w) (hh0 : HE.holds w 0 (.fn 0 64 dbT)) (ho : 0 ≤ o_ ∧ 0 ≤ z ∧ o_ + z ≤ 4294967296) (hR : DtR m o_ z L) :
    Calls Tryz.prog 17 #[.agg #[pt b 0, vi o_, vi z]] w fun e w' => ∃ (ao2 : Option Addr) (c2 : Nat) (g2 : Nat) (o2 : Nat), e = .returned (.slice ao2 L.length c2) ∧ (L.length = 0 ∨ ao2 = some ⟨g2, o2, none⟩) ∧ (g2 = 0 ∨ w.heap.size ≤ g2) ∧ HE.holds w' g2 (.fn o2 (o2 + L.length * 2) (itV (gtD L) o2)) ∧ Fr w w' no no := by
 have hdl := hR.okd.len
 refine enter (args := [.agg #[pt b 0, vi o_, vi z]]) (D := no) (A := []) Tryz.func17 rfl 41 rfl [(0, .fn 0 64 dbT)] (WS.startL ⟨⟨rfl, hh0⟩, trivial⟩) fun ac hS => ?_
 refine hS.regS [0, 0] [] fun ν1 => seg [(1, pt (ν1 0) 0)] [(0, none), (1, some ((ν1 0), .cells [pt b 0, vi o_, vi z] 30))] [] trivial fun ac wd hS => ?_
 refine hS.regS [0] [1] fun _ => seg [(3, vnil)] [(0, none), (1, none)] [] trivial fun ac wd hS => ?_
 refine wp_seq ?_
 replace hS := hS.to (hS.mem.grNew 39 2 (itV (gtD ([] : List (ByteArray × Int))) 0))
 refine wp_region_seq ?_
 refine hS.opsC 1 [100] [1, 3] fun _ => seg [(9, .agg #[pt b 0, vi o_, vi z])] [(0, none), (1, none)] [.e (ν1 0), .e (ν1 0), .e (ν1 0)] trivial fun ac wd hS => ?_
 refine hS.call0 29 #[.agg #[pt b 0, vi o_, vi z]] 10 (d_slots b o_ z _  (by first | assumption | omega | (simp_all; done) | (simp_all; omega))) fun ac wd hS => ?_
 refine hS.opsC 1 [0] [1, 3, 10] fun _ => seg [(11, vi 0)] [(0, none), (1, none)] [] trivial fun ac wd hS => ?_
 refine list_nil_seq ?_
 refine wp_block ?_
 refine St.loopC (σ := Int × Option Addr × Nat × (Nat → Prop) × (List (ByteArray × Int))) (fun (x : Int × Option Addr × Nat × (Nat → Prop) × (List (ByteArray × Int))) => match x with | (x11, aoq, cq, Fq, lq) => ⟨[(1, [], pt (ν1 0) 0), (3, [], .slice aoq lq.length cq), (10, [], vi (z / 32)), (11, [], vi x11)], [(0, .fn 0 64 dbT), ((ν1 0), .cells [pt b 0, vi o_, vi z] 30)], [grR 39 2 (.slice aoq lq.length cq) Fq (lq.length, (itV (gtD lq) 0))], (0 ≤ x11 ∧ (x11 ≤ z / 32 ∨ x11 = 0)) ∧ (lq = L.take (Int.toNat x11)) ∧ (x11 ≤ ((L.length : Nat) : Int)) ∧ True, Int.toNat (z / 32 - x11)⟩) (0, none, 0, no, ([] : List (ByteArray × Int))) ⟨(by first | omega | rfl), (by first | omega | rfl), (by first | omega | rfl), trivial⟩ hS ?_
 clear hS
 rintro ⟨x11, aoq, cq, Fq, lq⟩ ⟨i0, i1, i2, -⟩ ac wd hS
 replace i0 : 0 ≤ x11 ∧ (x11 ≤ z / 32 ∨ x11 = 0) := i0
 replace i1 : lq = L.take (Int.toNat x11) := i1
 replace i2 : x11 ≤ ((L.length : Nat) : Int) := i2
 refine hS.regS [0] [1, 3, 10, 11] fun _ => seg [(12, vb (decide ((x11 : Int) < (z / 32))))] [(0, none), (1, none)] [] trivial fun ac wd hS => ?_
 refine wp_seq ?_
 refine hS.condC (decide ((x11 : Int) < (z / 32))) (fun hb1o hb1 => ?_) (fun hb1o hb1 => ?_)
 ·
  refine wp_skip ?_
  refine pop_then ?_
  refine wp_seq ?_
  refine wp_block ?_
  refine hS.regS [0, 0] [1, 3, 10, 11] fun _ => seg [(4, vi x11)] [(0, none), (1, none)] [] trivial fun ac wd hS => ?_
  refine wp_region_seq ?_
  refine hS.opsC 4 [0, 100, 0, 20] [1, 3, 4, 10, 11] fun _ => seg [(16, .agg #[pt b 0, vi o_, vi z]), (18, vi (x11 * 32))] [(0, none), (1, none)] [.p (fit .i64 (x11 * 32)), .e (ν1 0), .e (ν1 0), .e (ν1 0)] ⟨fit_i64 (by omega), trivial⟩ fun ac wd hS => ?_
  refine hS.call0 30 #[.agg #[pt b 0, vi o_, vi z], vi (x11 * 32), vi 16] 19 (fd_Text b F m o_ z (x11 * 32) 16 _ (Res.keep hr hS.mem.fr) (by first | assumption | omega | (simp_all; done) | (simp_all; omega))) fun ac wd hS => ?_
  refine hS.opsC 5 [0, 0, 0, 0, 0] [1, 3, 4, 10, 11] fun _ => seg [(5, .string (ftV m o_ z (x11 * 32) 16))] [(0, none), (1, none)] [] trivial fun ac wd hS => ?_
  refine list_nil_seq ?_
  refine wp_seq ?_
  refine hS.regS [0, 0] [1, 3, 4, 5, 10, 11] fun _ => seg [(23, vb (ByteArray.toList (ftV m o_ z (x11 * 32) 16) == ByteArray.toList (⟨#[]⟩ : ByteArray)))] [(0, none), (1, none)] [] trivial fun ac wd hS => ?_
  refine hS.condC (ByteArray.toList (ftV m o_ z (x11 * 32) 16) == ByteArray.toList (⟨#[]⟩ : ByteArray)) (fun hb2o hb2 => ?_) (fun hb2o hb2 => ?_)
  ·
   have hge := dAll_stop hR i0.1 hb2o
   refine wp_exit ?_
   refine pop_then_exit ?_
   refine pop_block_miss rfl ?_
   refine pop_then_exit ?_
   refine pop_then_exit ?_
   refine pop_block_hit ?_
   refine pop_then ?_
   refine hS.regS [0, 0] [] fun _ => seg [(2, .slice aoq lq.length cq)] [(0, none)] [] trivial fun ac wd hS => ?_
   refine wp_ret ?_
   have hq_ : L = lq := (show lq = L by rw [i1, List.take_of_length_le (by omega)]).symm
   subst hq_
   rcases Nat.eq_zero_or_pos L.length with hz_ | hz_
   ·
    have hm_ : L.length = 0 := by exact hz_
    replace hS := hS.to (hS.mem.grRe (v := .slice aoq L.length cq) (v' := .slice aoq 0 cq) (m := L.length) (m' := 0) (f := (itV (gtD L) 0)) 0 (by rw [hm_]) hm_)
    replace hS := hS.fix 2 (.slice aoq 0 cq) (show (.slice aoq L.length cq : Value) = .slice aoq 0 cq by rw [hm_])
    obtain ⟨hv_, hO⟩ := WS.grNil (e := 39) (sz := 2) (m := 0) (f := (itV (gtD L) 0)) hS.mem (by first | omega | rfl)
    obtain ⟨rfl, rfl⟩ : (none : Option Addr) = aoq ∧ 0 = cq := by cases hv_; exact ⟨rfl, rfl⟩
    clear hv_
    replace hS := hS.to hO
    clear hO
    refine St.retC 0 hS (vnil) [] trivial fun hw => ?_
    refine ⟨none, 0, 0, 0, retd (slN ?_), (by first | exact (.inl rfl) | exact .inl hz_ | (rw [← hD]; exact (.inl rfl)) | (rw [← hD]; exact .inl hz_)), (by omega), (HE.fn_none (hw.get 0 0 (.fn 0 64 dbT)) ?_), hw.fr0⟩
    all_goals (first | (first | omega | (simp; omega) | rfl) | (intro x_ hx_; rfl) | (intro x_ hx_ hy_; rfl))
   ·
    obtain ⟨gg3, cp4, hv_, hcp_, hO⟩ := WS.grOpen (e := 39) (sz := 2) (m := L.length) (f := (itV (gtD L) 0)) hS.mem (by omega)
    obtain ⟨rfl, rfl⟩ : some (⟨gg3, 0, none⟩ : Addr) = aoq ∧ cp4 = cq := by cases hv_; exact ⟨rfl, rfl⟩
    clear hv_
    replace hS := hS.to hO
    clear hO
    refine St.retC 0 hS (sc gg3 0 L.length cp4) [] trivial fun hw => ?_
    refine ⟨(some ⟨gg3, 0, none⟩), cp4, gg3, 0, retd rfl, (by first | exact (.inr rfl) | exact .inl hz_ | (rw [← hD]; exact (.inr rfl)) | (rw [← hD]; exact .inl hz_)), (by have hg_ : w.heap.size ≤ gg3 := (hw.getm 1 gg3 (.row 39 (L.length * 2) (cp4 * 2) (itV (gtD L) 0))).resolve_right (fun h => h); omega), (HE.row_to (hw.get 1 gg3 (.row 39 (L.length * 2) (cp4 * 2) (itV (gtD L) 0))) ?_ ?_), hw.fr0⟩
    all_goals (first | (first | omega | (simp; omega) | rfl) | (intro x_ hx_; rfl) | (intro x_ hx_ hy_; rfl))
  ·
   have hlt := dAll_go hR i2 (by omega) hb2o
   refine wp_skip ?_
   refine pop_then ?_
   refine wp_region_seq ?_
   refine hS.opsC 5 [0, 100, 0, 20, 20] [1, 3, 5, 10, 11] fun _ => seg [(26, .agg #[pt b 0, vi o_, vi z]), (29, vi ((x11 * 32) + 24))] [(0, none), (1, none)] [.p (fit .i64 ((x11 * 32) + 24)), .p (fit .i64 (x11 * 32)), .e (ν1 0), .e (ν1 0), .e (ν1 0)] ⟨fit_i64 (by omega), fit_i64 (by omega), trivial⟩ fun ac wd hS => ?_
   refine hS.call0 31 #[.agg #[pt b 0, vi o_, vi z], vi ((x11 * 32) + 24), vi 8] 30 (vw_Load b F m o_ z ((x11 * 32) + 24) 8 _ (Res.keep hr hS.mem.fr) (by first | assumption | omega | (simp_all; done) | (simp_all; omega))) fun ac wd hS => ?_
   refine hS.opsC 5 [0, 0, 0, 0, 0] [1, 3, 5, 10, 11] fun _ => seg [(7, vu (vldV m o_ z ((x11 * 32) + 24) 8))] [(0, none), (1, none)] [] trivial fun ac wd hS => ?_
   refine list_nil_seq ?_
   refine wp_region_lit ?_
   refine hS.opsC 5 [0, 0, 0, 0, 0] [1, 3, 10, 11] fun ν13 => seg [(33, .slice aoq lq.length cq), (37, sc (ν13 0) 0 1 1)] [(0, none), (1, none), (2, some ((ν13 0), .cells [.string (ftV m o_ z (x11 * 32) 16), vu (vldV m o_ z ((x11 * 32) + 24) 8)] 39))] [] trivial fun ac wd hS => ?_
   obtain ⟨i_, hi_, hz_, hs_, hb_⟩ := info_get (P := Tryz.prog) (e := 39) (z := .agg #[.string (ByteArray.empty), vu 0]) (s := 2) (b := 24) (by kernel_rfl)
   refine Runs1.list ?_
   refine St.appV (m := lq.length) (f := (itV (gtD lq) 0)) (news := [.string (ftV m o_ z (x11 * 32) 16), vu (vldV m o_ z ((x11 * 32) + 24) 8)]) (bx := (ν13 0)) (cx := 1) (Tx := 39) 0 hS (.tmp 33) (.tmp 37) 34 rfl rfl (by decide) Tryz.underlying34 hi_ hz_ hs_ (by omega) rfl (by decide) 2 rfl rfl (by (rw [i1, List.length_take]; omega)) fun ac wd v2_ F7 hB8 hS => ?_
   obtain ⟨xo5, xc6, rfl⟩ := hB8.slice
   replace hS := hS.to (hS.mem.grTell (m := (lq.length + 1)) 0 (itV (gtD (lq ++ [((ftV m o_ z (x11 * 32) 16), (vldV m o_ z ((x11 * 32) + 24) 8))])) 0) (itV_app lq (ftV m o_ z (x11 * 32) 16) (vldV m o_ z ((x11 * 32) + 24) 8)))
   have hm_ : lq.length + 1 = ((lq ++ [((ftV m o_ z (x11 * 32) 16), (vldV m o_ z ((x11 * 32) + 24) 8))])).length := by simp
   replace hS := hS.to (hS.mem.grRe (v := .slice xo5 (lq.length + 1) xc6) (v' := .slice xo5 (((lq ++ [((ftV m o_ z (x11 * 32) 16), (vldV m o_ z ((x11 * 32) + 24) 8))])).length) xc6) (m := (lq.length + 1)) (m' := ((lq ++ [((ftV m o_ z (x11 * 32) 16), (vldV m o_ z ((x11 * 32) + 24) 8))])).length) (f := (itV (gtD (lq ++ [((ftV m o_ z (x11 * 32) 16), (vldV m o_ z ((x11 * 32) + 24) 8))])) 0)) 0 (by rw [hm_]) hm_)
   replace hS := hS.fix 38 (.slice xo5 (((lq ++ [((ftV m o_ z (x11 * 32) 16), (vldV m o_ z ((x11 * 32) + 24) 8))])).length) xc6) (show (.slice xo5 (lq.length + 1) xc6 : Value) = .slice xo5 (((lq ++ [((ftV m o_ z (x11 * 32) 16), (vldV m o_ z ((x11 * 32) + 24) 8))])).length) xc6 by rw [hm_])
   refine hS.opsC 1 [0] [1, 10, 11] fun _ => seg [(3, .slice xo5 (((lq ++ [((ftV m o_ z (x11 * 32) 16), (vldV m o_ z ((x11 * 32) + 24) 8))])).length) xc6)] [(0, none), (1, none)] [] trivial fun ac wd hS => ?_
   refine list_nil ?_
   refine pop_block ?_
   refine pop_then ?_
   refine hS.regC [20, 0] [1, 3, 10] fun _ => seg [(11, vi (x11 + 1))] [(0, none), (1, none)] [.p (fit .i64 (x11 + 1))] ⟨fit_i64 (by omega), trivial⟩ fun ac wd hS => ?_
   exact pop_then (hS.next ((x11 + 1), xo5, xc6, F7, (lq ++ [((ftV m o_ z (x11 * 32) 16), (vldV m o_ z ((x11 * 32) + 24) 8))])) ⟨(by first | omega | assumption | (simp; done) | (simp; omega)), (by exact dAll_step hR i1 i0.1 hlt), (by first | omega | assumption | (simp; done) | (simp; omega)), trivial⟩ (by dsimp only; omega))
 ·
  refine wp_exit ?_
  refine pop_then_exit ?_
  refine pop_then_exit ?_
  refine pop_block_hit ?_
  refine pop_then ?_
  refine hS.regS [0, 0] [] fun _ => seg [(2, .slice aoq lq.length cq)] [(0, none)] [] trivial fun ac wd hS => ?_
  refine wp_ret ?_
  have hq_ : L = lq := (show lq = L by rw [i1, List.take_of_length_le (by omega)]).symm
  subst hq_
  rcases Nat.eq_zero_or_pos L.length with hz_ | hz_
  ·
   have hm_ : L.length = 0 := by exact hz_
   replace hS := hS.to (hS.mem.grRe (v := .slice aoq L.length cq) (v' := .slice aoq 0 cq) (m := L.length) (m' := 0) (f := (itV (gtD L) 0)) 0 (by rw [hm_]) hm_)
   replace hS := hS.fix 2 (.slice aoq 0 cq) (show (.slice aoq L.length cq : Value) = .slice aoq 0 cq by rw [hm_])
   obtain ⟨hv_, hO⟩ := WS.grNil (e := 39) (sz := 2) (m := 0) (f := (itV (gtD L) 0)) hS.mem (by first | omega | rfl)
   obtain ⟨rfl, rfl⟩ : (none : Option Addr) = aoq ∧ 0 = cq := by cases hv_; exact ⟨rfl, rfl⟩
   clear hv_
   replace hS := hS.to hO
   clear hO
   refine St.retC 0 hS (vnil) [] trivial fun hw => ?_
   refine ⟨none, 0, 0, 0, retd (slN ?_), (by first | exact (.inl rfl) | exact .inl hz_ | (rw [← hD]; exact (.inl rfl)) | (rw [← hD]; exact .inl hz_)), (by omega), (HE.fn_none (hw.get 0 0 (.fn 0 64 dbT)) ?_), hw.fr0⟩
   all_goals (first | (first | omega | (simp; omega) | rfl) | (intro x_ hx_; rfl) | (intro x_ hx_ hy_; rfl))
  ·
   obtain ⟨gg9, cp10, hv_, hcp_, hO⟩ := WS.grOpen (e := 39) (sz := 2) (m := L.length) (f := (itV (gtD L) 0)) hS.mem (by omega)
   obtain ⟨rfl, rfl⟩ : some (⟨gg9, 0, none⟩ : Addr) = aoq ∧ cp10 = cq := by cases hv_; exact ⟨rfl, rfl⟩
   clear hv_
   replace hS := hS.to hO
   clear hO
   refine St.retC 0 hS (sc gg9 0 L.length cp10) [] trivial fun hw => ?_
   refine ⟨(some ⟨gg9, 0, none⟩), cp10, gg9, 0, retd rfl, (by first | exact (.inr rfl) | exact .inl hz_ | (rw [← hD]; exact (.inr rfl)) | (rw [← hD]; exact .inl hz_)), (by have hg_ : w.heap.size ≤ gg9 := (hw.getm 1 gg9 (.row 39 (L.length * 2) (cp10 * 2) (itV (gtD L) 0))).resolve_right (fun h => h); omega), (HE.row_to (hw.get 1 gg9 (.row 39 (L.length * 2) (cp10 * 2) (itV (gtD L) 0))) ?_ ?_), hw.fr0⟩
   all_goals (first | (first | omega | (simp; omega) | rfl) | (intro x_ hx_; rfl) | (intro x_ hx_ hy_; rfl))

set_option maxRecDepth 100000 in
set_option maxHeartbeats 1000000 in
theorem d_AllG (b : Nat) (F : Nat → Prop) (m : AM) (o_ : Int) (z : Int) (L : List (ByteArray × Int)) (w : World) (hr : (arR b F m).R w) (ho : 0 ≤ o_ ∧ 0 ≤ z ∧ o_ + z ≤ 4294967296) (hR : DtR m o_ z L) :
    Calls Tryz.prog 17 #[.agg #[pt b 0, vi o_, vi z]] w fun e w' => ∃ (ao2 : Option Addr) (c2 : Nat) (F' : Nat → Prop), e = .returned (.slice ao2 L.length c2) ∧ (grR 39 2 (.slice ao2 L.length c2) F' (L.length, (itV (gtD L) 0))).R w' ∧ Fr w w' no F' := by
 have hdl := hR.okd.len
 refine enter (args := [.agg #[pt b 0, vi o_, vi z]]) (D := no) (A := []) Tryz.func17 rfl 41 rfl [] (WS.startL trivial) fun ac hS => ?_
 refine hS.regS [0, 0] [] fun ν1 => seg [(1, pt (ν1 0) 0)] [(0, some ((ν1 0), .cells [pt b 0, vi o_, vi z] 30))] [] trivial fun ac wd hS => ?_
 refine hS.regS [0] [1] fun _ => seg [(3, vnil)] [(0, none)] [] trivial fun ac wd hS => ?_
 refine wp_seq ?_
 replace hS := hS.to (hS.mem.grNew 39 2 (itV (gtD ([] : List (ByteArray × Int))) 0))
 refine wp_region_seq ?_
 refine hS.opsC 1 [0] [1, 3] fun _ => seg [(9, .agg #[pt b 0, vi o_, vi z])] [(0, none)] [.e (ν1 0), .e (ν1 0), .e (ν1 0)] trivial fun ac wd hS => ?_
 refine hS.call0 29 #[.agg #[pt b 0, vi o_, vi z]] 10 (d_slots b o_ z _  (by first | assumption | omega | (simp_all; done) | (simp_all; omega))) fun ac wd hS => ?_
 refine hS.opsC 1 [0] [1, 3, 10] fun _ => seg [(11, vi 0)] [(0, none)] [] trivial fun ac wd hS => ?_
 refine list_nil_seq ?_
 refine wp_block ?_
 refine St.loopC (σ := Int × Option Addr × Nat × (Nat → Prop) × (List (ByteArray × Int))) (fun (x : Int × Option Addr × Nat × (Nat → Prop) × (List (ByteArray × Int))) => match x with | (x11, aoq, cq, Fq, lq) => ⟨[(1, [], pt (ν1 0) 0), (3, [], .slice aoq lq.length cq), (10, [], vi (z / 32)), (11, [], vi x11)], [((ν1 0), .cells [pt b 0, vi o_, vi z] 30)], [grR 39 2 (.slice aoq lq.length cq) Fq (lq.length, (itV (gtD lq) 0))], (0 ≤ x11 ∧ (x11 ≤ z / 32 ∨ x11 = 0)) ∧ (lq = L.take (Int.toNat x11)) ∧ (x11 ≤ ((L.length : Nat) : Int)) ∧ True, Int.toNat (z / 32 - x11)⟩) (0, none, 0, no, ([] : List (ByteArray × Int))) ⟨(by first | omega | rfl), (by first | omega | rfl), (by first | omega | rfl), trivial⟩ hS ?_
 clear hS
 rintro ⟨x11, aoq, cq, Fq, lq⟩ ⟨i0, i1, i2, -⟩ ac wd hS
 replace i0 : 0 ≤ x11 ∧ (x11 ≤ z / 32 ∨ x11 = 0) := i0
 replace i1 : lq = L.take (Int.toNat x11) := i1
 replace i2 : x11 ≤ ((L.length : Nat) : Int) := i2
 refine hS.regS [0] [1, 3, 10, 11] fun _ => seg [(12, vb (decide ((x11 : Int) < (z / 32))))] [(0, none)] [] trivial fun ac wd hS => ?_
 refine wp_seq ?_
 refine hS.condC (decide ((x11 : Int) < (z / 32))) (fun hb1o hb1 => ?_) (fun hb1o hb1 => ?_)
 ·
  refine wp_skip ?_
  refine pop_then ?_
  refine wp_seq ?_
  refine wp_block ?_
  refine hS.regS [0, 0] [1, 3, 10, 11] fun _ => seg [(4, vi x11)] [(0, none)] [] trivial fun ac wd hS => ?_
  refine wp_region_seq ?_
  refine hS.opsC 4 [0, 0, 0, 20] [1, 3, 4, 10, 11] fun _ => seg [(16, .agg #[pt b 0, vi o_, vi z]), (18, vi (x11 * 32))] [(0, none)] [.p (fit .i64 (x11 * 32)), .e (ν1 0), .e (ν1 0), .e (ν1 0)] ⟨fit_i64 (by omega), trivial⟩ fun ac wd hS => ?_
  refine hS.call0 30 #[.agg #[pt b 0, vi o_, vi z], vi (x11 * 32), vi 16] 19 (fd_Text b F m o_ z (x11 * 32) 16 _ (Res.keep hr hS.mem.fr) (by first | assumption | omega | (simp_all; done) | (simp_all; omega))) fun ac wd hS => ?_
  refine hS.opsC 5 [0, 0, 0, 0, 0] [1, 3, 4, 10, 11] fun _ => seg [(5, .string (ftV m o_ z (x11 * 32) 16))] [(0, none)] [] trivial fun ac wd hS => ?_
  refine list_nil_seq ?_
  refine wp_seq ?_
  refine hS.regS [0, 0] [1, 3, 4, 5, 10, 11] fun _ => seg [(23, vb (ByteArray.toList (ftV m o_ z (x11 * 32) 16) == ByteArray.toList (⟨#[]⟩ : ByteArray)))] [(0, none)] [] trivial fun ac wd hS => ?_
  refine hS.condC (ByteArray.toList (ftV m o_ z (x11 * 32) 16) == ByteArray.toList (⟨#[]⟩ : ByteArray)) (fun hb2o hb2 => ?_) (fun hb2o hb2 => ?_)
  ·
   have hge := dAll_stop hR i0.1 hb2o
   refine wp_exit ?_
   refine pop_then_exit ?_
   refine pop_block_miss rfl ?_
   refine pop_then_exit ?_
   refine pop_then_exit ?_
   refine pop_block_hit ?_
   refine pop_then ?_
   refine hS.regS [0, 0] [] fun _ => seg [(2, .slice aoq lq.length cq)] [] [] trivial fun ac wd hS => ?_
   refine wp_ret ?_
   have hq_ : L = lq := (show lq = L by rw [i1, List.take_of_length_le (by omega)]).symm
   subst hq_
   refine St.retC 0 hS (.slice aoq L.length cq) [] trivial fun hw => ?_
   refine ⟨aoq, cq, Fq, retd rfl, (hw.res 0), hw.frA⟩
  ·
   have hlt := dAll_go hR i2 (by omega) hb2o
   refine wp_skip ?_
   refine pop_then ?_
   refine wp_region_seq ?_
   refine hS.opsC 5 [0, 0, 0, 20, 20] [1, 3, 5, 10, 11] fun _ => seg [(26, .agg #[pt b 0, vi o_, vi z]), (29, vi ((x11 * 32) + 24))] [(0, none)] [.p (fit .i64 ((x11 * 32) + 24)), .p (fit .i64 (x11 * 32)), .e (ν1 0), .e (ν1 0), .e (ν1 0)] ⟨fit_i64 (by omega), fit_i64 (by omega), trivial⟩ fun ac wd hS => ?_
   refine hS.call0 31 #[.agg #[pt b 0, vi o_, vi z], vi ((x11 * 32) + 24), vi 8] 30 (vw_Load b F m o_ z ((x11 * 32) + 24) 8 _ (Res.keep hr hS.mem.fr) (by first | assumption | omega | (simp_all; done) | (simp_all; omega))) fun ac wd hS => ?_
   refine hS.opsC 5 [0, 0, 0, 0, 0] [1, 3, 5, 10, 11] fun _ => seg [(7, vu (vldV m o_ z ((x11 * 32) + 24) 8))] [(0, none)] [] trivial fun ac wd hS => ?_
   refine list_nil_seq ?_
   refine wp_region_lit ?_
   refine hS.opsC 5 [0, 0, 0, 0, 0] [1, 3, 10, 11] fun ν13 => seg [(33, .slice aoq lq.length cq), (37, sc (ν13 0) 0 1 1)] [(0, none), (1, some ((ν13 0), .cells [.string (ftV m o_ z (x11 * 32) 16), vu (vldV m o_ z ((x11 * 32) + 24) 8)] 39))] [] trivial fun ac wd hS => ?_
   obtain ⟨i_, hi_, hz_, hs_, hb_⟩ := info_get (P := Tryz.prog) (e := 39) (z := .agg #[.string (ByteArray.empty), vu 0]) (s := 2) (b := 24) (by kernel_rfl)
   refine Runs1.list ?_
   refine St.appV (m := lq.length) (f := (itV (gtD lq) 0)) (news := [.string (ftV m o_ z (x11 * 32) 16), vu (vldV m o_ z ((x11 * 32) + 24) 8)]) (bx := (ν13 0)) (cx := 1) (Tx := 39) 0 hS (.tmp 33) (.tmp 37) 34 rfl rfl (by decide) Tryz.underlying34 hi_ hz_ hs_ (by omega) rfl (by decide) 1 rfl rfl (by (rw [i1, List.length_take]; omega)) fun ac wd v2_ F5 hB6 hS => ?_
   obtain ⟨xo3, xc4, rfl⟩ := hB6.slice
   replace hS := hS.to (hS.mem.grTell (m := (lq.length + 1)) 0 (itV (gtD (lq ++ [((ftV m o_ z (x11 * 32) 16), (vldV m o_ z ((x11 * 32) + 24) 8))])) 0) (itV_app lq (ftV m o_ z (x11 * 32) 16) (vldV m o_ z ((x11 * 32) + 24) 8)))
   have hm_ : lq.length + 1 = ((lq ++ [((ftV m o_ z (x11 * 32) 16), (vldV m o_ z ((x11 * 32) + 24) 8))])).length := by simp
   replace hS := hS.to (hS.mem.grRe (v := .slice xo3 (lq.length + 1) xc4) (v' := .slice xo3 (((lq ++ [((ftV m o_ z (x11 * 32) 16), (vldV m o_ z ((x11 * 32) + 24) 8))])).length) xc4) (m := (lq.length + 1)) (m' := ((lq ++ [((ftV m o_ z (x11 * 32) 16), (vldV m o_ z ((x11 * 32) + 24) 8))])).length) (f := (itV (gtD (lq ++ [((ftV m o_ z (x11 * 32) 16), (vldV m o_ z ((x11 * 32) + 24) 8))])) 0)) 0 (by rw [hm_]) hm_)
   replace hS := hS.fix 38 (.slice xo3 (((lq ++ [((ftV m o_ z (x11 * 32) 16), (vldV m o_ z ((x11 * 32) + 24) 8))])).length) xc4) (show (.slice xo3 (lq.length + 1) xc4 : Value) = .slice xo3 (((lq ++ [((ftV m o_ z (x11 * 32) 16), (vldV m o_ z ((x11 * 32) + 24) 8))])).length) xc4 by rw [hm_])
   refine hS.opsC 1 [0] [1, 10, 11] fun _ => seg [(3, .slice xo3 (((lq ++ [((ftV m o_ z (x11 * 32) 16), (vldV m o_ z ((x11 * 32) + 24) 8))])).length) xc4)] [(0, none)] [] trivial fun ac wd hS => ?_
   refine list_nil ?_
   refine pop_block ?_
   refine pop_then ?_
   refine hS.regC [20, 0] [1, 3, 10] fun _ => seg [(11, vi (x11 + 1))] [(0, none)] [.p (fit .i64 (x11 + 1))] ⟨fit_i64 (by omega), trivial⟩ fun ac wd hS => ?_
   exact pop_then (hS.next ((x11 + 1), xo3, xc4, F5, (lq ++ [((ftV m o_ z (x11 * 32) 16), (vldV m o_ z ((x11 * 32) + 24) 8))])) ⟨(by first | omega | assumption | (simp; done) | (simp; omega)), (by exact dAll_step hR i1 i0.1 hlt), (by first | omega | assumption | (simp; done) | (simp; omega)), trivial⟩ (by dsimp only; omega))
 ·
  refine wp_exit ?_
  refine pop_then_exit ?_
  refine pop_then_exit ?_
  refine pop_block_hit ?_
  refine pop_then ?_
  refine hS.regS [0, 0] [] fun _ => seg [(2, .slice aoq lq.length cq)] [] [] trivial fun ac wd hS => ?_
  refine wp_ret ?_
  have hq_ : L = lq := (show lq = L by rw [i1, List.take_of_length_le (by omega)]).symm
  subst hq_
  refine St.retC 0 hS (.slice aoq L.length cq) [] trivial fun hw => ?_
  refine ⟨aoq, cq, Fq, retd rfl, (hw.res 0), hw.frA⟩

set_option maxRecDepth 100000 in
set_option maxHeartbeats 1000000 in
theorem d_lay (b : Nat) (F : Nat → Prop) (m : AM) (o_ : Int) (z : Int) (ao1 : Option Addr) (c1 : Nat) (g1 : Nat) (o1 : Nat) (l : List (ByteArray × Int)) (w : World) (hr : (arR b F m).R w) (hh0 : HE.holds w g1 (.fn o1 (o1 + l.length * 2) (itV (gtD l) o1))) (hf0 : ¬ F g1) (ho : 0 ≤ o_ ∧ 0 ≤ z ∧ o_ + z ≤ 4294967296) (hv1 : (l.length = 0 ∨ ao1 = some ⟨g1, o1, none⟩)) (hl : ((l.length : Nat) : Int) ≤ z / 32) :
    Calls Tryz.prog 26 #[.agg #[pt b 0, vi o_, vi z], .slice ao1 l.length c1] w fun e w' => ∃ (F' : Nat → Prop), e = .returned (.tuple #[]) ∧ (arR b F' (dLayM m o_ z l)).R w' ∧ Fr w w' F F' := by
 refine enter (args := [.agg #[pt b 0, vi o_, vi z], .slice ao1 l.length c1]) (D := F) (A := [arR b F m]) Tryz.func26 rfl 35 rfl [(g1, .fn o1 (o1 + l.length * 2) (itV (gtD l) o1))] (WS.startA (r := arR b F m) hr ⟨⟨rfl, hh0⟩, trivial⟩ ⟨hf0, trivial⟩) fun ac hS => ?_
 refine hS.regS [0] [1] fun ν1 => seg [(2, pt (ν1 0) 0)] [(0, none), (1, some ((ν1 0), .cells [pt b 0, vi o_, vi z] 30))] [] trivial fun ac wd hS => ?_
 refine St.ordBeginS [(0, 1), (1, 1), (2, 1), (3, 0), (4, 1), (5, 0)] [(g1, .fn o1 (o1 + l.length * 2) (itV (gtD l) o1)), ((ν1 0), .cells [pt b 0, vi o_, vi z] 30)] [0, 1] hS fun wd hS => ?_
 have hap := hS.mem.pairs (Hf := [(g1, .fn o1 (o1 + l.length * 2) (itV (gtD l) o1)), ((ν1 0), .cells [pt b 0, vi o_, vi z] 30)]) (l := [0, 1])
 refine St.ordF [0, 100, 100] [0, 1, 2] [1, 2] (rest := [(3, 0), (4, 1), (5, 0)]) hS hap <| segF [(7, .agg #[pt b 0, vi o_, vi z]), (8, .agg #[pt b 0, vi o_, vi z])] [.e (ν1 0), .e (ν1 0), .e (ν1 0), .e (ν1 0), .e (ν1 0), .e (ν1 0)] trivial fun ac hS => ?_
 refine hS.ordC 3 29 #[.agg #[pt b 0, vi o_, vi z]] (d_slots b o_ z _  (by first | assumption | omega | (simp_all; done) | (simp_all; omega))) ?_
 rintro _ wd ⟨rfl, hF⟩
 refine ⟨vi (z / 32), rfl, ?_⟩
 replace hS := (hS.to (hS.mem.keep0 hF)).put (d := 9) (v := vi (z / 32)) (by decide)
 clear hF
 refine hS.ordV (l := [0, 1]) ?_
 refine St.ordF [20] [4] [1, 2, 7] (rest := [(5, 0)]) hS hap <| segF [(10, vi ((z / 32) * 32))] [.p (fit .i64 ((z / 32) * 32))] ⟨fit_i64 (by omega), trivial⟩ fun ac hS => ?_
 refine hS.ordC 5 38 #[.agg #[pt b 0, vi o_, vi z], vi 0, vi ((z / 32) * 32), v8 0] (vw_Fill b F m o_ z 0 ((z / 32) * 32) 0 _ (hS.mem.res 0) (by first | assumption | omega | (simp_all; done) | (simp_all; omega)) (by decide)) ?_
 rintro _ wd ⟨F1, rfl, hA, hF⟩
 refine ⟨vi (vbyE m o_ z 0 ((z / 32) * 32)), rfl, ?_⟩
 replace hS := (hS.to (hS.mem.stepA 0 rfl hA hF)).put (d := 11) (v := vi (vbyE m o_ z 0 ((z / 32) * 32))) (by decide)
 clear hF
 refine hS.ordV (l := [0, 1]) ?_
 refine ord_nil ?_
 refine hS.regS [0, 0, 0] [2] fun _ => seg [(12, .slice ao1 l.length c1), (13, vi ((l.length : Nat) : Int)), (14, vi 0)] [(0, none), (1, none)] [] trivial fun ac wd hS => ?_
 refine wp_block ?_
 refine St.loopC (σ := Int × (Nat → Prop) × AM) (fun (x : Int × (Nat → Prop) × AM) => match x with | (x14, Fx, mx) => ⟨[(2, [], pt (ν1 0) 0), (12, [], .slice ao1 l.length c1), (13, [], vi ((l.length : Nat) : Int)), (14, [], vi x14)], [(g1, .fn o1 (o1 + l.length * 2) (itV (gtD l) o1)), ((ν1 0), .cells [pt b 0, vi o_, vi z] 30)], [arR b Fx mx], (0 ≤ x14 ∧ x14 ≤ (l.length : Int)) ∧ (mx = dLayN m o_ z l (Int.toNat x14)) ∧ True, l.length - Int.toNat x14⟩) (0, F1, (vfiM m o_ z 0 ((z / 32) * 32) (u8 0))) ⟨(by first | omega | rfl), (by first | omega | rfl), trivial⟩ hS ?_
 clear hS
 rintro ⟨x14, Fx, mx⟩ ⟨i0, i1, -⟩ ac wd hS
 replace i0 : 0 ≤ x14 ∧ x14 ≤ (l.length : Int) := i0
 replace i1 : mx = dLayN m o_ z l (Int.toNat x14) := i1
 refine hS.regS [0] [2, 12, 13, 14] fun _ => seg [(15, vb (decide ((x14 : Int) < ((l.length : Nat) : Int))))] [(0, none), (1, none)] [] trivial fun ac wd hS => ?_
 refine wp_seq ?_
 refine hS.condC (decide ((x14 : Int) < ((l.length : Nat) : Int))) (fun hb2o hb2 => ?_) (fun hb2o hb2 => ?_)
 ·
  refine wp_skip ?_
  refine pop_then ?_
  refine wp_seq ?_
  refine wp_block ?_
  obtain rfl : ao1 = some ⟨g1, o1, none⟩ := Or.resolve_left hv1 (by omega)
  refine hS.regS [0, 20, fx 0 (.agg #[.string (((gtD l) (Int.toNat x14)).1), vu (((gtD l) (Int.toNat x14)).2)]), 0, 0, 200] [2, 12, 13, 14] fun ν4 => seg [(4, vi x14), (5, pt (ν4 0) 0)] [(0, none), (1, none), (2, some ((ν4 0), .cells [.string (((gtD l) (Int.toNat x14)).1), vu (((gtD l) (Int.toNat x14)).2)] 39))] [.e (ν4 0), .e (ν4 0), .p ((.agg #[((itV (gtD l) o1) (o1 + Int.toNat x14 * 2)), ((itV (gtD l) o1) (o1 + Int.toNat x14 * 2 + 1))] : Value) = .agg #[.string (((gtD l) (Int.toNat x14)).1), vu (((gtD l) (Int.toNat x14)).2)]), .e g1, .p (o1 ≤ o1 + Int.toNat x14 * 2 + 1 ∧ o1 + Int.toNat x14 * 2 + 1 < (o1 + l.length * 2)), .e g1, .p (o1 ≤ o1 + Int.toNat x14 * 2 ∧ o1 + Int.toNat x14 * 2 < (o1 + l.length * 2)), .p ((0 : Int) ≤ x14 ∧ (x14 : Int) < ((l.length : Nat) : Int))] ⟨(agg2 (itV_0 (gtD l) o1 (Int.toNat x14)) (itV_1 (gtD l) o1 (Int.toNat x14))), (by omega), (by omega), (by omega), trivial⟩ fun ac wd hS => ?_
  refine wp_region_seq ?_
  refine hS.opsC 6 [0, 100, 0, 20, 0, 200] [2, 4, 5, 12, 13, 14] fun _ => seg [(20, .agg #[pt b 0, vi o_, vi z]), (22, vi (x14 * 32)), (24, .string (((gtD l) (Int.toNat x14)).1))] [(0, none), (1, none), (2, none)] [.e (ν4 0), .p (fit .i64 (x14 * 32)), .e (ν1 0), .e (ν1 0), .e (ν1 0)] ⟨fit_i64 (by omega), trivial⟩ fun ac wd hS => ?_
  refine hS.callC 39 #[.agg #[pt b 0, vi o_, vi z], vi (x14 * 32), vi 16, .string (((gtD l) (Int.toNat x14)).1)] (fd_PutText b Fx mx o_ z (x14 * 32) 16 (((gtD l) (Int.toNat x14)).1) _ (hS.mem.res 0) (by first | assumption | omega | (simp_all; done) | (simp_all; omega))) ?_
  rintro _ wd ⟨F3, rfl, hA, hF⟩
  refine ⟨vi (fpE mx o_ z (x14 * 32) 16 (((gtD l) (Int.toNat x14)).1)), rfl, ?_⟩
  replace hS := (hS.to (hS.mem.stepA 0 rfl hA hF)).put (d := 25) (v := vi (fpE mx o_ z (x14 * 32) 16 (((gtD l) (Int.toNat x14)).1))) (by decide)
  clear hF
  refine list_nil_seq ?_
  refine wp_region_lit ?_
  refine hS.opsC 7 [0, 100, 0, 20, 20, 0, 200] [2, 12, 13, 14] fun _ => seg [(27, .agg #[pt b 0, vi o_, vi z]), (30, vi ((x14 * 32) + 24)), (32, vu (((gtD l) (Int.toNat x14)).2))] [(0, none), (1, none)] [.e (ν4 0), .p (fit .i64 ((x14 * 32) + 24)), .p (fit .i64 (x14 * 32)), .e (ν1 0), .e (ν1 0), .e (ν1 0)] ⟨fit_i64 (by omega), fit_i64 (by omega), trivial⟩ fun ac wd hS => ?_
  refine hS.callC 40 #[.agg #[pt b 0, vi o_, vi z], vi ((x14 * 32) + 24), vi 8, vu (((gtD l) (Int.toNat x14)).2)] (vw_Store b F3 (fpM mx o_ z (x14 * 32) 16 (((gtD l) (Int.toNat x14)).1)) o_ z ((x14 * 32) + 24) 8 (((gtD l) (Int.toNat x14)).2) _ (hS.mem.res 0) (by first | assumption | omega | (simp_all; done) | (simp_all; omega))) ?_
  rintro _ wd ⟨F4, rfl, hA, hF⟩
  refine ⟨vi (vstE (fpM mx o_ z (x14 * 32) 16 (((gtD l) (Int.toNat x14)).1)) o_ z ((x14 * 32) + 24) 8), rfl, ?_⟩
  replace hS := (hS.to (hS.mem.stepA 0 rfl hA hF)).put (d := 33) (v := vi (vstE (fpM mx o_ z (x14 * 32) 16 (((gtD l) (Int.toNat x14)).1)) o_ z ((x14 * 32) + 24) 8)) (by decide)
  clear hF
  refine list_nil ?_
  refine pop_block ?_
  refine pop_then ?_
  refine hS.regC [20, 0] [2, 12, 13] fun _ => seg [(14, vi (x14 + 1))] [(0, none), (1, none)] [.p (fit .i64 (x14 + 1))] ⟨fit_i64 (by omega), trivial⟩ fun ac wd hS => ?_
  exact pop_then (hS.next ((x14 + 1), F4, (vstM (fpM mx o_ z (x14 * 32) 16 (((gtD l) (Int.toNat x14)).1)) o_ z ((x14 * 32) + 24) 8 (((gtD l) (Int.toNat x14)).2))) ⟨(by first | omega | assumption | (simp; done) | (simp; omega)), (by exact dLay_step i1 i0.1), trivial⟩ (by dsimp only; omega))
 ·
  refine wp_exit ?_
  refine pop_then_exit ?_
  refine pop_then_exit ?_
  refine pop_block_hit ?_
  refine St.fallC 0 hS (.tuple #[]) [] trivial fun hw => ?_
  refine ⟨Fx, retd rfl, (res_eq (r := arR b Fx mx) (by rw [i1, show Int.toNat x14 = l.length by omega]; rfl) (hw.res 0)), hw.frA⟩

set_option maxRecDepth 100000 in
set_option maxHeartbeats 1000000 in
theorem d_with_nil (b : Nat) (o_ : Int) (z : Int) (aol : Option Addr) (cl : Nat) (kk : ByteArray) (nn : Int) (Fl : Nat → Prop) (w : World) (hr0 : (grR 39 2 (.slice aol (([] : List (ByteArray × Int)).length) cl) Fl (([] : List (ByteArray × Int)).length, (itV (gtD ([] : List (ByteArray × Int))) 0))).R w) (hh0 : HE.holds w 0 (.fn 0 64 dbT)) (hg0 : ¬ Fl 0) (ho : 0 ≤ o_ ∧ 0 ≤ z ∧ o_ + z ≤ 4294967296) :
    Calls Tryz.prog 25 #[.agg #[pt b 0, vi o_, vi z], .slice aol (([] : List (ByteArray × Int)).length) cl, .agg #[.string kk, vu nn]] w fun e w' => ∃ (L2 : List (ByteArray × Int)) (ao2 : Option Addr) (c2 : Nat) (e2 : Int) (F' : Nat → Prop), e = .returned (.tuple #[.slice ao2 L2.length c2, vi e2]) ∧ ((L2, e2) = dWith (z / 32) ([] : List (ByteArray × Int)) (kk, nn)) ∧ (grR 39 2 (.slice ao2 L2.length c2) F' (L2.length, (itV (gtD L2) 0))).R w' ∧ Fr w w' Fl F' := by
 have hz9 : 0 ≤ z / 32 := by omega
 have hof : dOf ([] : List (ByteArray × Int)) kk = -1 := rfl
 refine enter (args := [.agg #[pt b 0, vi o_, vi z], .slice aol (([] : List (ByteArray × Int)).length) cl, .agg #[.string kk, vu nn]]) (D := Fl) (A := [grR 39 2 (.slice aol (([] : List (ByteArray × Int)).length) cl) Fl (([] : List (ByteArray × Int)).length, (itV (gtD ([] : List (ByteArray × Int))) 0))]) Tryz.func25 rfl 40 rfl [(0, .fn 0 64 dbT)] (WS.startA (r := grR 39 2 (.slice aol (([] : List (ByteArray × Int)).length) cl) Fl (([] : List (ByteArray × Int)).length, (itV (gtD ([] : List (ByteArray × Int))) 0))) hr0 ⟨⟨rfl, hh0⟩, trivial⟩ ⟨hg0, trivial⟩) fun ac hS => ?_
 obtain ⟨hv_, hO⟩ := WS.grNil (e := 39) (sz := 2) (m := (([] : List (ByteArray × Int)).length)) (f := (itV (gtD ([] : List (ByteArray × Int))) 0)) hS.mem (by first | omega | rfl)
 obtain ⟨rfl, rfl⟩ : (none : Option Addr) = aol ∧ 0 = cl := by cases hv_; exact ⟨rfl, rfl⟩
 clear hv_
 replace hS := hS.to hO
 clear hO
 refine hS.regS [0, 0, 0, 0] [1] fun ν1 => seg [(3, pt (ν1 0) 0), (5, pt (ν1 1) 0)] [(0, none), (1, some ((ν1 0), .cells [pt b 0, vi o_, vi z] 30)), (2, some ((ν1 1), .cells [.string kk, vu nn] 39))] [] trivial fun ac wd hS => ?_
 refine wp_region_seq ?_
 refine hS.opsC 3 [0, 0, 200] [1, 3, 5] fun _ => seg [(9, vnil), (11, .string kk)] [(0, none), (1, none), (2, none)] [.e (ν1 1)] trivial fun ac wd hS => ?_
 refine hS.call0 27 #[vnil, .string kk] 12 (d_of none 0 0 0 ([]) kk _ (HE.fn_none (hS.mem.get 0 0 (.fn 0 64 dbT)) rfl) (.inl rfl) (by simp)) fun ac wd hS => ?_
 refine hS.opsC 1 [0] [1, 3, 5] fun _ => seg [(8, vi (dOf ([]) kk))] [(0, none), (1, none), (2, none)] [] trivial fun ac wd hS => ?_
 refine list_nil_seq ?_
 refine wp_seq ?_
 refine wp_block ?_
 refine hS.regS [0, 200, 0, 0] [1, 3, 5, 8] fun _ => seg [(13, vb (ByteArray.toList kk == ByteArray.toList (⟨#[]⟩ : ByteArray)))] [(0, none), (1, none), (2, none)] [.e (ν1 1)] trivial fun ac wd hS => ?_
 refine hS.condC (ByteArray.toList kk == ByteArray.toList (⟨#[]⟩ : ByteArray)) (fun hb1o hb1 => ?_) (fun hb1o hb1 => ?_)
 ·
  have hD := dW_1 (s := z / 32) (L := ([] : List (ByteArray × Int))) (v := nn) hb1o
  refine hS.regS [0, 0] [] fun _ => seg [(6, vnil), (7, vi 17)] [(0, none)] [] trivial fun ac wd hS => ?_
  refine wp_ret ?_
  refine pop_block_ret ?_
  refine pop_then_ret ?_
  replace hS := hS.to (hS.mem.grNew 39 2 (itV (gtD ([] : List (ByteArray × Int))) 0))
  refine St.retC 0 hS (.tuple #[vnil, vi 17]) [] trivial fun hw => ?_
  refine ⟨([] : List (ByteArray × Int)), none, 0, 17, no, retd (tuple2 (slN ?_) rfl), ?_, (hw.res 0), hw.frA⟩
  all_goals (first | rfl | exact hD | omega)
 ·
  have h1 := hb1o
  refine hS.regS [0, 200, 0, 0, 0] [1, 3, 5, 8] fun _ => seg [(17, vb (decide ((16 : Int) < ((ByteArray.size kk : Nat) : Int))))] [(0, none), (1, none), (2, none)] [.e (ν1 1)] trivial fun ac wd hS => ?_
  refine hS.condC (decide ((16 : Int) < ((ByteArray.size kk : Nat) : Int))) (fun hb2o hb2 => ?_) (fun hb2o hb2 => ?_)
  ·
   have hD := dW_2 (s := z / 32) (L := ([] : List (ByteArray × Int))) (v := nn) h1 hb2
   refine hS.regS [0, 0] [] fun _ => seg [(6, vnil), (7, vi 16)] [(0, none)] [] trivial fun ac wd hS => ?_
   refine wp_ret ?_
   refine pop_block_ret ?_
   refine pop_then_ret ?_
   replace hS := hS.to (hS.mem.grNew 39 2 (itV (gtD ([] : List (ByteArray × Int))) 0))
   refine St.retC 0 hS (.tuple #[vnil, vi 16]) [] trivial fun hw => ?_
   refine ⟨([] : List (ByteArray × Int)), none, 0, 16, no, retd (tuple2 (slN ?_) rfl), ?_, (hw.res 0), hw.frA⟩
   all_goals (first | rfl | exact hD | omega)
  ·
   have h2 : ¬ (16 : Int) < ((kk.size : Nat) : Int) := by have h9_ := hb2; omega
   refine hS.regS [0, 0, 0] [1, 3, 5, 8] fun _ => seg [(22, vb (decide ((0 : Int) ≤ (dOf ([]) kk))))] [(0, none), (1, none), (2, none)] [] trivial fun ac wd hS => ?_
   refine hS.condK (decide ((0 : Int) ≤ (dOf ([]) kk))) false (by (rw [hof]; rfl)) ?_
   show Code.wp _ _ _ _ _
   refine wp_region_seq ?_
   refine hS.opsC 3 [0, 0, 100] [1, 5] fun _ => seg [(32, vi 0), (33, .agg #[pt b 0, vi o_, vi z])] [(0, none), (2, none)] [.e (ν1 0), .e (ν1 0), .e (ν1 0)] trivial fun ac wd hS => ?_
   refine hS.call0 29 #[.agg #[pt b 0, vi o_, vi z]] 34 (d_slots b o_ z _  (by first | assumption | omega | (simp_all; done) | (simp_all; omega))) fun ac wd hS => ?_
   refine hS.opsC 2 [0, 0] [1, 5] fun _ => seg [(30, vb (decide (((z / 32) : Int) ≤ 0)))] [(0, none), (1, none)] [] trivial fun ac wd hS => ?_
   refine list_nil_seq ?_
   refine hS.condC (decide (((z / 32) : Int) ≤ 0)) (fun hb3o hb3 => ?_) (fun hb3o hb3 => ?_)
   ·
    have hD := dW_4 (s := z / 32) (L := ([] : List (ByteArray × Int))) (v := nn) h1 h2 (by rw [hof]; decide) (by have h9_ := hb3; simpa using h9_)
    refine hS.regS [0, 0] [] fun _ => seg [(6, vnil), (7, vi 10)] [(0, none)] [] trivial fun ac wd hS => ?_
    refine wp_ret ?_
    refine pop_block_ret ?_
    refine pop_then_ret ?_
    replace hS := hS.to (hS.mem.grNew 39 2 (itV (gtD ([] : List (ByteArray × Int))) 0))
    refine St.retC 0 hS (.tuple #[vnil, vi 10]) [] trivial fun hw => ?_
    refine ⟨([] : List (ByteArray × Int)), none, 0, 10, no, retd (tuple2 (slN ?_) rfl), ?_, (hw.res 0), hw.frA⟩
    all_goals (first | rfl | exact hD | omega)
   ·
    have hD := dW_5 (s := z / 32) (L := ([] : List (ByteArray × Int))) (v := nn) h1 h2 (by rw [hof]; decide) (by have h9_ := hb3; simpa using h9_)
    refine wp_skip ?_
    refine pop_block ?_
    refine pop_then ?_
    replace hS := hS.to (hS.mem.grNew 39 2 (itV (gtD ([] : List (ByteArray × Int))) 0))
    refine wp_region_seq ?_
    refine hS.opsC 3 [0, 100, 0] [] fun ν12 => seg [(36, vnil), (38, sc (ν12 0) 0 1 1)] [(0, none), (2, some ((ν12 0), .cells [.string kk, vu nn] 39))] [.e (ν1 1), .e (ν1 1)] trivial fun ac wd hS => ?_
    obtain ⟨i_, hi_, hz_, hs_, hb_⟩ := info_get (P := Tryz.prog) (e := 39) (z := .agg #[.string (ByteArray.empty), vu 0]) (s := 2) (b := 24) (by kernel_rfl)
    refine Runs1.list ?_
    refine St.appV (m := (([] : List (ByteArray × Int)).length)) (f := (itV (gtD ([] : List (ByteArray × Int))) 0)) (news := [.string kk, vu nn]) (bx := (ν12 0)) (cx := 1) (Tx := 39) 0 hS (.tmp 36) (.tmp 38) 34 rfl rfl (by decide) Tryz.underlying34 hi_ hz_ hs_ (by omega) rfl (by decide) 1 rfl rfl (by first | omega | (simp only [List.length_nil]; omega)) fun ac wd v2_ F6 hB7 hS => ?_
    obtain ⟨xo4, xc5, rfl⟩ := hB7.slice
    replace hS := hS.to (hS.mem.grTell (m := ((([] : List (ByteArray × Int)).length) + 1)) 0 (itV (gtD (([] : List (ByteArray × Int)) ++ [(kk, nn)])) 0) (itV_app ([] : List (ByteArray × Int)) kk nn))
    have hm_ : (([] : List (ByteArray × Int)).length) + 1 = ((([] : List (ByteArray × Int)) ++ [(kk, nn)])).length := by simp
    replace hS := hS.to (hS.mem.grRe (v := .slice xo4 ((([] : List (ByteArray × Int)).length) + 1) xc5) (v' := .slice xo4 (((([] : List (ByteArray × Int)) ++ [(kk, nn)])).length) xc5) (m := ((([] : List (ByteArray × Int)).length) + 1)) (m' := ((([] : List (ByteArray × Int)) ++ [(kk, nn)])).length) (f := (itV (gtD (([] : List (ByteArray × Int)) ++ [(kk, nn)])) 0)) 0 (by rw [hm_]) hm_)
    replace hS := hS.fix 39 (.slice xo4 (((([] : List (ByteArray × Int)) ++ [(kk, nn)])).length) xc5) (show (.slice xo4 ((([] : List (ByteArray × Int)).length) + 1) xc5 : Value) = .slice xo4 (((([] : List (ByteArray × Int)) ++ [(kk, nn)])).length) xc5 by rw [hm_])
    refine hS.opsC 2 [0, 0] [] fun _ => seg [(6, .slice xo4 (((([] : List (ByteArray × Int)) ++ [(kk, nn)])).length) xc5), (7, vi 0)] [(0, none)] [] trivial fun ac wd hS => ?_
    refine list_nil_seq ?_
    refine wp_ret ?_
    refine St.retC 0 hS (.tuple #[.slice xo4 (((([] : List (ByteArray × Int)) ++ [(kk, nn)])).length) xc5, vi 0]) [] trivial fun hw => ?_
    refine ⟨(([] : List (ByteArray × Int)) ++ [(kk, nn)]), xo4, xc5, 0, F6, retd (tuple2 (slN ?_) rfl), ?_, (hw.res 0), hw.frA⟩
    all_goals (first | rfl | exact hD | omega)

set_option maxRecDepth 100000 in
set_option maxHeartbeats 1000000 in
theorem d_with_row (b : Nat) (o_ : Int) (z : Int) (aol : Option Addr) (cl : Nat) (L : List (ByteArray × Int)) (kk : ByteArray) (nn : Int) (Fl : Nat → Prop) (w : World) (hr0 : (grR 39 2 (.slice aol L.length cl) Fl (L.length, (itV (gtD L) 0))).R w) (hh0 : HE.holds w 0 (.fn 0 64 dbT)) (hg0 : ¬ Fl 0) (ho : 0 ≤ o_ ∧ 0 ≤ z ∧ o_ + z ≤ 4294967296) (hL : 0 < L.length) (hL4 : L.length ≤ 4294967200) :
    Calls Tryz.prog 25 #[.agg #[pt b 0, vi o_, vi z], .slice aol L.length cl, .agg #[.string kk, vu nn]] w fun e w' => ∃ (L2 : List (ByteArray × Int)) (ao2 : Option Addr) (c2 : Nat) (e2 : Int) (F' : Nat → Prop), e = .returned (.tuple #[.slice ao2 L2.length c2, vi e2]) ∧ ((L2, e2) = dWith (z / 32) L (kk, nn)) ∧ (grR 39 2 (.slice ao2 L2.length c2) F' (L2.length, (itV (gtD L2) 0))).R w' ∧ Fr w w' Fl F' := by
 have hrg := dOf_rng L kk
 refine enter (args := [.agg #[pt b 0, vi o_, vi z], .slice aol L.length cl, .agg #[.string kk, vu nn]]) (D := Fl) (A := [grR 39 2 (.slice aol L.length cl) Fl (L.length, (itV (gtD L) 0))]) Tryz.func25 rfl 40 rfl [(0, .fn 0 64 dbT)] (WS.startA (r := grR 39 2 (.slice aol L.length cl) Fl (L.length, (itV (gtD L) 0))) hr0 ⟨⟨rfl, hh0⟩, trivial⟩ ⟨hg0, trivial⟩) fun ac hS => ?_
 obtain ⟨gg1, cp2, hv_, hcp_, hO⟩ := WS.grOpen (e := 39) (sz := 2) (m := L.length) (f := (itV (gtD L) 0)) hS.mem (by omega)
 obtain ⟨rfl, rfl⟩ : some (⟨gg1, 0, none⟩ : Addr) = aol ∧ cp2 = cl := by cases hv_; exact ⟨rfl, rfl⟩
 clear hv_
 replace hS := hS.to hO
 clear hO
 refine hS.regS [0, 0, 0, 0] [1] fun ν1 => seg [(3, pt (ν1 0) 0), (5, pt (ν1 1) 0)] [(0, none), (1, none), (2, some ((ν1 0), .cells [pt b 0, vi o_, vi z] 30)), (3, some ((ν1 1), .cells [.string kk, vu nn] 39))] [] trivial fun ac wd hS => ?_
 refine wp_region_seq ?_
 refine hS.opsC 3 [0, 0, 300] [1, 3, 5] fun _ => seg [(9, sc gg1 0 L.length cp2), (11, .string kk)] [(0, none), (1, none), (2, none), (3, none)] [.e (ν1 1)] trivial fun ac wd hS => ?_
 refine hS.call0 27 #[sc gg1 0 L.length cp2, .string kk] 12 (d_of (some ⟨gg1, 0, none⟩) cp2 gg1 0 L kk _ (HE.row_to (hS.mem.get 1 gg1 (.row 39 (L.length * 2) (cp2 * 2) (itV (gtD L) 0))) (by omega) (fun _ _ => rfl)) (.inr rfl) (by first | assumption | omega | (simp_all; done) | (simp_all; omega))) fun ac wd hS => ?_
 refine hS.opsC 1 [0] [1, 3, 5] fun _ => seg [(8, vi (dOf L kk))] [(0, none), (1, none), (2, none), (3, none)] [] trivial fun ac wd hS => ?_
 refine list_nil_seq ?_
 refine wp_seq ?_
 refine wp_block ?_
 refine hS.regS [0, 300, 0, 0] [1, 3, 5, 8] fun _ => seg [(13, vb (ByteArray.toList kk == ByteArray.toList (⟨#[]⟩ : ByteArray)))] [(0, none), (1, none), (2, none), (3, none)] [.e (ν1 1)] trivial fun ac wd hS => ?_
 refine hS.condC (ByteArray.toList kk == ByteArray.toList (⟨#[]⟩ : ByteArray)) (fun hb3o hb3 => ?_) (fun hb3o hb3 => ?_)
 ·
  have hD := dW_1 (s := z / 32) (L := L) (v := nn) hb3o
  refine hS.regS [0, 0] [] fun _ => seg [(6, vnil), (7, vi 17)] [(0, none)] [] trivial fun ac wd hS => ?_
  refine wp_ret ?_
  refine pop_block_ret ?_
  refine pop_then_ret ?_
  replace hS := hS.to (hS.mem.grNew 39 2 (itV (gtD ([] : List (ByteArray × Int))) 0))
  refine St.retC 0 hS (.tuple #[vnil, vi 17]) [] trivial fun hw => ?_
  refine ⟨([] : List (ByteArray × Int)), none, 0, 17, no, retd (tuple2 (slN ?_) rfl), ?_, (hw.res 0), hw.frA⟩
  all_goals (first | rfl | exact hD | omega)
 ·
  have h1 := hb3o
  refine hS.regS [0, 300, 0, 0, 0] [1, 3, 5, 8] fun _ => seg [(17, vb (decide ((16 : Int) < ((ByteArray.size kk : Nat) : Int))))] [(0, none), (1, none), (2, none), (3, none)] [.e (ν1 1)] trivial fun ac wd hS => ?_
  refine hS.condC (decide ((16 : Int) < ((ByteArray.size kk : Nat) : Int))) (fun hb4o hb4 => ?_) (fun hb4o hb4 => ?_)
  ·
   have hD := dW_2 (s := z / 32) (L := L) (v := nn) h1 hb4
   refine hS.regS [0, 0] [] fun _ => seg [(6, vnil), (7, vi 16)] [(0, none)] [] trivial fun ac wd hS => ?_
   refine wp_ret ?_
   refine pop_block_ret ?_
   refine pop_then_ret ?_
   replace hS := hS.to (hS.mem.grNew 39 2 (itV (gtD ([] : List (ByteArray × Int))) 0))
   refine St.retC 0 hS (.tuple #[vnil, vi 16]) [] trivial fun hw => ?_
   refine ⟨([] : List (ByteArray × Int)), none, 0, 16, no, retd (tuple2 (slN ?_) rfl), ?_, (hw.res 0), hw.frA⟩
   all_goals (first | rfl | exact hD | omega)
  ·
   have h2 : ¬ (16 : Int) < ((kk.size : Nat) : Int) := by have h9_ := hb4; omega
   refine hS.regS [0, 0, 0] [1, 3, 5, 8] fun _ => seg [(22, vb (decide ((0 : Int) ≤ (dOf L kk))))] [(0, none), (1, none), (2, none), (3, none)] [] trivial fun ac wd hS => ?_
   refine hS.condC (decide ((0 : Int) ≤ (dOf L kk))) (fun hb5o hb5 => ?_) (fun hb5o hb5 => ?_)
   ·
    have h3 : 0 ≤ dOf L kk := by have h9_ := hb5; omega
    have hD := dW_3 (s := z / 32) (v := nn) h1 h2 h3
    refine hS.regS [0, 0, 300, 20, 100] [1] fun _ => seg [] [(0, none), (1, some (gg1, .row 39 (L.length * 2) (cp2 * 2) (fun x => if x = 0 + Int.toNat (dOf L kk) * 2 + 1 then vu nn else (fun x => if x = 0 + Int.toNat (dOf L kk) * 2 then .string kk else (itV (gtD L) 0) x) x)))] [.e gg1, .p (0 + Int.toNat (dOf L kk) * 2 + 1 < (L.length * 2)), .e gg1, .p (0 + Int.toNat (dOf L kk) * 2 < (L.length * 2)), .p ((0 : Int) ≤ (dOf L kk) ∧ ((dOf L kk) : Int) < ((L.length : Nat) : Int)), .e (ν1 1), .e (ν1 1)] ⟨(by omega), (by omega), (by omega), trivial⟩ fun ac wd hS => ?_
    replace hS := hS.to (hS.mem.tellR 1 (b := gg1) (e := 39) (m := (L.length * 2)) (tot := (cp2 * 2)) (f := (fun x => if x = 0 + Int.toNat (dOf L kk) * 2 + 1 then vu nn else (fun x => if x = 0 + Int.toNat (dOf L kk) * 2 then .string kk else (itV (gtD L) 0) x) x)) (itV (updF (gtD L) (Int.toNat (dOf L kk)) (kk, nn)) 0) (fun o ho => itV_put (gtD L) (Int.toNat (dOf L kk)) kk nn o))
    replace hS := hS.to (hS.mem.tellR 1 (b := gg1) (e := 39) (m := (L.length * 2)) (tot := (cp2 * 2)) (f := (itV (updF (gtD L) (Int.toNat (dOf L kk)) (kk, nn)) 0)) (itV (gtD (L.set (Int.toNat (dOf L kk)) (kk, nn))) 0) (itV_cg0 (fun i_ hi_ => (gtD_set L (Int.toNat (dOf L kk)) _ i_ (by omega)))))
    replace hS := hS.to (hS.mem.grBack (e := 39) (sz := 2) (m := L.length) (tot := (cp2 * 2)) (cap := cp2) (g := gg1) (f := (itV (gtD (L.set (Int.toNat (dOf L kk)) (kk, nn))) 0)) 1 [0] rfl (by omega) (by omega) (H' := [(0, .fn 0 64 dbT)]))
    have hm_ : L.length = ((L.set (Int.toNat (dOf L kk)) (kk, nn))).length := by simp
    replace hS := hS.to (hS.mem.grRe (v := .slice (some ⟨gg1, 0, none⟩) L.length cp2) (v' := .slice (some ⟨gg1, 0, none⟩) (((L.set (Int.toNat (dOf L kk)) (kk, nn))).length) cp2) (m := L.length) (m' := ((L.set (Int.toNat (dOf L kk)) (kk, nn))).length) (f := (itV (gtD (L.set (Int.toNat (dOf L kk)) (kk, nn))) 0)) 0 (by rw [hm_]) hm_)
    replace hS := hS.fix 1 (.slice (some ⟨gg1, 0, none⟩) (((L.set (Int.toNat (dOf L kk)) (kk, nn))).length) cp2) (show (.slice (some ⟨gg1, 0, none⟩) L.length cp2 : Value) = .slice (some ⟨gg1, 0, none⟩) (((L.set (Int.toNat (dOf L kk)) (kk, nn))).length) cp2 by rw [hm_])
    refine hS.regS [0, 0, 0] [] fun _ => seg [(6, .slice (some ⟨gg1, 0, none⟩) (((L.set (Int.toNat (dOf L kk)) (kk, nn))).length) cp2), (7, vi 0)] [(0, none)] [] trivial fun ac wd hS => ?_
    refine wp_ret ?_
    refine pop_block_ret ?_
    refine pop_then_ret ?_
    refine St.retC 0 hS (.tuple #[.slice (some ⟨gg1, 0, none⟩) (((L.set (Int.toNat (dOf L kk)) (kk, nn))).length) cp2, vi 0]) [] trivial fun hw => ?_
    refine ⟨(L.set (Int.toNat (dOf L kk)) (kk, nn)), (some ⟨gg1, 0, none⟩), cp2, 0, one gg1, retd (tuple2 (slN ?_) rfl), ?_, (hw.res 0), hw.frA⟩
    all_goals (first | rfl | exact hD | omega)
   ·
    have h3 : ¬ 0 ≤ dOf L kk := by have h9_ := hb5; omega
    refine wp_region_seq ?_
    refine hS.opsC 3 [0, 0, 200] [1, 5] fun _ => seg [(32, vi ((L.length : Nat) : Int)), (33, .agg #[pt b 0, vi o_, vi z])] [(0, none), (1, none), (3, none)] [.e (ν1 0), .e (ν1 0), .e (ν1 0)] trivial fun ac wd hS => ?_
    refine hS.call0 29 #[.agg #[pt b 0, vi o_, vi z]] 34 (d_slots b o_ z _  (by first | assumption | omega | (simp_all; done) | (simp_all; omega))) fun ac wd hS => ?_
    refine hS.opsC 2 [0, 0] [1, 5] fun _ => seg [(30, vb (decide (((z / 32) : Int) ≤ ((L.length : Nat) : Int))))] [(0, none), (1, none), (2, none)] [] trivial fun ac wd hS => ?_
    refine list_nil_seq ?_
    refine hS.condC (decide (((z / 32) : Int) ≤ ((L.length : Nat) : Int))) (fun hb6o hb6 => ?_) (fun hb6o hb6 => ?_)
    ·
     have hD := dW_4 (s := z / 32) (v := nn) h1 h2 h3 (by have h9_ := hb6; omega)
     refine hS.regS [0, 0] [] fun _ => seg [(6, vnil), (7, vi 10)] [(0, none)] [] trivial fun ac wd hS => ?_
     refine wp_ret ?_
     refine pop_block_ret ?_
     refine pop_then_ret ?_
     replace hS := hS.to (hS.mem.grNew 39 2 (itV (gtD ([] : List (ByteArray × Int))) 0))
     refine St.retC 0 hS (.tuple #[vnil, vi 10]) [] trivial fun hw => ?_
     refine ⟨([] : List (ByteArray × Int)), none, 0, 10, no, retd (tuple2 (slN ?_) rfl), ?_, (hw.res 0), hw.frA⟩
     all_goals (first | rfl | exact hD | omega)
    ·
     have hD := dW_5 (s := z / 32) (v := nn) h1 h2 h3 (by have h9_ := hb6; omega)
     refine wp_skip ?_
     refine pop_block ?_
     refine pop_then ?_
     replace hS := hS.to (hS.mem.grBack (e := 39) (sz := 2) (m := L.length) (tot := (cp2 * 2)) (cap := cp2) (g := gg1) (f := (itV (gtD L) 0)) 1 [0, 2] rfl (by omega) (by omega) (H' := [(0, .fn 0 64 dbT), ((ν1 1), .cells [.string kk, vu nn] 39)]))
     refine wp_region_seq ?_
     refine hS.opsC 3 [0, 100, 0] [] fun ν14 => seg [(36, .slice (some ⟨gg1, 0, none⟩) L.length cp2), (38, sc (ν14 0) 0 1 1)] [(0, none), (2, some ((ν14 0), .cells [.string kk, vu nn] 39))] [.e (ν1 1), .e (ν1 1)] trivial fun ac wd hS => ?_
     obtain ⟨i_, hi_, hz_, hs_, hb_⟩ := info_get (P := Tryz.prog) (e := 39) (z := .agg #[.string (ByteArray.empty), vu 0]) (s := 2) (b := 24) (by kernel_rfl)
     refine Runs1.list ?_
     refine St.appV (m := L.length) (f := (itV (gtD L) 0)) (news := [.string kk, vu nn]) (bx := (ν14 0)) (cx := 1) (Tx := 39) 0 hS (.tmp 36) (.tmp 38) 34 rfl rfl (by decide) Tryz.underlying34 hi_ hz_ hs_ (by omega) rfl (by decide) 1 rfl rfl (by omega) fun ac wd v2_ F9 hB10 hS => ?_
     obtain ⟨xo7, xc8, rfl⟩ := hB10.slice
     replace hS := hS.to (hS.mem.grTell (m := (L.length + 1)) 0 (itV (gtD (L ++ [(kk, nn)])) 0) (itV_app L kk nn))
     have hm_ : L.length + 1 = ((L ++ [(kk, nn)])).length := by simp
     replace hS := hS.to (hS.mem.grRe (v := .slice xo7 (L.length + 1) xc8) (v' := .slice xo7 (((L ++ [(kk, nn)])).length) xc8) (m := (L.length + 1)) (m' := ((L ++ [(kk, nn)])).length) (f := (itV (gtD (L ++ [(kk, nn)])) 0)) 0 (by rw [hm_]) hm_)
     replace hS := hS.fix 39 (.slice xo7 (((L ++ [(kk, nn)])).length) xc8) (show (.slice xo7 (L.length + 1) xc8 : Value) = .slice xo7 (((L ++ [(kk, nn)])).length) xc8 by rw [hm_])
     refine hS.opsC 2 [0, 0] [] fun _ => seg [(6, .slice xo7 (((L ++ [(kk, nn)])).length) xc8), (7, vi 0)] [(0, none)] [] trivial fun ac wd hS => ?_
     refine list_nil_seq ?_
     refine wp_ret ?_
     refine St.retC 0 hS (.tuple #[.slice xo7 (((L ++ [(kk, nn)])).length) xc8, vi 0]) [] trivial fun hw => ?_
     refine ⟨(L ++ [(kk, nn)]), xo7, xc8, 0, F9, retd (tuple2 (slN ?_) rfl), ?_, (hw.res 0), hw.frA⟩
     all_goals (first | rfl | exact hD | omega)

theorem d_with (b : Nat) (o_ : Int) (z : Int) (aol : Option Addr) (cl : Nat) (L : List (ByteArray × Int)) (kk : ByteArray) (nn : Int) (Fl : Nat → Prop) (w : World) (hr0 : (grR 39 2 (.slice aol L.length cl) Fl (L.length, (itV (gtD L) 0))).R w) (hh0 : HE.holds w 0 (.fn 0 64 dbT)) (hg0 : ¬ Fl 0) (ho : 0 ≤ o_ ∧ 0 ≤ z ∧ o_ + z ≤ 4294967296) (hL4 : L.length ≤ 4294967200) :
    Calls Tryz.prog 25 #[.agg #[pt b 0, vi o_, vi z], .slice aol L.length cl, .agg #[.string kk, vu nn]] w fun e w' => ∃ (L2 : List (ByteArray × Int)) (ao2 : Option Addr) (c2 : Nat) (e2 : Int) (F' : Nat → Prop), e = .returned (.tuple #[.slice ao2 L2.length c2, vi e2]) ∧ ((L2, e2) = dWith (z / 32) L (kk, nn)) ∧ (grR 39 2 (.slice ao2 L2.length c2) F' (L2.length, (itV (gtD L2) 0))).R w' ∧ Fr w w' Fl F' := by
 rcases L with _ | ⟨x_, r_⟩
 · exact d_with_nil b o_ z aol cl kk nn Fl w hr0 hh0 hg0 ho
 · exact d_with_row b o_ z aol cl (x_ :: r_) kk nn Fl w hr0 hh0 hg0 ho (by simp) hL4

set_option maxRecDepth 100000 in
set_option maxHeartbeats 1000000 in
theorem d_Put (b : Nat) (F : Nat → Prop) (m : AM) (o_ : Int) (z : Int) (ao1 : Option Addr) (c1 : Nat) (g1 : Nat) (o1 : Nat) (l : List (ByteArray × Int)) (L : List (ByteArray × Int)) (w : World) (hr : (arR b F m).R w) (hh0 : HE.holds w 0 (.fn 0 64 dbT)) (hh1 : HE.holds w g1 (.fn o1 (o1 + l.length * 2) (itV (gtD l) o1))) (hf0 : ¬ F 0) (hf1 : ¬ F g1) (ho : 0 ≤ o_ ∧ 0 ≤ z ∧ o_ + z ≤ 4294967296) (hv1 : (l.length = 0 ∨ ao1 = some ⟨g1, o1, none⟩)) (hR : DtR m o_ z L) (hl4 : l.length ≤ 1000) :
    Calls Tryz.prog 7 #[.agg #[pt b 0, vi o_, vi z], .slice ao1 l.length c1] w fun e w' => ∃ (F' : Nat → Prop), e = .returned (vi ((dPutT (z / 32) L l).2)) ∧ (arR b F' (dPutM m o_ z L l)).R w' ∧ Fr w w' F F' := by
 have hdl := hR.okd.len
 refine enter (args := [.agg #[pt b 0, vi o_, vi z], .slice ao1 l.length c1]) (D := F) (A := [arR b F m]) Tryz.func7 rfl 37 rfl [(0, .fn 0 64 dbT), (g1, .fn o1 (o1 + l.length * 2) (itV (gtD l) o1))] (WS.startA (r := arR b F m) hr ⟨⟨rfl, hh0⟩, ⟨rfl, hh1⟩, trivial⟩ ⟨hf0, hf1, trivial⟩) fun ac hS => ?_
 refine hS.regS [0, 0] [1] fun ν1 => seg [(2, pt (ν1 0) 0)] [(0, none), (1, none), (2, some ((ν1 0), .cells [pt b 0, vi o_, vi z] 30))] [] trivial fun ac wd hS => ?_
 refine wp_seq ?_
 refine hS.regS [0, 0, 200, 0] [1, 2] fun _ => seg [(13, vb false)] [(0, none), (1, none), (2, none)] [.e (ν1 0)] trivial fun ac wd hS => ?_
 refine hS.condF ?_
 refine wp_skip ?_
 refine pop_then ?_
 refine wp_region_seq ?_
 refine hS.opsC 1 [200] [1, 2] fun _ => seg [(14, .agg #[pt b 0, vi o_, vi z])] [(0, none), (1, none), (2, none)] [.e (ν1 0), .e (ν1 0), .e (ν1 0)] trivial fun ac wd hS => ?_
 refine hS.callC 17 #[.agg #[pt b 0, vi o_, vi z]] (d_AllG b F m o_ z L _ (hS.mem.res 0) (by first | assumption | omega | (simp_all; done) | (simp_all; omega)) (by exact hR)) ?_
 rintro _ wd ⟨ao21, c22, F3, rfl, hN, hF⟩
 refine ⟨.slice ao21 L.length c22, rfl, ?_⟩
 replace hS := (hS.to (hS.mem.newA hN hF)).put (d := 15) (v := .slice ao21 L.length c22) (by decide)
 clear hF
 refine hS.opsC 1 [0] [1, 2] fun _ => seg [(5, .slice ao21 L.length c22)] [(0, none), (1, none), (2, none)] [] trivial fun ac wd hS => ?_
 refine list_nil_seq ?_
 refine wp_seq ?_
 refine hS.regS [0, 0, 0] [2, 5] fun _ => seg [(16, .slice ao1 l.length c1), (17, vi ((l.length : Nat) : Int)), (18, vi 0)] [(0, none), (1, none), (2, none)] [] trivial fun ac wd hS => ?_
 refine wp_block ?_
 refine St.loopC (σ := Int × Option Addr × Nat × (Nat → Prop) × (List (ByteArray × Int))) (fun (x : Int × Option Addr × Nat × (Nat → Prop) × (List (ByteArray × Int))) => match x with | (x18, aoq, cq, Fq, lq) => ⟨[(2, [], pt (ν1 0) 0), (5, [], .slice aoq lq.length cq), (16, [], .slice ao1 l.length c1), (17, [], vi ((l.length : Nat) : Int)), (18, [], vi x18)], [(0, .fn 0 64 dbT), (g1, .fn o1 (o1 + l.length * 2) (itV (gtD l) o1)), ((ν1 0), .cells [pt b 0, vi o_, vi z] 30)], [arR b F m, grR 39 2 (.slice aoq lq.length cq) Fq (lq.length, (itV (gtD lq) 0))], (0 ≤ x18 ∧ x18 ≤ (l.length : Int)) ∧ ((lq, (0 : Int)) = dPutT (z / 32) L (l.take (Int.toNat x18))) ∧ (((lq.length : Nat) : Int) ≤ z / 32) ∧ True, l.length - Int.toNat x18⟩) (0, ao21, c22, F3, L) ⟨(by first | omega | rfl | exact hdl), (by first | omega | rfl | exact hdl), (by first | omega | rfl | exact hdl), trivial⟩ hS ?_
 clear hS
 rintro ⟨x18, aoq, cq, Fq, lq⟩ ⟨i0, i1, i2, -⟩ ac wd hS
 replace i0 : 0 ≤ x18 ∧ x18 ≤ (l.length : Int) := i0
 replace i1 : (lq, (0 : Int)) = dPutT (z / 32) L (l.take (Int.toNat x18)) := i1
 replace i2 : ((lq.length : Nat) : Int) ≤ z / 32 := i2
 refine hS.regS [0] [2, 5, 16, 17, 18] fun _ => seg [(19, vb (decide ((x18 : Int) < ((l.length : Nat) : Int))))] [(0, none), (1, none), (2, none)] [] trivial fun ac wd hS => ?_
 refine wp_seq ?_
 refine hS.condC (decide ((x18 : Int) < ((l.length : Nat) : Int))) (fun hb4o hb4 => ?_) (fun hb4o hb4 => ?_)
 ·
  refine wp_skip ?_
  refine pop_then ?_
  refine wp_seq ?_
  refine wp_block ?_
  obtain rfl : ao1 = some ⟨g1, o1, none⟩ := Or.resolve_left hv1 (by omega)
  refine hS.regS [20, fx 100 (.agg #[.string (((gtD l) (Int.toNat x18)).1), vu (((gtD l) (Int.toNat x18)).2)]), 0, 300] [2, 5, 16, 17, 18] fun ν7 => seg [(7, pt (ν7 0) 0)] [(0, none), (1, none), (2, none), (3, some ((ν7 0), .cells [.string (((gtD l) (Int.toNat x18)).1), vu (((gtD l) (Int.toNat x18)).2)] 39))] [.e (ν7 0), .e (ν7 0), .p ((.agg #[((itV (gtD l) o1) (o1 + Int.toNat x18 * 2)), ((itV (gtD l) o1) (o1 + Int.toNat x18 * 2 + 1))] : Value) = .agg #[.string (((gtD l) (Int.toNat x18)).1), vu (((gtD l) (Int.toNat x18)).2)]), .e g1, .p (o1 ≤ o1 + Int.toNat x18 * 2 + 1 ∧ o1 + Int.toNat x18 * 2 + 1 < (o1 + l.length * 2)), .e g1, .p (o1 ≤ o1 + Int.toNat x18 * 2 ∧ o1 + Int.toNat x18 * 2 < (o1 + l.length * 2)), .p ((0 : Int) ≤ x18 ∧ (x18 : Int) < ((l.length : Nat) : Int))] ⟨(agg2 (itV_0 (gtD l) o1 (Int.toNat x18)) (itV_1 (gtD l) o1 (Int.toNat x18))), (by omega), (by omega), (by omega), trivial⟩ fun ac wd hS => ?_
  refine wp_region_seq ?_
  refine hS.opsC 3 [200, 0, 300] [2, 16, 17, 18] fun _ => seg [(23, .agg #[pt b 0, vi o_, vi z]), (24, .slice aoq lq.length cq), (25, .agg #[.string (((gtD l) (Int.toNat x18)).1), vu (((gtD l) (Int.toNat x18)).2)])] [(0, none), (1, none), (2, none)] [.e (ν7 0), .e (ν7 0), .e (ν1 0), .e (ν1 0), .e (ν1 0)] trivial fun ac wd hS => ?_
  refine hS.callC 25 #[.agg #[pt b 0, vi o_, vi z], .slice aoq lq.length cq, .agg #[.string (((gtD l) (Int.toNat x18)).1), vu (((gtD l) (Int.toNat x18)).2)]] (d_with b o_ z aoq cq lq (((gtD l) (Int.toNat x18)).1) (((gtD l) (Int.toNat x18)).2) Fq _ (hS.mem.res 1) (hS.mem.get 0 0 (.fn 0 64 dbT)) (hS.mem.nF (g := 0) (r := grR 39 2 (.slice aoq lq.length cq) Fq (lq.length, (itV (gtD lq) 0))) 0 1) (by first | assumption | omega | (simp_all; done) | (simp_all; omega)) (by omega)) ?_
  rintro _ wd ⟨L25, ao26, c27, e28, F9, rfl, hW10, hN, hF⟩
  refine ⟨.tuple #[.slice ao26 L25.length c27, vi e28], rfl, ?_⟩
  replace hS := (hS.to (hS.mem.stepA 1 (r' := grR 39 2 (.slice ao26 L25.length c27) F9 (L25.length, (itV (gtD L25) 0))) rfl hN hF)).put (d := 26) (v := .tuple #[.slice ao26 L25.length c27, vi e28]) (by decide)
  clear hF
  have hWt := hW10
  refine hS.opsC 5 [0, 0, 0, 0, 0] [2, 16, 17, 18] fun _ => seg [(8, .slice ao26 L25.length c27), (9, vi e28)] [(0, none), (1, none), (2, none)] [] trivial fun ac wd hS => ?_
  refine list_nil_seq ?_
  refine wp_seq ?_
  refine hS.regS [0, 0] [2, 8, 9, 16, 17, 18] fun _ => seg [(30, vb ((e28 : Int) != 0))] [(0, none), (1, none), (2, none)] [] trivial fun ac wd hS => ?_
  refine hS.condC ((e28 : Int) != 0) (fun hb11o hb11 => ?_) (fun hb11o hb11 => ?_)
  ·
   have he0 := hb11
   replace hS := hS.to (hS.mem.forget 1)
   refine hS.regS [0, 0] [] fun _ => seg [(4, vi e28)] [(0, none)] [] trivial fun ac wd hS => ?_
   refine wp_ret ?_
   refine pop_then_ret ?_
   refine pop_block_ret ?_
   refine pop_then_ret ?_
   refine pop_then_ret ?_
   refine pop_block_ret ?_
   refine pop_then_ret ?_
   refine St.retC 0 hS (vi e28) [] trivial fun hw => ?_
   refine ⟨F, retd (vint ?_), (res_eq (r := arR b F m) (by first | exact congrArg _ (dPut_stay i1 i0.1 (by omega) hWt he0 rfl) | exact congrArg _ (dPut_end i1 (by omega)).2) (hw.res 0)), hw.frA⟩
   all_goals (first | exact dPut_err i1 i0.1 (by omega) hWt he0 | exact (dPut_end (m := m) (o := o_) i1 (by omega)).1 | rfl)
  ·
   have he0 := hb11
   refine wp_skip ?_
   refine pop_then ?_
   refine hS.regC [0, 0] [2, 16, 17, 18] fun _ => seg [(5, .slice ao26 L25.length c27)] [(0, none), (1, none), (2, none)] [] trivial fun ac wd hS => ?_
   refine pop_block ?_
   refine pop_then ?_
   refine hS.regC [20, 0] [2, 5, 16, 17] fun _ => seg [(18, vi (x18 + 1))] [(0, none), (1, none), (2, none)] [.p (fit .i64 (x18 + 1))] ⟨fit_i64 (by omega), trivial⟩ fun ac wd hS => ?_
   exact pop_then (hS.next ((x18 + 1), ao26, c27, F9, L25) ⟨(by first | omega | assumption | (simp; done) | (simp; omega)), (by (rw [he0] at hWt; exact hWt.trans (dPut_at i1 i0.1 (by omega)))), (by (rw [he0] at hWt; exact dW_len i2 hWt)), trivial⟩ (by dsimp only; omega))
 ·
  refine wp_exit ?_
  refine pop_then_exit ?_
  refine pop_then_exit ?_
  refine pop_block_hit ?_
  refine pop_then ?_
  obtain ⟨gl12, hl13, hO⟩ := WS.grList (e := 39) (sz := 2) (m := lq.length) (F := Fq) (f := (itV (gtD lq) 0)) (ao := aoq) (c2 := cq) hS.mem 1 0 (b := 0) (lo := 0) (hi := 64) (fd := dbT)
  replace hS := hS.to hO
  clear hO
  refine wp_region_seq ?_
  refine hS.opsC 2 [200, 0] [] fun _ => seg [(34, .agg #[pt b 0, vi o_, vi z]), (35, .slice aoq lq.length cq)] [(0, none), (3, none)] [.e (ν1 0), .e (ν1 0), .e (ν1 0)] trivial fun ac wd hS => ?_
  refine hS.callC 26 #[.agg #[pt b 0, vi o_, vi z], .slice aoq lq.length cq] (d_lay b F m o_ z aoq cq gl12 0 lq _ (hS.mem.res 0) (hS.mem.get 1 gl12 (.fn 0 (0 + lq.length * 2) (itV (gtD lq) 0))) (hS.mem.nF (g := gl12) (r := arR b F m) 1 0) (by first | assumption | omega | (simp_all; done) | (simp_all; omega)) hl13 (by exact i2)) ?_
  rintro _ wd ⟨F14, rfl, hA, hF⟩
  refine ⟨.tuple #[], rfl, ?_⟩
  replace hS := (hS.to (hS.mem.stepA 0 rfl hA hF)).put (d := 36) (v := .tuple #[]) (by decide)
  clear hF
  refine list_nil_seq ?_
  refine hS.regS [0] [] fun _ => seg [(4, vi 0)] [(0, none)] [] trivial fun ac wd hS => ?_
  refine wp_ret ?_
  refine St.retC 0 hS (vi 0) [] trivial fun hw => ?_
  refine ⟨F14, retd (vint ?_), (res_eq (r := arR b F14 (dLayM m o_ z lq)) (by first | exact congrArg _ (dPut_stay i1 i0.1 (by omega) hWt he0 rfl) | exact congrArg _ (dPut_end i1 (by omega)).2) (hw.res 0)), hw.frA⟩
  all_goals (first | exact dPut_err i1 i0.1 (by omega) hWt he0 | exact (dPut_end (m := m) (o := o_) i1 (by omega)).1 | rfl)

set_option maxRecDepth 100000 in
set_option maxHeartbeats 1000000 in
theorem d_Set (b : Nat) (F : Nat → Prop) (m : AM) (o_ : Int) (z : Int) (kk : ByteArray) (nn : Int) (L : List (ByteArray × Int)) (w : World) (hr : (arR b F m).R w) (hh0 : HE.holds w 0 (.fn 0 64 dbT)) (hf0 : ¬ F 0) (ho : 0 ≤ o_ ∧ 0 ≤ z ∧ o_ + z ≤ 4294967296) (hR : DtR m o_ z L) :
    Calls Tryz.prog 12 #[.agg #[pt b 0, vi o_, vi z], .string kk, vu nn] w fun e w' => ∃ (F' : Nat → Prop), e = .returned (vi ((dPutT (z / 32) L [(kk, nn)]).2)) ∧ (arR b F' (dPutM m o_ z L [(kk, nn)])).R w' ∧ Fr w w' F F' := by
 refine enter (args := [.agg #[pt b 0, vi o_, vi z], .string kk, vu nn]) (D := F) (A := [arR b F m]) Tryz.func12 rfl 13 rfl [(0, .fn 0 64 dbT)] (WS.startA (r := arR b F m) hr ⟨⟨rfl, hh0⟩, trivial⟩ ⟨hf0, trivial⟩) fun ac hS => ?_
 refine hS.regS [0, 0] [1, 2] fun ν1 => seg [(3, pt (ν1 0) 0)] [(0, none), (1, some ((ν1 0), .cells [pt b 0, vi o_, vi z] 30))] [] trivial fun ac wd hS => ?_
 refine wp_region_seq ?_
 refine hS.opsC 5 [100, 0, 0, 0, 0] [] fun ν2 => seg [(7, .agg #[pt b 0, vi o_, vi z]), (11, sc (ν2 0) 0 1 1)] [(0, none), (2, some ((ν2 0), .cells [.string kk, vu nn] 39))] [.e (ν1 0), .e (ν1 0), .e (ν1 0)] trivial fun ac wd hS => ?_
 refine hS.callC 7 #[.agg #[pt b 0, vi o_, vi z], sc (ν2 0) 0 1 1] (d_Put b F m o_ z (some ⟨(ν2 0), 0, none⟩) 1 (ν2 0) 0 ([(kk, nn)]) L _ (hS.mem.res 0) (hS.mem.get 0 0 (.fn 0 64 dbT)) (HE.of_cells (hS.mem.get 1 (ν2 0) (.cells [.string kk, vu nn] 39)) (by intro o_ ho_; (rcases o_ with _ | _ | o_; rfl; rfl; exact absurd ho_ (by simp)))) (hS.mem.nF (g := 0) (r := arR b F m) 0 0) (hS.mem.nF (g := (ν2 0)) (r := arR b F m) 1 0) (by first | assumption | omega | (simp_all; done) | (simp_all; omega)) (.inr rfl) (by exact hR) (by simp)) ?_
 rintro _ wd ⟨F1, rfl, hA, hF⟩
 refine ⟨vi ((dPutT (z / 32) L ([(kk, nn)])).2), rfl, ?_⟩
 replace hS := (hS.to (hS.mem.stepA 0 rfl hA hF)).put (d := 12) (v := vi ((dPutT (z / 32) L ([(kk, nn)])).2)) (by decide)
 clear hF
 refine hS.opsC 1 [0] [] fun _ => seg [(6, vi ((dPutT (z / 32) L ([(kk, nn)])).2))] [(0, none)] [] trivial fun ac wd hS => ?_
 refine list_nil_seq ?_
 refine wp_ret ?_
 refine St.retC 0 hS (vi ((dPutT (z / 32) L ([(kk, nn)])).2)) [] trivial fun hw => ?_
 refine ⟨F1, retd (vint ?_), (res_eq (r := arR b F1 (dPutM m o_ z L ([(kk, nn)]))) (by rfl) (hw.res 0)), hw.frA⟩
 all_goals (rfl)

set_option maxRecDepth 100000 in
set_option maxHeartbeats 1000000 in
theorem d_Get (b : Nat) (F : Nat → Prop) (m : AM) (o_ : Int) (z : Int) (kk : ByteArray) (L : List (ByteArray × Int)) (w : World) (hr : (arR b F m).R w) (hh0 : HE.holds w 0 (.fn 0 64 dbT)) (ho : 0 ≤ o_ ∧ 0 ≤ z ∧ o_ + z ≤ 4294967296) (hR : DtR m o_ z L) :
    Calls Tryz.prog 14 #[.agg #[pt b 0, vi o_, vi z], .string kk] w fun e w' => e = .returned (.tuple #[vu (dGetV L kk), vb (dGetB L kk)]) ∧ Fr w w' no no := by
 have hrg := dOf_rng L kk
 have hdl := hR.okd.len
 refine enter (args := [.agg #[pt b 0, vi o_, vi z], .string kk]) (D := no) (A := []) Tryz.func14 rfl 20 rfl [(0, .fn 0 64 dbT)] (WS.startL ⟨⟨rfl, hh0⟩, trivial⟩) fun ac hS => ?_
 refine hS.regS [0, 0, 0] [1] fun ν1 => seg [(2, pt (ν1 0) 0)] [(0, none), (1, some ((ν1 0), .cells [pt b 0, vi o_, vi z] 30))] [] trivial fun ac wd hS => ?_
 refine wp_region_seq ?_
 refine hS.opsC 1 [100] [1] fun _ => seg [(8, .agg #[pt b 0, vi o_, vi z])] [(0, none)] [.e (ν1 0), .e (ν1 0), .e (ν1 0)] trivial fun ac wd hS => ?_
 refine hS.callC 17 #[.agg #[pt b 0, vi o_, vi z]] (d_All b F m o_ z L _ (Res.keep hr hS.mem.fr) (hS.mem.get 0 0 (.fn 0 64 dbT)) (by first | assumption | omega | (simp_all; done) | (simp_all; omega)) (by exact hR)) ?_
 rintro _ wd ⟨ao21, c22, g23, o24, rfl, hv25, hog0, hoh0, hF⟩
 have ho6 : g23 = 0 ∨ w.heap.size ≤ g23 := by have := hS.mem.fr.size; have : w.heap.size ≤ _ := this; omega
 refine ⟨.slice ao21 L.length c22, rfl, ?_⟩
 replace hS := (hS.to (hS.mem.outs hF [(g23, .fn o24 (o24 + L.length * 2) (itV (gtD L) o24))] ⟨⟨rfl, hoh0, (fun q_ => q_.elim (fun e => .inl ⟨0, .fn 0 64 dbT, by rw [e]; as_aux_lemma => kernel_rfl, rfl⟩) (fun q_ => .inr q_)) hog0⟩, trivial⟩)).put (d := 9) (v := .slice ao21 L.length c22) (by decide)
 clear hF
 refine hS.opsC 1 [0] [1] fun _ => seg [(6, .slice ao21 L.length c22)] [(0, none), (1, none)] [] trivial fun ac wd hS => ?_
 refine list_nil_seq ?_
 refine wp_seq ?_
 refine wp_region_seq ?_
 refine hS.opsC 2 [0, 0] [6] fun _ => seg [(10, .slice ao21 L.length c22), (11, .string kk)] [(0, none), (1, none)] [] trivial fun ac wd hS => ?_
 refine hS.call0 27 #[.slice ao21 L.length c22, .string kk] 12 (d_of ao21 c22 g23 o24 L kk _ (hS.mem.get 1 g23 (.fn o24 (o24 + L.length * 2) (itV (gtD L) o24))) hv25 (by first | assumption | omega | (simp_all; done) | (simp_all; omega))) fun ac wd hS => ?_
 refine hS.opsC 1 [0] [6] fun _ => seg [(7, vi (dOf L kk))] [(0, none), (1, none)] [] trivial fun ac wd hS => ?_
 refine list_nil_seq ?_
 refine hS.regS [0, 0] [6, 7] fun _ => seg [(14, vb (decide ((0 : Int) ≤ (dOf L kk))))] [(0, none), (1, none)] [] trivial fun ac wd hS => ?_
 refine hS.condC (decide ((0 : Int) ≤ (dOf L kk))) (fun hb7o hb7 => ?_) (fun hb7o hb7 => ?_)
 ·
  obtain ⟨hD, hE⟩ := dGet_1 (L := L) (key := kk) (by have h9_ := hb7; omega)
  obtain rfl : ao21 = some ⟨g23, o24, none⟩ := Or.resolve_left hv25 (by omega)
  refine hS.regS [0, 0, 20, 0, fx 100 (vu (((gtD L) (Int.toNat (dOf L kk))).2)), 0, 0] [] fun _ => seg [(4, vu (((gtD L) (Int.toNat (dOf L kk))).2)), (5, vb true)] [(0, none)] [.p ((((itV (gtD L) o24) (o24 + Int.toNat (dOf L kk) * 2 + 1)) : Value) = vu (((gtD L) (Int.toNat (dOf L kk))).2)), .e g23, .p (o24 ≤ o24 + Int.toNat (dOf L kk) * 2 + 1 ∧ o24 + Int.toNat (dOf L kk) * 2 + 1 < (o24 + L.length * 2)), .p ((0 : Int) ≤ (dOf L kk) ∧ ((dOf L kk) : Int) < ((L.length : Nat) : Int))] ⟨((itV_1 (gtD L) o24 (Int.toNat (dOf L kk)))), (by omega), (by omega), trivial⟩ fun ac wd hS => ?_
  refine wp_ret ?_
  refine pop_then_ret ?_
  refine St.retC 0 hS (.tuple #[vu (((gtD L) (Int.toNat (dOf L kk))).2), vb true]) [] trivial fun hw => ?_
  refine ⟨retd (tuple2 (vint ?_) (vbool ?_)), hw.fr0⟩
  all_goals (first | exact hD | exact hE | rfl)
 ·
  obtain ⟨hD, hE⟩ := dGet_2 (L := L) (key := kk) (by have h9_ := hb7; omega)
  refine wp_skip ?_
  refine pop_then ?_
  refine hS.regS [0, 0] [] fun _ => seg [(4, vu 0), (5, vb false)] [(0, none)] [] trivial fun ac wd hS => ?_
  refine wp_ret ?_
  refine St.retC 0 hS (.tuple #[vu 0, vb false]) [] trivial fun hw => ?_
  refine ⟨retd (tuple2 (vint ?_) (vbool ?_)), hw.fr0⟩
  all_goals (first | exact hD | exact hE | rfl)

set_option maxRecDepth 100000 in
set_option maxHeartbeats 1000000 in
theorem d_Open (b : Nat) (o_ : Int) (z : Int) (w : World) :
    Calls Tryz.prog 20 #[.agg #[pt b 0, vi o_, vi z]] w fun e w' => e = .returned (.agg #[pt b 0, vi o_, vi z]) ∧ Fr w w' no no := by
 refine enter (args := [.agg #[pt b 0, vi o_, vi z]]) (D := no) (A := []) Tryz.func20 rfl 5 rfl [] (WS.startL trivial) fun ac hS => ?_
 refine hS.regS [0, 0] [] fun ν1 => seg [(1, pt (ν1 0) 0), (2, pt (ν1 1) 0)] [(0, some ((ν1 0), .cells [pt b 0, vi o_, vi z] 28)), (1, some ((ν1 1), .cells [pnil, vi 0, vi 0] 30))] [] trivial fun ac wd hS => ?_
 refine hS.regS [0, 0, 100] [2] fun _ => seg [] [(1, some ((ν1 1), .cells [pt b 0, vi o_, vi z] 30))] [.e (ν1 1), .e (ν1 1), .e (ν1 1), .e (ν1 0), .e (ν1 0), .e (ν1 0)] trivial fun ac wd hS => ?_
 refine wp_ret ?_
 refine St.retC 0 hS (.agg #[pt b 0, vi o_, vi z]) [.e (ν1 1), .e (ν1 1), .e (ν1 1)] trivial fun hw => ?_
 refine ⟨retd rfl, hw.fr0⟩

set_option maxRecDepth 100000 in
set_option maxHeartbeats 1000000 in
theorem d_Delete (gl : Nat) (cp : Nat) (L : List (ByteArray × Int)) (ix : Int) (w : World) (hm : HE.holds w gl (.row 39 (L.length * 2) (cp * 2) (itV (gtD L) 0))) (hx : 0 ≤ ix ∧ ix < ((L.length : Nat) : Int)) (hl : L.length ≤ 4294967296 ∧ L.length ≤ cp) :
    Calls Tryz.prog 28 #[sc gl 0 L.length cp, vi ix, vi (ix + 1)] w fun e w' => ∃ (E2 : Nat → ByteArray × Int), e = .returned (sc gl 0 ((L.eraseIdx (Int.toNat ix)).length) cp) ∧ (∀ i, i < L.length - 1 → E2 i = gtD (L.eraseIdx (Int.toNat ix)) i) ∧ HE.holds w' gl (.row 39 (L.length * 2) (cp * 2) (itV E2 0)) ∧ Fr w w' (K.one gl) no := by
 obtain ⟨hl1, hl2⟩ := hl
 have hel := List.length_eraseIdx_of_lt (l := L) (i := Int.toNat ix) (by omega)
 refine enter (args := [sc gl 0 L.length cp, vi ix, vi (ix + 1)]) (D := K.one gl) (A := []) Tryz.func28 rfl 33 rfl [(gl, .row 39 (L.length * 2) (cp * 2) (itV (gtD L) 0))] (WS.startM (H := []) hm trivial trivial) fun ac hS => ?_
 refine hS.regS [0] [0, 1, 2] fun _ => seg [] [(0, none)] [] trivial fun ac wd hS => ?_
 refine wp_region_seq ?_
 refine hS.opsC 5 [0, 0, 0, 0, 0] [0, 1, 2] fun _ => seg [(8, sc gl 0 L.length cp), (9, vi ix), (10, vi (ix + 1)), (12, vi ((L.length : Nat) : Int))] [(0, none)] [] trivial fun ac wd hS => ?_
 refine Runs1.list ?_
 obtain ⟨i_, hi_, hz_, hs_, hb_⟩ := info_get (P := Tryz.prog) (e := 39) (z := .agg #[.string (ByteArray.empty), vu 0]) (s := 2) (b := 24) (by kernel_rfl)
 refine St.slc3 hS 34 (.tmp 8) (.tmp 9) (.tmp 10) (.tmp 12) rfl rfl (by decide) Tryz.underlying34 hi_ (ao := some ⟨gl, 0, none⟩) (l := ix) (u := (ix + 1)) (q := ((L.length : Nat) : Int)) (k := L.length) (cp := cp) (by omega) (by omega) (by omega) (by omega) fun ac v3_ hS => ?_
 refine list_nil_seq ?_
 refine wp_seq ?_
 refine hS.regS [0, 0, 0] [0, 1, 2] fun _ => seg [(16, vb ((ix : Int) == (ix + 1)))] [(0, none)] [] trivial fun ac wd hS => ?_
 refine hS.condK ((ix : Int) == (ix + 1)) false (by exact beq_eq_false_iff_ne.2 (by omega)) ?_
 show Code.wp _ _ _ _ _
 refine wp_skip ?_
 refine pop_then ?_
 refine hS.regS [0, 0, 0] [0, 1, 2] fun _ => seg [(7, vi ((L.length : Nat) : Int))] [(0, none)] [] trivial fun ac wd hS => ?_
 refine St.ordBeginS [(0, 1), (1, 1), (2, 1), (3, 1), (4, 1), (5, 1), (6, 0), (7, 1)] [] [] hS fun wd hS => ?_
 have hap := hS.mem.pairs (Hf := []) (l := [])
 refine St.ordF [0, 0, fx 20 (sc gl 0 (Int.toNat ix) cp), 0, 0, fx 10 (sc gl (sadd cp (Int.toNat ((ix + 1) : Int)) 0 2) (L.length - (Int.toNat (ix + 1))) (cp - (Int.toNat (ix + 1))))] [0, 1, 2, 3, 4, 5] [0, 7] (rest := [(6, 0), (7, 1)]) hS hap <| segF [(22, sc gl 0 (Int.toNat ix) cp), (25, sc gl (sadd cp (Int.toNat ((ix + 1) : Int)) 0 2) (L.length - (Int.toNat (ix + 1))) (cp - (Int.toNat (ix + 1))))] [.p ((sc gl (sadd cp (Int.toNat ((ix + 1) : Int)) 0 2) (Int.toNat ((L.length : Nat) : Int) - Int.toNat ((ix + 1) : Int)) (cp - Int.toNat ((ix + 1) : Int)) : Value) = sc gl (sadd cp (Int.toNat ((ix + 1) : Int)) 0 2) (L.length - (Int.toNat (ix + 1))) (cp - (Int.toNat (ix + 1)))), .p (0 ≤ ((ix + 1) : Int) ∧ ((ix + 1) : Int) ≤ ((L.length : Nat) : Int) ∧ ((L.length : Nat) : Int) ≤ ((cp : Nat) : Int) ∧ L.length ≤ cp), .p ((sc gl 0 (Int.toNat (ix : Int)) cp : Value) = sc gl 0 (Int.toNat ix) cp), .p (0 ≤ (ix : Int) ∧ (ix : Int) ≤ ((cp : Nat) : Int) ∧ L.length ≤ cp ∧ (0 : Int) = 0)] ⟨(rfl), (by omega), (rfl), (by omega), trivial⟩ fun ac hS => ?_
 refine Runs1.ord (i := 6) ?_
 obtain ⟨i_, hi_, hz_, hs_, hb_⟩ := info_get (P := Tryz.prog) (e := 39) (z := .agg #[.string (ByteArray.empty), vu 0]) (s := 2) (b := 24) (by kernel_rfl)
 have hsd_ := sadd_or cp (Int.toNat (ix + 1)) 0 2
 refine St.appO hS (.tmp 22) (.tmp 25) 34 rfl rfl (by decide) Tryz.underlying34 hi_ hs_ (b := gl) (q := (Int.toNat ix)) (cp := cp) (k := (L.length - (Int.toNat (ix + 1)))) (ck := (cp - (Int.toNat (ix + 1)))) (m := L.length * 2) (tot := cp * 2) (g := gl) (so := (sadd cp (Int.toNat ((ix + 1) : Int)) 0 2)) (f := itV (gtD L) 0) (F := (fun j_ => itV (gtD L) 0 ((sadd cp (Int.toNat ((ix + 1) : Int)) 0 2) + j_))) 0 (.inr rfl) (CellsV.fn (HE.of_row (hS.mem.get 0 gl (.row 39 (L.length * 2) (cp * 2) (itV (gtD L) 0))) (fun _ _ => rfl)) (by omega) (by omega)) (fun z_ _ => itV_one _ _ _) (by omega) (by omega) fun ac wd hS => ?_
 replace hS := hS.to (hS.mem.tellR 0 (b := gl) (e := 39) (m := L.length * 2) (tot := cp * 2) (f := segV (itV (gtD L) 0) ((Int.toNat ix) * 2) ((L.length - (Int.toNat (ix + 1))) * 2) (fun j_ => itV (gtD L) 0 ((sadd cp (Int.toNat ((ix + 1) : Int)) 0 2) + j_))) (itV (delU L (Int.toNat ix)) 0) (fun o_ ho_ => (del_seg (by omega) (by omega) (by omega) o_ ho_).symm))
 replace hS := hS.fix 26 (sc gl 0 (L.length - 1) cp) (show (sc gl 0 ((Int.toNat ix) + (L.length - (Int.toNat (ix + 1)))) cp : Value) = sc gl 0 (L.length - 1) cp by rw [show (Int.toNat ix) + (L.length - (Int.toNat (ix + 1))) = L.length - 1 by omega])
 refine hS.ordV (l := []) ?_
 refine St.ordF [0] [7] [7] (rest := []) hS hap <| segF [(0, sc gl 0 (L.length - 1) cp)] [] trivial fun ac hS => ?_
 refine ord_nil ?_
 refine wp_region_seq ?_
 refine hS.opsC 5 [0, 0, 0, 0, fx 10 (sc gl (sadd cp (Int.toNat ((((L.length - 1) : Nat) : Int) : Int)) 0 2) (L.length - (L.length - 1)) (cp - (L.length - 1)))] [0] fun _ => seg [(31, sc gl (sadd cp (Int.toNat ((((L.length - 1) : Nat) : Int) : Int)) 0 2) (L.length - (L.length - 1)) (cp - (L.length - 1)))] [(0, none)] [.p ((sc gl (sadd cp (Int.toNat ((((L.length - 1) : Nat) : Int) : Int)) 0 2) (Int.toNat (((L.length : Nat) : Int) : Int) - Int.toNat ((((L.length - 1) : Nat) : Int) : Int)) (cp - Int.toNat ((((L.length - 1) : Nat) : Int) : Int)) : Value) = sc gl (sadd cp (Int.toNat ((((L.length - 1) : Nat) : Int) : Int)) 0 2) (L.length - (L.length - 1)) (cp - (L.length - 1))), .p (0 ≤ ((((L.length - 1) : Nat) : Int) : Int) ∧ ((((L.length - 1) : Nat) : Int) : Int) ≤ (((L.length : Nat) : Int) : Int) ∧ (((L.length : Nat) : Int) : Int) ≤ ((cp : Nat) : Int) ∧ (L.length - 1) ≤ cp)] ⟨(rfl), (by omega), trivial⟩ fun ac wd hS => ?_
 refine Runs1.list ?_
 obtain ⟨i_, hi_, hz_, hs_, hb_⟩ := info_get (P := Tryz.prog) (e := 39) (z := .agg #[.string (ByteArray.empty), vu 0]) (s := 2) (b := 24) (by kernel_rfl)
 have hof_ : (sadd cp (Int.toNat ((((L.length - 1) : Nat) : Int) : Int)) 0 2) = (L.length - 1) * 2 := by rw [sadd_ne (by omega)]; omega
 refine St.clearW hS (.tmp 31) 34 rfl rfl Tryz.underlying34 hi_ hz_ hs_ rfl (by decide) (e2 := 39) (b := gl) (off := (sadd cp (Int.toNat ((((L.length - 1) : Nat) : Int) : Int)) 0 2)) (k := (L.length - (L.length - 1))) (cp := (cp - (L.length - 1))) (m := L.length * 2) (tot := cp * 2) (f := itV (delU L (Int.toNat ix)) 0) 0 (by omega) (by omega) fun wd hS => ?_
 obtain ⟨E2_, hE2_, hE3_⟩ := del_clear (L := L) (i := Int.toNat ix) (k := (L.length - (L.length - 1))) (off := (sadd cp (Int.toNat ((((L.length - 1) : Nat) : Int) : Int)) 0 2)) (g := (fun q => (Builtin.zeroCells (Value.cells (.agg #[.string (ByteArray.empty), vu 0])) ((L.length - (L.length - 1)))).toList.getD q undef)) (by omega) (by omega) hof_ (by rw [show ((L.length - (L.length - 1)) : Nat) = 1 by omega]; kernel_rfl) (by rw [show ((L.length - (L.length - 1)) : Nat) = 1 by omega]; kernel_rfl)
 replace hS := hS.to (hS.mem.tellR 0 (b := gl) (e := 39) (m := L.length * 2) (tot := cp * 2) (f := segV (itV (delU L (Int.toNat ix)) 0) ((sadd cp (Int.toNat ((((L.length - 1) : Nat) : Int) : Int)) 0 2)) ((L.length - (L.length - 1)) * 2) (fun q => (Builtin.zeroCells (Value.cells (.agg #[.string (ByteArray.empty), vu 0])) ((L.length - (L.length - 1)))).toList.getD q undef)) (itV E2_ 0) (fun o_ ho_ => (hE2_ o_ ho_).symm))
 refine list_nil_seq ?_
 refine hS.regS [0, 0] [] fun _ => seg [(6, sc gl 0 (L.length - 1) cp)] [(0, none)] [] trivial fun ac wd hS => ?_
 refine wp_ret ?_
 refine St.retC 0 hS (sc gl 0 (L.length - 1) cp) [] trivial fun hw => ?_
 refine ⟨E2_, retd ?_, ?_, (hw.get 0 gl (.row 39 (L.length * 2) (cp * 2) (itV E2_ 0))), hw.fr0⟩
 all_goals (first | exact hE3_ | (rw [hel]; done) | rfl | omega)

set_option maxRecDepth 100000 in
set_option maxHeartbeats 1000000 in
theorem d_Drop_no (b : Nat) (F : Nat → Prop) (m : AM) (o_ : Int) (z : Int) (kk : ByteArray) (L : List (ByteArray × Int)) (w : World) (hr : (arR b F m).R w) (hh0 : HE.holds w 0 (.fn 0 64 dbT)) (hf0 : ¬ F 0) (ho : 0 ≤ o_ ∧ 0 ≤ z ∧ o_ + z ≤ 4294967296) (hR : DtR m o_ z L) (hno : dOf L kk < 0) :
    Calls Tryz.prog 10 #[.agg #[pt b 0, vi o_, vi z], .string kk] w fun e w' => ∃ (F' : Nat → Prop), e = .returned (vi (dDroE L kk)) ∧ (arR b F' (dDroM m o_ z L kk)).R w' ∧ Fr w w' F F' := by
 have hdl := hR.okd.len
 have hrg := dOf_rng L kk
 refine enter (args := [.agg #[pt b 0, vi o_, vi z], .string kk]) (D := F) (A := [arR b F m]) Tryz.func10 rfl 25 rfl [(0, .fn 0 64 dbT)] (WS.startA (r := arR b F m) hr ⟨⟨rfl, hh0⟩, trivial⟩ ⟨hf0, trivial⟩) fun ac hS => ?_
 refine hS.regS [0, 0] [1] fun ν1 => seg [(2, pt (ν1 0) 0)] [(0, none), (1, some ((ν1 0), .cells [pt b 0, vi o_, vi z] 30))] [] trivial fun ac wd hS => ?_
 refine wp_seq ?_
 refine hS.regS [0, 0, 100, 0] [1, 2] fun _ => seg [(10, vb false)] [(0, none), (1, none)] [.e (ν1 0)] trivial fun ac wd hS => ?_
 refine hS.condF ?_
 refine wp_skip ?_
 refine pop_then ?_
 refine wp_region_seq ?_
 refine hS.opsC 1 [100] [1, 2] fun _ => seg [(11, .agg #[pt b 0, vi o_, vi z])] [(0, none), (1, none)] [.e (ν1 0), .e (ν1 0), .e (ν1 0)] trivial fun ac wd hS => ?_
 refine hS.callC 17 #[.agg #[pt b 0, vi o_, vi z]] (d_All b F m o_ z L _ (hS.mem.res 0) (hS.mem.get 0 0 (.fn 0 64 dbT)) (by first | assumption | omega | (simp_all; done) | (simp_all; omega)) (by exact hR)) ?_
 rintro _ wd ⟨ao21, c22, g23, o24, rfl, hv25, hog0, hoh0, hF⟩
 have ho6 : g23 = 0 ∨ w.heap.size ≤ g23 := by have := hS.mem.fr.size; have : w.heap.size ≤ _ := this; omega
 refine ⟨.slice ao21 L.length c22, rfl, ?_⟩
 replace hS := (hS.to (hS.mem.outs hF [(g23, .fn o24 (o24 + L.length * 2) (itV (gtD L) o24))] ⟨⟨rfl, hoh0, (fun q_ => q_.elim (fun e => .inl ⟨0, .fn 0 64 dbT, by rw [e]; as_aux_lemma => kernel_rfl, rfl⟩) (fun q_ => .inr q_)) hog0⟩, trivial⟩)).put (d := 12) (v := .slice ao21 L.length c22) (by decide)
 clear hF
 refine hS.opsC 1 [0] [1, 2] fun _ => seg [(5, .slice ao21 L.length c22)] [(0, none), (1, none), (2, none)] [] trivial fun ac wd hS => ?_
 refine list_nil_seq ?_
 refine wp_region_seq ?_
 refine hS.opsC 2 [0, 0] [2, 5] fun _ => seg [(13, .slice ao21 L.length c22), (14, .string kk)] [(0, none), (1, none), (2, none)] [] trivial fun ac wd hS => ?_
 refine hS.call0 27 #[.slice ao21 L.length c22, .string kk] 15 (d_of ao21 c22 g23 o24 L kk _ (hS.mem.get 2 g23 (.fn o24 (o24 + L.length * 2) (itV (gtD L) o24))) hv25 (by first | assumption | omega | (simp_all; done) | (simp_all; omega))) fun ac wd hS => ?_
 refine hS.opsC 1 [0] [2, 5] fun _ => seg [(6, vi (dOf L kk))] [(0, none), (1, none), (2, none)] [] trivial fun ac wd hS => ?_
 refine list_nil_seq ?_
 refine wp_seq ?_
 refine hS.regS [0, 0] [2, 5, 6] fun _ => seg [(17, vb (decide (((dOf L kk) : Int) < 0)))] [(0, none), (1, none), (2, none)] [] trivial fun ac wd hS => ?_
 refine hS.condK (decide (((dOf L kk) : Int) < 0)) true (by exact decide_eq_true hno) ?_
 show Code.wp _ _ _ _ _
 refine hS.regS [0] [] fun _ => seg [(4, vi 8)] [(0, none)] [] trivial fun ac wd hS => ?_
 refine wp_ret ?_
 refine pop_then_ret ?_
 refine St.retC 0 hS (vi 8) [] trivial fun hw => ?_
 refine ⟨F, retd (vint ?_), (res_eq (r := arR b F m) (by exact congrArg _ (dDro_1 (m := m) (o := o_) (z := z) (L := L) (key := kk) hno).1) (hw.res 0)), hw.frA⟩
 all_goals (exact (dDro_1 (m := m) (o := o_) (z := z) (L := L) (key := kk) hno).2)

set_option maxRecDepth 100000 in
set_option maxHeartbeats 1000000 in
theorem d_Drop_yes (b : Nat) (F : Nat → Prop) (m : AM) (o_ : Int) (z : Int) (kk : ByteArray) (L : List (ByteArray × Int)) (w : World) (hr : (arR b F m).R w) (hh0 : HE.holds w 0 (.fn 0 64 dbT)) (hf0 : ¬ F 0) (ho : 0 ≤ o_ ∧ 0 ≤ z ∧ o_ + z ≤ 4294967296) (hR : DtR m o_ z L) (hyes : 0 ≤ dOf L kk) :
    Calls Tryz.prog 10 #[.agg #[pt b 0, vi o_, vi z], .string kk] w fun e w' => ∃ (F' : Nat → Prop), e = .returned (vi (dDroE L kk)) ∧ (arR b F' (dDroM m o_ z L kk)).R w' ∧ Fr w w' F F' := by
 have hdl := hR.okd.len
 have hrg := dOf_rng L kk
 refine enter (args := [.agg #[pt b 0, vi o_, vi z], .string kk]) (D := F) (A := [arR b F m]) Tryz.func10 rfl 25 rfl [(0, .fn 0 64 dbT)] (WS.startA (r := arR b F m) hr ⟨⟨rfl, hh0⟩, trivial⟩ ⟨hf0, trivial⟩) fun ac hS => ?_
 refine hS.regS [0, 0] [1] fun ν1 => seg [(2, pt (ν1 0) 0)] [(0, none), (1, some ((ν1 0), .cells [pt b 0, vi o_, vi z] 30))] [] trivial fun ac wd hS => ?_
 refine wp_seq ?_
 refine hS.regS [0, 0, 100, 0] [1, 2] fun _ => seg [(10, vb false)] [(0, none), (1, none)] [.e (ν1 0)] trivial fun ac wd hS => ?_
 refine hS.condF ?_
 refine wp_skip ?_
 refine pop_then ?_
 refine wp_region_seq ?_
 refine hS.opsC 1 [100] [1, 2] fun _ => seg [(11, .agg #[pt b 0, vi o_, vi z])] [(0, none), (1, none)] [.e (ν1 0), .e (ν1 0), .e (ν1 0)] trivial fun ac wd hS => ?_
 refine hS.callC 17 #[.agg #[pt b 0, vi o_, vi z]] (d_AllG b F m o_ z L _ (hS.mem.res 0) (by first | assumption | omega | (simp_all; done) | (simp_all; omega)) (by exact hR)) ?_
 rintro _ wd ⟨ao21, c22, F3, rfl, hN, hF⟩
 refine ⟨.slice ao21 L.length c22, rfl, ?_⟩
 replace hS := (hS.to (hS.mem.newA hN hF)).put (d := 12) (v := .slice ao21 L.length c22) (by decide)
 clear hF
 refine hS.opsC 1 [0] [1, 2] fun _ => seg [(5, .slice ao21 L.length c22)] [(0, none), (1, none)] [] trivial fun ac wd hS => ?_
 refine list_nil_seq ?_
 obtain ⟨gg4, cp5, hv_, hcp_, hO⟩ := WS.grOpenA (e := 39) (sz := 2) (m := L.length) (f := itV (gtD L) 0) hS.mem (by omega)
 obtain ⟨rfl, rfl⟩ : some (⟨gg4, 0, none⟩ : Addr) = ao21 ∧ cp5 = c22 := by cases hv_; exact ⟨rfl, rfl⟩
 clear hv_
 replace hS := hS.to hO
 clear hO
 refine wp_region_seq ?_
 refine hS.opsC 2 [0, 0] [2, 5] fun _ => seg [(13, sc gg4 0 L.length cp5), (14, .string kk)] [(0, none), (1, none), (2, none)] [] trivial fun ac wd hS => ?_
 refine hS.call0 27 #[sc gg4 0 L.length cp5, .string kk] 15 (d_of (some ⟨gg4, 0, none⟩) cp5 gg4 0 L kk _ (HE.row_to (hS.mem.get 2 gg4 (.row 39 (L.length * 2) (cp5 * 2) (itV (gtD L) 0))) (by omega) (fun _ _ => rfl)) (.inr rfl) (by first | assumption | omega | (simp_all; done) | (simp_all; omega))) fun ac wd hS => ?_
 refine hS.opsC 1 [0] [2, 5] fun _ => seg [(6, vi (dOf L kk))] [(0, none), (1, none), (2, none)] [] trivial fun ac wd hS => ?_
 refine list_nil_seq ?_
 refine wp_seq ?_
 refine hS.regS [0, 0] [2, 5, 6] fun _ => seg [(17, vb (decide (((dOf L kk) : Int) < 0)))] [(0, none), (1, none), (2, none)] [] trivial fun ac wd hS => ?_
 refine hS.condK (decide (((dOf L kk) : Int) < 0)) false (by exact decide_eq_false (by omega)) ?_
 show Code.wp _ _ _ _ _
 refine wp_skip ?_
 refine pop_then ?_
 refine St.ordBeginS [(0, 1), (1, 1), (2, 1), (3, 1), (4, 1), (5, 0), (6, 0)] [(0, .fn 0 64 dbT), ((ν1 0), .cells [pt b 0, vi o_, vi z] 30)] [0, 1] hS fun wd hS => ?_
 have hap := hS.mem.pairs (Hf := [(0, .fn 0 64 dbT), ((ν1 0), .cells [pt b 0, vi o_, vi z] 30)]) (l := [0, 1])
 refine St.ordF [100, 0, 0, 0, 20] [0, 1, 2, 3, 4] [] (rest := [(5, 0), (6, 0)]) hS hap <| segF [(18, .agg #[pt b 0, vi o_, vi z]), (19, sc gg4 0 L.length cp5), (20, vi (dOf L kk)), (22, vi ((dOf L kk) + 1))] [.p (fit .i64 ((dOf L kk) + 1)), .e (ν1 0), .e (ν1 0), .e (ν1 0)] ⟨fit_i64 (by omega), trivial⟩ fun ac hS => ?_
 refine hS.ordC 5 28 #[sc gg4 0 L.length cp5, vi (dOf L kk), vi ((dOf L kk) + 1)] (d_Delete gg4 cp5 L (dOf L kk) _ (hS.mem.get 2 gg4 (.row 39 (L.length * 2) (cp5 * 2) (itV (gtD L) 0))) (by omega) (by omega)) ?_
 rintro _ wd ⟨E26, rfl, hE27, hM, hF⟩
 refine ⟨sc gg4 0 ((L.eraseIdx (Int.toNat (dOf L kk))).length) cp5, rfl, ?_⟩
 replace hS := (hS.to (hS.mem.stepM 2 (show _ = some (gg4, .row 39 (L.length * 2) (cp5 * 2) (itV (gtD L) 0)) by as_aux_lemma => kernel_rfl) rfl rfl hM hF)).put (d := 23) (v := sc gg4 0 ((L.eraseIdx (Int.toNat (dOf L kk))).length) cp5) (by decide)
 clear hF
 have hE2t := hE27
 refine hS.ordV (l := [0, 1]) ?_
 refine hS.ordC 6 26 #[.agg #[pt b 0, vi o_, vi z], sc gg4 0 ((L.eraseIdx (Int.toNat (dOf L kk))).length) cp5] (d_lay b F m o_ z (some ⟨gg4, 0, none⟩) cp5 gg4 0 (L.eraseIdx (Int.toNat (dOf L kk))) _ (hS.mem.res 0) (HE.lst_row (k := (L.eraseIdx (Int.toNat (dOf L kk))).length * 2) (hS.mem.get 2 gg4 (.row 39 (L.length * 2) (cp5 * 2) (itV E26 0))) (by rw [List.length_eraseIdx_of_lt (by omega)]; omega) (fun x_ hx_ => itV_cg0 (n := L.length - 1) (fun i_ hi_ => hE2t i_ hi_) x_ (by rw [List.length_eraseIdx_of_lt (by omega)] at hx_; omega))) (hS.mem.nF (g := gg4) (r := arR b F m) 2 0) (by first | assumption | omega | (simp_all; done) | (simp_all; omega)) (.inr rfl) (by (rw [List.length_eraseIdx_of_lt (by omega)]; omega))) ?_
 rintro _ wd ⟨F8, rfl, hA, hF⟩
 refine ⟨.tuple #[], rfl, ?_⟩
 replace hS := (hS.to (hS.mem.stepA 0 rfl hA hF)).put (d := 24) (v := .tuple #[]) (by decide)
 clear hF
 refine hS.ordV (l := [0, 1]) ?_
 refine ord_nil ?_
 refine hS.regS [0] [] fun _ => seg [(4, vi 0)] [(0, none)] [] trivial fun ac wd hS => ?_
 refine wp_ret ?_
 refine St.retC 0 hS (vi 0) [] trivial fun hw => ?_
 refine ⟨F8, retd (vint ?_), (res_eq (r := arR b F8 (dLayM m o_ z (L.eraseIdx (Int.toNat (dOf L kk))))) (by exact congrArg _ (dDro_2 (m := m) (o := o_) (z := z) (L := L) (key := kk) (by omega)).1) (hw.res 0)), hw.frA⟩
 all_goals (exact (dDro_2 (m := m) (o := o_) (z := z) (L := L) (key := kk) (by omega)).2)

theorem d_Drop (b : Nat) (F : Nat → Prop) (m : AM) (o_ : Int) (z : Int) (kk : ByteArray) (L : List (ByteArray × Int)) (w : World) (hr : (arR b F m).R w) (hh0 : HE.holds w 0 (.fn 0 64 dbT)) (hf0 : ¬ F 0) (ho : 0 ≤ o_ ∧ 0 ≤ z ∧ o_ + z ≤ 4294967296) (hR : DtR m o_ z L) :
    Calls Tryz.prog 10 #[.agg #[pt b 0, vi o_, vi z], .string kk] w fun e w' => ∃ (F' : Nat → Prop), e = .returned (vi (dDroE L kk)) ∧ (arR b F' (dDroM m o_ z L kk)).R w' ∧ Fr w w' F F' := by
 rcases Int.lt_or_le (dOf L kk) 0 with h_ | h_
 · exact d_Drop_no b F m o_ z kk L w hr hh0 hf0 ho hR h_
 · exact d_Drop_yes b F m o_ z kk L w hr hh0 hf0 ho hR h_

end Go.Proofs.YtnbkafnikpbmbaaGreatDoor.K
