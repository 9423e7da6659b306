/-
  Walks, printed by w2.py.
-/
import Derived.Test.YtnbkafnikpbmbaaDoorHc
import Derived.Test.YtnbkafnikpbmbaaDoorQa
import Derived.Test.YtnbkafnikpbmbaaDoorQz
import Derived.Test.YtnbkafnikpbmbaaDoorProg
namespace Go.Proofs.YtnbkafnikpbmbaaDoor.K
set_option linter.unusedVariables false
set_option linter.unusedSimpArgs false

set_option maxRecDepth 100000 in
set_option maxHeartbeats 1000000 in
theorem h_All (b : Nat) (F : Nat → Prop) (m : AM) (o_ : Int) (z : Int) (w : World) (hr : (arR b F m).R w) (hh0 : HE.holds w 0 (.fn 0 64 dbT)) (ho : 0 ≤ o_ ∧ 0 ≤ z ∧ o_ + z ≤ 4294967296) :
    Calls Tryd.prog 41 #[.agg #[pt b 0, vi o_, vi z]] w fun e w' => ∃ (ao2 : Option Addr) (c2 : Nat) (g2 : Nat) (o2 : Nat), e = .returned (.slice ao2 ((hAll m o_ z).length) c2) ∧ ((hAll m o_ z).length = 0 ∨ ao2 = some ⟨g2, o2, none⟩) ∧ (g2 = 0 ∨ w.heap.size ≤ g2) ∧ HE.holds w' g2 (.fn o2 (o2 + (hAll m o_ z).length) (u1V (gtD (hAll m o_ z)) o2)) ∧ Fr w w' no no := by
 have hln := hLen_bd (z := z) (by omega)
 refine enter (args := [.agg #[pt b 0, vi o_, vi z]]) (D := no) (A := []) Tryd.func41 rfl 30 rfl [(0, .fn 0 64 dbT)] (WS.startL ⟨⟨rfl, hh0⟩, trivial⟩) fun ac hS => ?_
 refine hS.regS [0, 0] [] fun ν1 => seg [(1, pt (ν1 0) 0)] [(0, none), (1, some ((ν1 0), .cells [pt b 0, vi o_, vi z] 74))] [] trivial fun ac wd hS => ?_
 refine hS.regS [0] [1] fun _ => seg [(3, vnil)] [(0, none), (1, none)] [] trivial fun ac wd hS => ?_
 refine wp_seq ?_
 replace hS := hS.to (hS.mem.grNew 79 1 (u1V (gtD ([] : List (Int))) 0))
 refine wp_region_seq ?_
 refine hS.opsC 1 [100] [1, 3] fun _ => seg [(7, .agg #[pt b 0, vi o_, vi z])] [(0, none), (1, none)] [.e (ν1 0), .e (ν1 0), .e (ν1 0)] trivial fun ac wd hS => ?_
 refine hS.call0 121 #[.agg #[pt b 0, vi o_, vi z]] 8 (h_Len b o_ z _  (by first | assumption | omega | (simp_all; done) | (simp_all; omega))) fun ac wd hS => ?_
 refine hS.opsC 1 [0] [1, 3, 8] fun _ => seg [(9, vi 0)] [(0, none), (1, none)] [] trivial fun ac wd hS => ?_
 refine list_nil_seq ?_
 refine wp_block ?_
 refine St.loopC (σ := Int × Option Addr × Nat × (Nat → Prop) × List (Int)) (fun (x : Int × Option Addr × Nat × (Nat → Prop) × List (Int)) => match x with | (x9, aoq, cq, Fq, lq) => ⟨[(1, [], pt (ν1 0) 0), (3, [], .slice aoq lq.length cq), (8, [], vi (hLen z)), (9, [], vi x9)], [(0, .fn 0 64 dbT), ((ν1 0), .cells [pt b 0, vi o_, vi z] 74)], [grR 79 1 (.slice aoq lq.length cq) Fq (lq.length, (u1V (gtD lq) 0))], (0 ≤ x9 ∧ x9 ≤ hLen z) ∧ (lq = allH (hOn m o_ z) (hHv m o_ z) (Int.toNat x9)) ∧ True, Int.toNat (hLen z - x9)⟩) (0, none, 0, no, ([] : List (Int))) ⟨(by first | omega | rfl), (by first | omega | rfl), trivial⟩ hS ?_
 clear hS
 rintro ⟨x9, aoq, cq, Fq, lq⟩ ⟨i0, i1, -⟩ ac wd hS
 replace i0 : 0 ≤ x9 ∧ x9 ≤ hLen z := i0
 replace i1 : lq = allH (hOn m o_ z) (hHv m o_ z) (Int.toNat x9) := i1
 refine hS.regS [0] [1, 3, 8, 9] fun _ => seg [(10, vb (decide ((x9 : Int) < (hLen z))))] [(0, none), (1, none)] [] trivial fun ac wd hS => ?_
 refine wp_seq ?_
 refine hS.condC (decide ((x9 : Int) < (hLen z))) (fun hb1o hb1 => ?_) (fun hb1o hb1 => ?_)
 ·
  refine wp_skip ?_
  refine pop_then ?_
  refine wp_seq ?_
  refine wp_block ?_
  refine hS.regS [0, 0] [1, 3, 8, 9] fun _ => seg [(4, vi x9)] [(0, none), (1, none)] [] trivial fun ac wd hS => ?_
  refine wp_region_seq ?_
  refine hS.opsC 2 [100, 0] [1, 3, 4, 8, 9] fun _ => seg [(13, .agg #[pt b 0, vi o_, vi z]), (14, vi x9)] [(0, none), (1, none)] [.e (ν1 0), .e (ν1 0), .e (ν1 0)] trivial fun ac wd hS => ?_
  refine hS.call0 122 #[.agg #[pt b 0, vi o_, vi z], vi x9] 15 (h_get b F m o_ z x9 _ (Res.keep hr hS.mem.fr) (by first | assumption | omega | (simp_all; done) | (simp_all; omega)) (by first | assumption | omega | (simp_all; done) | (simp_all; omega))) fun ac wd hS => ?_
  refine hS.opsC 5 [0, 0, 0, 0, 0] [1, 3, 4, 8, 9] fun _ => seg [(5, vi (hAt m o_ z x9)), (6, vu (hGn m o_ z x9))] [(0, none), (1, none)] [] trivial fun ac wd hS => ?_
  refine list_nil_seq ?_
  refine hS.regS [0, 0] [1, 3, 4, 6, 8, 9] fun _ => seg [(19, vb (((hAt m o_ z x9) : Int) != 0))] [(0, none), (1, none)] [] trivial fun ac wd hS => ?_
  refine hS.condC (((hAt m o_ z x9) : Int) != 0) (fun hb2o hb2 => ?_) (fun hb2o hb2 => ?_)
  ·
   have hn : hOn m o_ z (Int.toNat x9) = true := by unfold hOn; rw [Int.toNat_of_nonneg i0.1]; exact hb2o
   refine wp_region_lit ?_
   refine hS.opsC 7 [0, 0, 0, 0, 0, fx 0 (vu (hVl (hGn m o_ z x9) x9)), 0] [1, 3, 8, 9] fun ν10 => seg [(20, .slice aoq lq.length cq), (26, sc (ν10 0) 0 1 1)] [(0, none), (1, none), (2, some ((ν10 0), .cells [vu (hVl (hGn m o_ z x9) x9)] 79))] [.p ((vu (IntKind.wrap .u64 ((IntKind.wrap .u64 ((hGn m o_ z x9) * 256)) + (IntKind.wrap .u64 x9))) : Value) = vu (hVl (hGn m o_ z x9) x9))] ⟨(vint (rfl)), trivial⟩ fun ac wd hS => ?_
   obtain ⟨i_, hi_, hz_, hs_, hb_⟩ := info_get (P := Tryd.prog) (e := 79) (z := vu 0) (s := 1) (b := 8) (by kernel_rfl)
   refine Runs1.list ?_
   refine St.appV (m := lq.length) (f := (u1V (gtD lq) 0)) (news := [vu (hVl (hGn m o_ z x9) x9)]) (bx := (ν10 0)) (cx := 1) (Tx := 79) 0 hS (.tmp 20) (.tmp 26) 78 rfl rfl (by decide) Tryd.underlying78 hi_ hz_ hs_ (by omega) rfl (by decide) 2 rfl rfl (by (have := allH_len (hOn m o_ z) (hHv m o_ z) (Int.toNat x9); rw [← i1] at this; omega)) fun ac wd v2_ F5 hB6 hS => ?_
   obtain ⟨xo3, xc4, rfl⟩ := hB6.slice
   replace hS := hS.to (hS.mem.grTell (m := (lq.length + 1)) 0 (u1V (gtD (lq ++ [(hVl (hGn m o_ z x9) x9)])) 0) (u1V_app lq (hVl (hGn m o_ z x9) x9)))
   have hm_ : lq.length + 1 = ((lq ++ [(hVl (hGn m o_ z x9) x9)])).length := by simp
   replace hS := hS.to (hS.mem.grRe (v := .slice xo3 (lq.length + 1) xc4) (v' := .slice xo3 (((lq ++ [(hVl (hGn m o_ z x9) x9)])).length) xc4) (m := (lq.length + 1)) (m' := ((lq ++ [(hVl (hGn m o_ z x9) x9)])).length) (f := (u1V (gtD (lq ++ [(hVl (hGn m o_ z x9) x9)])) 0)) 0 (by rw [hm_]) hm_)
   replace hS := hS.fix 27 (.slice xo3 (((lq ++ [(hVl (hGn m o_ z x9) x9)])).length) xc4) (show (.slice xo3 (lq.length + 1) xc4 : Value) = .slice xo3 (((lq ++ [(hVl (hGn m o_ z x9) x9)])).length) xc4 by rw [hm_])
   refine hS.opsC 1 [0] [1, 8, 9] fun _ => seg [(3, .slice xo3 (((lq ++ [(hVl (hGn m o_ z x9) x9)])).length) xc4)] [(0, none), (1, none)] [] trivial fun ac wd hS => ?_
   refine list_nil ?_
   refine pop_block ?_
   refine pop_then ?_
   refine hS.regC [20, 0] [1, 3, 8] fun _ => seg [(9, vi (x9 + 1))] [(0, none), (1, none)] [.p (fit .i64 (x9 + 1))] ⟨fit_i64 (by omega), trivial⟩ fun ac wd hS => ?_
   exact pop_then (hS.next ((x9 + 1), xo3, xc4, F5, (lq ++ [(hVl (hGn m o_ z x9) x9)])) ⟨(by first | omega | assumption | (simp; done) | (simp; omega)), (by first | exact hAll_yes i1 i0.1 hn | exact allH_no i1 i0.1 hn), trivial⟩ (by dsimp only; omega))
  ·
   have hn : hOn m o_ z (Int.toNat x9) = false := by unfold hOn; rw [Int.toNat_of_nonneg i0.1]; exact hb2o
   refine wp_skip ?_
   refine pop_block ?_
   refine pop_then ?_
   refine hS.regC [20, 0] [1, 3, 8] fun _ => seg [(9, vi (x9 + 1))] [(0, none), (1, none)] [.p (fit .i64 (x9 + 1))] ⟨fit_i64 (by omega), trivial⟩ fun ac wd hS => ?_
   exact pop_then (hS.next ((x9 + 1), aoq, cq, Fq, lq) ⟨(by first | omega | assumption | (simp; done) | (simp; omega)), (by first | exact hAll_yes i1 i0.1 hn | exact allH_no i1 i0.1 hn), trivial⟩ (by dsimp only; omega))
 ·
  refine wp_exit ?_
  refine pop_then_exit ?_
  refine pop_then_exit ?_
  refine pop_block_hit ?_
  refine pop_then ?_
  refine hS.regS [0, 0] [] fun _ => seg [(2, .slice aoq lq.length cq)] [(0, none)] [] trivial fun ac wd hS => ?_
  refine wp_ret ?_
  have hq_ : (hAll m o_ z) = lq := (show lq = (hAll m o_ z) by rw [i1, show Int.toNat x9 = Int.toNat (hLen z) by omega]; rfl).symm
  subst hq_
  rcases Nat.eq_zero_or_pos ((hAll m o_ z).length) with hz_ | hz_
  ·
   have hm_ : (hAll m o_ z).length = 0 := by exact hz_
   replace hS := hS.to (hS.mem.grRe (v := .slice aoq ((hAll m o_ z).length) cq) (v' := .slice aoq 0 cq) (m := ((hAll m o_ z).length)) (m' := 0) (f := (u1V (gtD (hAll m o_ z)) 0)) 0 (by rw [hm_]) hm_)
   replace hS := hS.fix 2 (.slice aoq 0 cq) (show (.slice aoq ((hAll m o_ z).length) cq : Value) = .slice aoq 0 cq by rw [hm_])
   obtain ⟨hv_, hO⟩ := WS.grNil (e := 79) (sz := 1) (m := 0) (f := (u1V (gtD (hAll m o_ z)) 0)) hS.mem (by omega)
   obtain ⟨rfl, rfl⟩ : (none : Option Addr) = aoq ∧ 0 = cq := by cases hv_; exact ⟨rfl, rfl⟩
   clear hv_
   replace hS := hS.to hO
   clear hO
   refine St.retC 0 hS (vnil) [] trivial fun hw => ?_
   refine ⟨none, 0, 0, 0, retd (slN ?_), (by first | exact (.inl rfl) | exact .inl hz_ | (rw [← hD]; exact (.inl rfl))), (by omega), (HE.fn_none (hw.get 0 0 (.fn 0 64 dbT)) ?_), hw.fr0⟩
   all_goals (first | (first | omega | (simp; omega) | rfl) | (intro x_ hx_; rfl) | (intro x_ hx_ hy_; rfl))
  ·
   obtain ⟨gg7, cp8, hv_, hcp_, hO⟩ := WS.grOpen (e := 79) (sz := 1) (m := ((hAll m o_ z).length)) (f := (u1V (gtD (hAll m o_ z)) 0)) hS.mem (by omega)
   simp only [Nat.mul_one] at hO
   obtain ⟨rfl, rfl⟩ : some (⟨gg7, 0, none⟩ : Addr) = aoq ∧ cp8 = cq := by cases hv_; exact ⟨rfl, rfl⟩
   clear hv_
   replace hS := hS.to hO
   clear hO
   refine St.retC 0 hS (sc gg7 0 ((hAll m o_ z).length) cp8) [] trivial fun hw => ?_
   refine ⟨(some ⟨gg7, 0, none⟩), cp8, gg7, 0, retd rfl, (by first | exact (.inr rfl) | exact .inl hz_ | (rw [← hD]; exact (.inr rfl))), (by have hg_ : w.heap.size ≤ gg7 := (hw.getm 1 gg7 (.row 79 ((hAll m o_ z).length) cp8 (u1V (gtD (hAll m o_ z)) 0))).resolve_right (fun h => h); omega), (HE.row_to (hw.get 1 gg7 (.row 79 ((hAll m o_ z).length) cp8 (u1V (gtD (hAll m o_ z)) 0))) ?_ ?_), hw.fr0⟩
   all_goals (first | (first | omega | (simp; omega) | rfl) | (intro x_ hx_; rfl) | (intro x_ hx_ hy_; rfl))

theorem h_All_r (b : Nat) (F : Nat → Prop) (m : AM) (o_ : Int) (z : Int) (t : List Sl) (w : World) (hr : (arR b F m).R w) (hh0 : HE.holds w 0 (.fn 0 64 dbT)) (hR : HRep m o_ z t) :
    Calls Tryd.prog 41 #[.agg #[pt b 0, vi o_, vi z]] w fun e w' => ∃ (ao2 : Option Addr) (c2 : Nat) (g2 : Nat) (o2 : Nat), e = .returned (.slice ao2 ((rAll t).length) c2) ∧ ((rAll t).length = 0 ∨ ao2 = some ⟨g2, o2, none⟩) ∧ (g2 = 0 ∨ w.heap.size ≤ g2) ∧ HE.holds w' g2 (.fn o2 (o2 + (rAll t).length) (u1V (gtD (rAll t)) o2)) ∧ Fr w w' no no := by
 have hb : 0 ≤ o_ ∧ 0 ≤ z ∧ o_ + z ≤ 4294967296 := ⟨hR.o0, hR.z0, by have := inB_facts (thr_in hR.there); have h4 : m.cap ≤ 1048576 := (by obtain ⟨d, hd⟩ := id hr; exact hd.capLe); omega⟩
 have h_ := h_All b F m o_ z w hr hh0 hb
 rw [hR.all] at h_
 exact h_

theorem h_Get_r (b : Nat) (F : Nat → Prop) (m : AM) (o_ : Int) (z : Int) (h : Int) (t : List Sl) (w : World) (hr : (arR b F m).R w) (hR : HRep m o_ z t) (hh : 0 ≤ h ∧ h ≤ 18446744073709551615) :
    Calls Tryd.prog 40 #[.agg #[pt b 0, vi o_, vi z], vu h] w fun e w' => e = .returned (.tuple #[vi (rGetA t h), vi (rGetE t h)]) ∧ Fr w w' no no := by
 have hb : 0 ≤ o_ ∧ 0 ≤ z ∧ o_ + z ≤ 4294967296 := ⟨hR.o0, hR.z0, by have := inB_facts (thr_in hR.there); have h4 : m.cap ≤ 1048576 := (by obtain ⟨d, hd⟩ := id hr; exact hd.capLe); omega⟩
 have h_ := h_Get b F m o_ z h w hr hb hh
 rw [(hR.get hh).1, (hR.get hh).2] at h_
 exact h_

theorem h_New_r (b : Nat) (F : Nat → Prop) (m : AM) (o_ : Int) (z : Int) (a : Int) (t : List Sl) (w : World) (hr : (arR b F m).R w) (hR : HRep m o_ z t) (ha : a ≤ 9223372036854775807) :
    Calls Tryd.prog 38 #[.agg #[pt b 0, vi o_, vi z], vi a] w fun e w' => ∃ (F' : Nat → Prop), e = .returned (.tuple #[vu (rNewV t a), vi (rNewE t a)]) ∧ (arR b F' (hNwM m o_ z a)).R w' ∧ Fr w w' F F' := by
 have hb : 0 ≤ o_ ∧ 0 ≤ z ∧ o_ + z ≤ 4294967296 := ⟨hR.o0, hR.z0, by have := inB_facts (thr_in hR.there); have h4 : m.cap ≤ 1048576 := (by obtain ⟨d, hd⟩ := id hr; exact hd.capLe); omega⟩
 have h_ := h_New b F m o_ z a w hr hb
 rw [(hR.new ha).2.1, (hR.new ha).2.2] at h_
 exact h_

theorem h_Drop_r (b : Nat) (F : Nat → Prop) (m : AM) (o_ : Int) (z : Int) (h : Int) (t : List Sl) (w : World) (hr : (arR b F m).R w) (hR : HRep m o_ z t) (hh : 0 ≤ h ∧ h ≤ 18446744073709551615) :
    Calls Tryd.prog 39 #[.agg #[pt b 0, vi o_, vi z], vu h] w fun e w' => ∃ (F' : Nat → Prop), e = .returned (vi (rGetE t h)) ∧ (arR b F' (hDrM m o_ z h)).R w' ∧ Fr w w' F F' := by
 have hb : 0 ≤ o_ ∧ 0 ≤ z ∧ o_ + z ≤ 4294967296 := ⟨hR.o0, hR.z0, by have := inB_facts (thr_in hR.there); have h4 : m.cap ≤ 1048576 := (by obtain ⟨d, hd⟩ := id hr; exact hd.capLe); omega⟩
 have h_ := h_Drop b F m o_ z h w hr hb hh
 rw [(hR.get hh).2] at h_
 exact h_

end Go.Proofs.YtnbkafnikpbmbaaDoor.K
