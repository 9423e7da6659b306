/-
  Walks, printed by w2.py.
-/
import Derived.Test.YtdjhdcaanmkblaaDoorPf
import Derived.Test.YtdjhdcaanmkblaaDoorPw
import Derived.Test.YtdjhdcaanmkblaaDoorYh
import Derived.Test.YtdjhdcaanmkblaaDoorVy
import Derived.Test.YtdjhdcaanmkblaaDoorM3
import Derived.Test.YtdjhdcaanmkblaaDoorTb
import Derived.Test.YtdjhdcaanmkblaaDoorProg
namespace Go.Proofs.YtdjhdcaanmkblaaDoor.K
set_option linter.unusedVariables false
set_option linter.unusedSimpArgs false

theorem vw_PartY (b : Nat) (F : Nat → Prop) (m : AM) (o_ : Int) (z : Int) (a : Int) (k : Int) (w : World) (hr : (arR b F m).R w) (ho : 0 ≤ o_ ∧ 0 ≤ z ∧ o_ + z ≤ 4294967296) (hw : wiM m o_ z a k = true) :
    Calls Tryd.prog 74 #[.agg #[pt b 0, vi o_, vi z], vi a, vi k] w fun e w' => e = .returned (.tuple #[.agg #[pt b 0, vi (o_ + a), vi k], vi 0]) ∧ Fr w w' no no := by
 exact vw_Part (hr := hr) (ho := ho) (hc := (wi_in hw).1) (ht := (wi_in hw).2)

set_option maxRecDepth 100000 in
set_option maxHeartbeats 1000000 in
theorem vw_PartN (b : Nat) (F : Nat → Prop) (m : AM) (o_ : Int) (z : Int) (a : Int) (k : Int) (w : World) (hr : (arR b F m).R w) (ho : 0 ≤ o_ ∧ 0 ≤ z ∧ o_ + z ≤ 4294967296) (hw : wiM m o_ z a k = false) :
    Calls Tryd.prog 74 #[.agg #[pt b 0, vi o_, vi z], vi a, vi k] w fun e w' => e = .returned (.tuple #[.agg #[pnil, vi 0, vi 0], vi 3]) ∧ Fr w w' no no := by
 refine enter (args := [.agg #[pt b 0, vi o_, vi z], vi a, vi k]) (D := no) (A := []) Tryd.func74 rfl 27 rfl [] (WS.startL trivial) fun ac hS => ?_
 refine hS.regS [0, 0, 0] [1, 2] fun ν1 => seg [(3, pt (ν1 0) 0), (6, pt (ν1 1) 0)] [(0, some ((ν1 0), .cells [pt b 0, vi o_, vi z] 55)), (1, some ((ν1 1), .cells [pnil, vi 0, vi 0] 55))] [] trivial fun ac wd hS => ?_
 refine wp_seq ?_
 refine wp_region_seq ?_
 refine hS.opsC 3 [0, 0, 0] [1, 2, 3, 6] fun _ => seg [(9, .agg #[pt b 0, vi o_, vi z]), (10, vi a), (11, vi k)] [(0, none), (1, none)] [.e (ν1 0), .e (ν1 0), .e (ν1 0)] trivial fun ac wd hS => ?_
 refine hS.call0 116 #[.agg #[pt b 0, vi o_, vi z], vi a, vi k] 12 (vw_check b a k o_ z _  (by first | assumption | omega | (simp_all; done) | (simp_all; omega))) fun ac wd hS => ?_
 refine hS.opsC 1 [0] [1, 2, 3, 6] fun _ => seg [(8, vi (vchE z a k))] [(0, none), (1, none)] [] trivial fun ac wd hS => ?_
 refine list_nil_seq ?_
 refine hS.regS [0, 0] [1, 2, 3, 6, 8] fun _ => seg [(14, vb (((vchE z a k) : Int) != 0))] [(0, none), (1, none)] [] trivial fun ac wd hS => ?_
 refine hS.condC (((vchE z a k) : Int) != 0) (fun hb1o hb1 => ?_) (fun hb1o hb1 => ?_)
 ·
  have hc9 := hb1
  refine hS.regS [0, 0, 100, 0] [6] fun _ => seg [(7, vi (vchE z a k))] [(1, none)] [.e (ν1 1), .e (ν1 1), .e (ν1 1)] trivial fun ac wd hS => ?_
  refine wp_ret ?_
  refine pop_then_ret ?_
  refine St.retC 0 hS (.tuple #[.agg #[pnil, vi 0, vi 0], vi (vchE z a k)]) [.e (ν1 1), .e (ν1 1), .e (ν1 1)] trivial fun hw => ?_
  refine ⟨retd (tuple2 rfl (vint ?_)), hw.fr0⟩
  all_goals (first | rfl | exact vch_3 hc9)
 ·
  have hc9 := hb1
  have hci := vch_in hc9
  refine wp_skip ?_
  refine pop_then ?_
  refine wp_region_seq ?_
  refine hS.opsC 7 [0, 0, 0, 0, 0, 20, 0] [6] fun _ => seg [(18, pt b 0), (22, vi (o_ + a)), (23, vi k)] [(1, none)] [.p (fit .i64 (o_ + a)), .e (ν1 0), .e (ν1 0)] ⟨fit_i64 (by omega), trivial⟩ fun ac wd hS => ?_
  refine hS.call0 23 #[pt b 0, vi (o_ + a), vi k] 24 (vw_Of_x b F m (o_ + a) k _ (Res.keep hr hS.mem.fr) (by exact wi_no hw hc9)) fun ac wd hS => ?_
  refine hS.opsC 4 [0, 0, 0, 0] [6] fun _ => seg [(7, vi 3)] [(0, none)] [.e (ν1 1), .e (ν1 1), .e (ν1 1)] trivial fun ac wd hS => ?_
  refine list_nil_seq ?_
  refine wp_ret ?_
  refine St.retC 0 hS (.tuple #[.agg #[pnil, vi 0, vi 0], vi 3]) [.e (ν1 1), .e (ν1 1), .e (ν1 1)] trivial fun hw => ?_
  refine ⟨retd rfl, hw.fr0⟩

theorem ref04_PartY (g : Nat) (u : Nat) (n : Nat) (cp : Nat) (rf : Int) (o_ : Int) (z : Int) (a : Int) (k : Int) (m : AM) (w : World) (hh0 : HE.holds w g (.fn u (u + n) (strs (pgS m) u))) (hcap : m.cap = n) (hn : n ≤ 1048576) (ho : 0 ≤ o_ ∧ 0 ≤ z ∧ o_ + z ≤ 4294967296) (hw : wiM m o_ z a k = true) :
    Calls Tryd.prog 75 #[.agg #[sc g u n cp, vi rf], .agg #[vi o_, vi z], vi a, vi k] w fun e w' => e = .returned (.tuple #[.agg #[vi (o_ + a), vi k], vi 0]) ∧ Fr w w' no no := by
 refine (ref04_Part g u n cp rf o_ z a k m w hh0 hcap hn ho).mono ?_
 rintro e w2 ⟨rfl, hF⟩
 exact ⟨by rw [← (pa_in hw).1, ← (pa_in hw).2, byE_in hw], hF⟩

theorem ref04_PartN (g : Nat) (u : Nat) (n : Nat) (cp : Nat) (rf : Int) (o_ : Int) (z : Int) (a : Int) (k : Int) (m : AM) (w : World) (hh0 : HE.holds w g (.fn u (u + n) (strs (pgS m) u))) (hcap : m.cap = n) (hn : n ≤ 1048576) (ho : 0 ≤ o_ ∧ 0 ≤ z ∧ o_ + z ≤ 4294967296) (hw : wiM m o_ z a k = false) :
    Calls Tryd.prog 75 #[.agg #[sc g u n cp, vi rf], .agg #[vi o_, vi z], vi a, vi k] w fun e w' => e = .returned (.tuple #[.agg #[vi 0, vi 0], vi 3]) ∧ Fr w w' no no := by
 refine (ref04_Part g u n cp rf o_ z a k m w hh0 hcap hn ho).mono ?_
 rintro e w2 ⟨rfl, hF⟩
 exact ⟨by rw [← (pa_no hw).1, ← (pa_no hw).2, byE_no hw], hF⟩

set_option maxRecDepth 100000 in
set_option maxHeartbeats 1000000 in
theorem law04_do (b : Nat) (F : Nat → Prop) (m : AM) (wb : Nat) (qd : Int) (qa : Int) (qf : Int) (qn : Int) (qx : Int) (qs : ByteArray) (o_ : Int) (z : Int) (g : Nat) (u : Nat) (n : Nat) (cp : Nat) (rf : Int) (w : World) (hr : (arR b F m).R w) (hm : HE.holds w wb (.cells [pt b 0, pt b 0, vi o_, vi z, sc g u n cp, vi rf, vi o_, vi z] 63)) (hh0 : HE.holds w g (.fn u (u + n) (strs (pgS m) u))) (hf0 : ¬ F g) (hfs : ¬ F wb) (hu0 : ¬ K.one wb g) (ho : 0 ≤ o_ ∧ 0 ≤ z ∧ o_ + z ≤ 4294967296) (hcap : m.cap = n) (hn : n ≤ 1048576) (hr : (0 ≤ qd ∧ qd ≤ 255) ∧ (-9223372036854775808 ≤ qa ∧ qa ≤ 9223372036854775807) ∧ (-9223372036854775808 ≤ qf ∧ qf ≤ 9223372036854775807) ∧ (-9223372036854775808 ≤ qn ∧ qn ≤ 9223372036854775807) ∧ (0 ≤ qx ∧ qx ≤ 18446744073709551615) ∧ qs.size ≤ 6000) :
    Calls Tryd.prog 27 #[pt wb 0, .agg #[v8 qd, vi qa, vi qf, vi qn, vu qx, .string qs]] w fun e w' => ∃ (m2 : AM) (o2 : Int) (z2 : Int) (g2 : Nat) (u2 : Nat) (cp2 : Nat) (F' : Nat → Prop), e = .returned (vb true) ∧ (m2.cap = m.cap ∧ (0 ≤ o2 ∧ 0 ≤ z2 ∧ o2 + z2 ≤ 4294967296)) ∧ (arR b F' m2).R w' ∧ Wins w F F' ∧ HE.holds w' wb (.cells [pt b 0, pt b 0, vi o2, vi z2, sc g2 u2 n cp2, vi rf, vi o2, vi z2] 63) ∧ (g2 = g ∨ w.heap.size ≤ g2) ∧ HE.holds w' g2 (.fn u2 (u2 + n) (strs (pgS m2) u2)) ∧ ¬ F' g2 ∧ Fr w w' (orF F (K.one wb)) no := by
 obtain ⟨hr1, hr2, hr3, hr4, hr5, hr6⟩ := hr
 refine enter (args := [pt wb 0, .agg #[v8 qd, vi qa, vi qf, vi qn, vu qx, .string qs]]) (D := (orF F (K.one wb))) (A := [arR b F m]) Tryd.func27 rfl 367 rfl [(g, .fn u (u + n) (strs (pgS m) u)), (wb, .cells [pt b 0, pt b 0, vi o_, vi z, sc g u n cp, vi rf, vi o_, vi z] 63)] (WS.startAM (H := [(g, .fn u (u + n) (strs (pgS m) u))]) (r := arR b F m) hr hm ⟨⟨rfl, hh0⟩, trivial⟩ ⟨hu0, trivial⟩ ⟨hf0, trivial⟩ hfs) fun ac hS => ?_
 refine hS.regS [0, 0] [0] fun ν1 => seg [(3, pt (ν1 0) 0)] [(0, none), (1, none), (2, some ((ν1 0), .cells [v8 qd, vi qa, vi qf, vi qn, vu qx, .string qs] 36))] [] trivial fun ac wd hS => ?_
 refine hS.regS [0, 0] [0, 3] fun _ => seg [(5, vi 0), (6, vi 0)] [(0, none), (1, none), (2, none)] [] trivial fun ac wd hS => ?_
 refine wp_seq ?_
 refine hS.regS [0, 200, 20] [0, 3, 5, 6] fun _ => seg [(22, v8 (qd % 10))] [(0, none), (1, none), (2, none)] [.p ((10 : Int) ≠ 0 ∧ Int.tmod qd 10 = qd % 10), .e (ν1 0)] ⟨rem2 (by omega) (by omega), trivial⟩ fun ac wd hS => ?_
 refine wp_block ?_
 refine hS.regS [0, 0] [0, 3, 5, 6, 22] fun _ => seg [(61, vb (((qd % 10) : Int) == 0))] [(0, none), (1, none), (2, none)] [] trivial fun ac wd hS => ?_
 refine hS.condC (((qd % 10) : Int) == 0) (fun hb1o hb1 => ?_) (fun hb1o hb1 => ?_)
 ·
  cases hpw : wiM m o_ z qa qn
  ·
   refine St.ordBeginTS [(0, 1), (1, 1), (2, 1), (3, 1), (4, 1), (5, 1), (6, 1), (7, 1), (8, 0), (9, 1), (10, 1), (11, 1), (12, 0), (13, 0), (14, 1)] (.two [(0, 1), (1, 1), (2, 1), (3, 1), (4, 1), (5, 1), (6, 1), (7, 1)] 8 (.lin [(9, 1), (10, 1), (11, 1), (12, 0), (13, 0), (14, 1)]) 12 (.lin [(8, 0), (9, 1), (10, 1), (11, 1), (13, 0), (14, 1)])) [(g, .fn u (u + n) (strs (pgS m) u)), (wb, .cells [pt b 0, pt b 0, vi o_, vi z, sc g u n cp, vi rf, vi o_, vi z] 63), ((ν1 0), .cells [v8 qd, vi qa, vi qf, vi qn, vu qx, .string qs] 36)] [0, 1, 2] hS fun wd hS => ?_
   have hap := hS.mem.pairs (Hf := [(g, .fn u (u + n) (strs (pgS m) u)), (wb, .cells [pt b 0, pt b 0, vi o_, vi z, sc g u n cp, vi rf, vi o_, vi z] 63), ((ν1 0), .cells [v8 qd, vi qa, vi qf, vi qn, vu qx, .string qs] 36)]) (l := [0, 1, 2])
   refine wpT_two ?_
   refine St.ordF [0, 0, 0, 100, 0, 200, 0, 200] [0, 1, 2, 3, 4, 5, 6, 7] [0, 3, 5, 6] (rest := []) hS hap <| segF [(67, .agg #[pt b 0, vi o_, vi z]), (69, vi qa), (71, vi qn)] [.e (ν1 0), .e (ν1 0), .e wb, .e wb, .e wb] trivial fun ac hS => ?_
   refine ord_nil ?_
   refine ⟨?_, ?_⟩
   ·
    refine hS.ordC 8 74 #[.agg #[pt b 0, vi o_, vi z], vi qa, vi qn] (vw_PartN b F m o_ z qa qn _ (hS.mem.res 0) (by first | assumption | omega | (simp_all; done) | (simp_all; omega)) (by first | assumption | omega | (simp_all; done) | (simp_all; omega))) ?_
    rintro _ wd ⟨rfl, hF⟩
    refine ⟨.tuple #[.agg #[pnil, vi 0, vi 0], vi 3], rfl, ?_⟩
    replace hS := (hS.to (hS.mem.keep0 hF)).put (d := 72) (v := .tuple #[.agg #[pnil, vi 0, vi 0], vi 3]) (by decide)
    clear hF
    refine hS.ordV (l := [0, 1, 2]) ?_
    refine ord_nil ?_
    refine wpT_lin ?_
    refine St.ordF [0, 0, 0] [9, 10, 11] [0, 3, 5, 6] (rest := [(12, 0), (13, 0), (14, 1)]) hS hap <| segF [(73, .agg #[pnil, vi 0, vi 0]), (74, vi 3)] [] trivial fun ac hS => ?_
    refine St.ord1 12 [0] [0, 3, 5, 6, 73, 74] [0, 1, 2] hS rfl fun ν5 => seg [(7, pt (ν5 0) 0)] [(0, none), (1, none), (2, none), (3, some ((ν5 0), .cells [pnil, vi 0, vi 0] 55))] [] trivial ⟨by as_aux_lemma => kernel_rfl, fun ac wd hS => ?_⟩
    refine St.ord1 13 [300] [0, 3, 5, 6, 7, 74] [0, 1, 2] hS rfl fun _ => seg [] [(0, none), (1, none), (2, none), (3, none)] [.e (ν5 0), .e (ν5 0), .e (ν5 0)] trivial ⟨by as_aux_lemma => kernel_rfl, fun ac wd hS => ?_⟩
    refine St.ordF [0] [14] [0, 3, 5, 6, 7] (rest := []) hS hap <| segF [(8, vi 3)] [] trivial fun ac hS => ?_
    refine ord_nil ?_
    refine St.ordBeginTS [(0, 1), (1, 1), (2, 1), (3, 1), (4, 1), (5, 1), (6, 1), (7, 1), (8, 1), (9, 1), (10, 1), (11, 1), (12, 0), (13, 1), (14, 1), (15, 1), (16, 0), (17, 0), (18, 1)] (.two [(0, 1), (1, 1), (2, 1), (3, 1), (4, 1), (5, 1), (6, 1), (7, 1), (8, 1), (9, 1), (10, 1), (11, 1)] 12 (.lin [(13, 1), (14, 1), (15, 1), (16, 0), (17, 0), (18, 1)]) 16 (.lin [(12, 0), (13, 1), (14, 1), (15, 1), (17, 0), (18, 1)])) [(g, .fn u (u + n) (strs (pgS m) u)), (wb, .cells [pt b 0, pt b 0, vi o_, vi z, sc g u n cp, vi rf, vi o_, vi z] 63), ((ν1 0), .cells [v8 qd, vi qa, vi qf, vi qn, vu qx, .string qs] 36), ((ν5 0), .cells [pnil, vi 0, vi 0] 55)] [0, 1, 2, 3] hS fun wd hS => ?_
    have hap := hS.mem.pairs (Hf := [(g, .fn u (u + n) (strs (pgS m) u)), (wb, .cells [pt b 0, pt b 0, vi o_, vi z, sc g u n cp, vi rf, vi o_, vi z] 63), ((ν1 0), .cells [v8 qd, vi qa, vi qf, vi qn, vu qx, .string qs] 36), ((ν5 0), .cells [pnil, vi 0, vi 0] 55)]) (l := [0, 1, 2, 3])
    refine wpT_two ?_
    refine St.ordF [0, 0, 0, 100, 0, 0, 0, 100, 0, 200, 0, 200] [0, 1, 2, 3, 4, 5, 6, 7, 8, 9, 10, 11] [0, 5, 6, 7, 8] (rest := []) hS hap <| segF [(79, .agg #[sc g u n cp, vi rf]), (83, .agg #[vi o_, vi z]), (85, vi qa), (87, vi qn)] [.e (ν1 0), .e (ν1 0), .e wb, .e wb, .e wb, .e wb] trivial fun ac hS => ?_
    refine ord_nil ?_
    refine ⟨?_, ?_⟩
    ·
     refine hS.ordC 12 75 #[.agg #[sc g u n cp, vi rf], .agg #[vi o_, vi z], vi qa, vi qn] (ref04_PartN g u n cp rf o_ z qa qn m _ (hS.mem.get 0 g (.fn u (u + n) (strs (pgS m) u))) (by first | assumption | omega | (simp_all; done) | (simp_all; omega)) (by first | assumption | omega | (simp_all; done) | (simp_all; omega)) (by first | assumption | omega | (simp_all; done) | (simp_all; omega)) (by first | assumption | omega | (simp_all; done) | (simp_all; omega))) ?_
     rintro _ wd ⟨rfl, hF⟩
     refine ⟨.tuple #[.agg #[vi 0, vi 0], vi 3], rfl, ?_⟩
     replace hS := (hS.to (hS.mem.keep0 hF)).put (d := 88) (v := .tuple #[.agg #[vi 0, vi 0], vi 3]) (by decide)
     clear hF
     refine hS.ordV (l := [0, 1, 2, 3]) ?_
     refine ord_nil ?_
     refine wpT_lin ?_
     refine St.ordF [0, 0, 0] [13, 14, 15] [0, 5, 6, 7, 8] (rest := [(16, 0), (17, 0), (18, 1)]) hS hap <| segF [(89, .agg #[vi 0, vi 0]), (90, vi 3)] [] trivial fun ac hS => ?_
     refine St.ord1 16 [0] [0, 5, 6, 7, 8, 89, 90] [0, 1, 2, 3] hS rfl fun ν7 => seg [(9, pt (ν7 0) 0)] [(0, none), (1, none), (2, none), (3, none), (4, some ((ν7 0), .cells [vi 0, vi 0] 61))] [] trivial ⟨by as_aux_lemma => kernel_rfl, fun ac wd hS => ?_⟩
     refine St.ord1 17 [400] [0, 5, 6, 7, 8, 9, 90] [0, 1, 2, 3] hS rfl fun _ => seg [] [(0, none), (1, none), (2, none), (3, none), (4, none)] [.e (ν7 0), .e (ν7 0)] trivial ⟨by as_aux_lemma => kernel_rfl, fun ac wd hS => ?_⟩
     refine St.ordF [0] [18] [0, 5, 6, 7, 8, 9] (rest := []) hS hap <| segF [(10, vi 3)] [] trivial fun ac hS => ?_
     refine ord_nil ?_
     refine wp_seq ?_
     refine St.ordBeginS [(0, 1), (1, 1), (2, 1), (3, 1), (4, 1), (5, 1), (6, 1), (7, 1), (9, 1), (10, 1), (8, 0), (11, 1), (12, 1), (13, 1), (15, 1), (16, 1), (14, 0), (17, 1), (18, 1), (19, 1), (20, 1)] [(g, .fn u (u + n) (strs (pgS m) u)), (wb, .cells [pt b 0, pt b 0, vi o_, vi z, sc g u n cp, vi rf, vi o_, vi z] 63), ((ν1 0), .cells [v8 qd, vi qa, vi qf, vi qn, vu qx, .string qs] 36), ((ν5 0), .cells [pnil, vi 0, vi 0] 55), ((ν7 0), .cells [vi 0, vi 0] 61)] [0, 1, 2, 3, 4] hS fun wd hS => ?_
     have hap := hS.mem.pairs (Hf := [(g, .fn u (u + n) (strs (pgS m) u)), (wb, .cells [pt b 0, pt b 0, vi o_, vi z, sc g u n cp, vi rf, vi o_, vi z] 63), ((ν1 0), .cells [v8 qd, vi qa, vi qf, vi qn, vu qx, .string qs] 36), ((ν5 0), .cells [pnil, vi 0, vi 0] 55), ((ν7 0), .cells [vi 0, vi 0] 61)]) (l := [0, 1, 2, 3, 4])
     refine St.ordF [0, 0, 0, 0, 1, 1, 1, 2, 2, 2] [0, 1, 2, 3, 4, 5, 6, 7, 9, 10] [0, 5, 6, 7, 9, 10] (rest := [(8, 0), (11, 1), (12, 1), (13, 1), (15, 1), (16, 1), (14, 0), (17, 1), (18, 1), (19, 1), (20, 1)]) hS hap <| segF [(94, vb false), (97, vb false), (98, undef), (101, undef)] [.t false, .t false, .t false, .t false, .t false, .t false] trivial fun ac hS => ?_
     refine St.ordSkip hS 97 true (vb false) (e := 99) (fun ac hS => ?_) (by decide) (by decide) (by intro h_; cases h_)
     refine hS.ordV (l := [0, 1, 2, 3, 4]) ?_
     refine St.ordF [2, 2, 4, 4, 4] [11, 12, 13, 15, 16] [0, 5, 6, 7, 9, 10, 94, 97] (rest := [(14, 0), (17, 1), (18, 1), (19, 1), (20, 1)]) hS hap <| segF [(103, undef), (104, undef), (107, undef)] [.u, .u, .u, .t false, .t false] trivial fun ac hS => ?_
     refine St.ordSkip hS 103 false (undef) (e := 105) (fun ac hS => ?_) (by decide) (by decide) (by intro h_; cases h_)
     refine hS.ordV (l := [0, 1, 2, 3, 4]) ?_
     refine St.ordF [4, 2, 61, 60] [17, 18, 19, 20] [0, 5, 6, 7, 9, 10] (rest := []) hS hap <| segF [(111, vb false)] [.t false, .t false, .t false, .t false, .u] trivial fun ac hS => ?_
     refine ord_nil ?_
     refine hS.condF ?_
     refine wp_skip ?_
     refine pop_then ?_
     refine hS.regS [0, 0, 0, 2, 2, 2, 60] [0, 5, 6, 7, 9] fun _ => seg [(118, vb false)] [(0, none), (1, none), (3, none), (4, none)] [.t false, .t false, .t false, .t false] trivial fun ac wd hS => ?_
     refine hS.condF ?_
     refine wp_skip ?_
     refine pop_block ?_
     refine pop_then ?_
     refine hS.regS [0, 0, 0, 0] [] fun _ => seg [(4, vb true)] [(0, none), (1, none)] [] trivial fun ac wd hS => ?_
     refine wp_ret ?_
     refine St.retC 0 hS (vb true) [] trivial fun hw => ?_
     refine ⟨m, o_, z, g, u, cp, F, retd rfl, ?_, (hw.res 0), (hw.wins 1 (show _ = some (wb, .cells [pt b 0, pt b 0, vi o_, vi z, sc g u n cp, vi rf, vi o_, vi z] 63) by as_aux_lemma => kernel_rfl)), (hw.get 1 wb (.cells [pt b 0, pt b 0, vi o_, vi z, sc g u n cp, vi rf, vi o_, vi z] 63)), (.inl rfl), (hw.get 0 g (.fn u (u + n) (strs (pgS m) u))), (fun q_ => hw.free (g, .fn u (u + n) (strs (pgS m) u)) (List.mem_of_getElem? (i := 0) (by as_aux_lemma => kernel_rfl)) (.inl q_)), hw.fr0⟩
     all_goals (first | rfl | exact ⟨rfl, ho⟩ | exact ⟨decM_cap _ _ _, ho⟩ | exact ⟨vptM_cap, ho⟩ | exact ⟨vfiM_cap, ho⟩ | exact ⟨vstM_cap, ho⟩ | exact ⟨vcpM_cap, ho⟩ | exact ⟨rfl, wi_z ho hpw⟩)
    ·
     refine St.ord1 16 [0] [0, 5, 6, 7, 8, 79, 83, 85, 87] [0, 1, 2, 3] hS rfl fun ν11 => seg [(9, pt (ν11 0) 0)] [(0, none), (1, none), (2, none), (3, none), (4, some ((ν11 0), .cells [vi 0, vi 0] 61))] [] trivial ⟨by as_aux_lemma => kernel_rfl, fun ac wd hS => ?_⟩
     refine ord_nil ?_
     refine wpT_lin ?_
     refine hS.ordC 12 75 #[.agg #[sc g u n cp, vi rf], .agg #[vi o_, vi z], vi qa, vi qn] (ref04_PartN g u n cp rf o_ z qa qn m _ (hS.mem.get 0 g (.fn u (u + n) (strs (pgS m) u))) (by first | assumption | omega | (simp_all; done) | (simp_all; omega)) (by first | assumption | omega | (simp_all; done) | (simp_all; omega)) (by first | assumption | omega | (simp_all; done) | (simp_all; omega)) (by first | assumption | omega | (simp_all; done) | (simp_all; omega))) ?_
     rintro _ wd ⟨rfl, hF⟩
     refine ⟨.tuple #[.agg #[vi 0, vi 0], vi 3], rfl, ?_⟩
     replace hS := (hS.to (hS.mem.keep0 hF)).put (d := 88) (v := .tuple #[.agg #[vi 0, vi 0], vi 3]) (by decide)
     clear hF
     refine hS.ordV (l := [0, 1, 2, 3]) ?_
     refine St.ordF [0, 0, 0] [13, 14, 15] [0, 5, 6, 7, 8, 9] (rest := [(17, 0), (18, 1)]) hS hap <| segF [(89, .agg #[vi 0, vi 0]), (90, vi 3)] [] trivial fun ac hS => ?_
     refine St.ord1 17 [400] [0, 5, 6, 7, 8, 9, 90] [0, 1, 2, 3] hS rfl fun _ => seg [] [(0, none), (1, none), (2, none), (3, none), (4, none)] [.e (ν11 0), .e (ν11 0)] trivial ⟨by as_aux_lemma => kernel_rfl, fun ac wd hS => ?_⟩
     refine St.ordF [0] [18] [0, 5, 6, 7, 8, 9] (rest := []) hS hap <| segF [(10, vi 3)] [] trivial fun ac hS => ?_
     refine ord_nil ?_
     refine wp_seq ?_
     refine St.ordBeginS [(0, 1), (1, 1), (2, 1), (3, 1), (4, 1), (5, 1), (6, 1), (7, 1), (9, 1), (10, 1), (8, 0), (11, 1), (12, 1), (13, 1), (15, 1), (16, 1), (14, 0), (17, 1), (18, 1), (19, 1), (20, 1)] [(g, .fn u (u + n) (strs (pgS m) u)), (wb, .cells [pt b 0, pt b 0, vi o_, vi z, sc g u n cp, vi rf, vi o_, vi z] 63), ((ν1 0), .cells [v8 qd, vi qa, vi qf, vi qn, vu qx, .string qs] 36), ((ν5 0), .cells [pnil, vi 0, vi 0] 55), ((ν11 0), .cells [vi 0, vi 0] 61)] [0, 1, 2, 3, 4] hS fun wd hS => ?_
     have hap := hS.mem.pairs (Hf := [(g, .fn u (u + n) (strs (pgS m) u)), (wb, .cells [pt b 0, pt b 0, vi o_, vi z, sc g u n cp, vi rf, vi o_, vi z] 63), ((ν1 0), .cells [v8 qd, vi qa, vi qf, vi qn, vu qx, .string qs] 36), ((ν5 0), .cells [pnil, vi 0, vi 0] 55), ((ν11 0), .cells [vi 0, vi 0] 61)]) (l := [0, 1, 2, 3, 4])
     refine St.ordF [0, 0, 0, 0, 1, 1, 1, 2, 2, 2] [0, 1, 2, 3, 4, 5, 6, 7, 9, 10] [0, 5, 6, 7, 9, 10] (rest := [(8, 0), (11, 1), (12, 1), (13, 1), (15, 1), (16, 1), (14, 0), (17, 1), (18, 1), (19, 1), (20, 1)]) hS hap <| segF [(94, vb false), (97, vb false), (98, undef), (101, undef)] [.t false, .t false, .t false, .t false, .t false, .t false] trivial fun ac hS => ?_
     refine St.ordSkip hS 97 true (vb false) (e := 99) (fun ac hS => ?_) (by decide) (by decide) (by intro h_; cases h_)
     refine hS.ordV (l := [0, 1, 2, 3, 4]) ?_
     refine St.ordF [2, 2, 4, 4, 4] [11, 12, 13, 15, 16] [0, 5, 6, 7, 9, 10, 94, 97] (rest := [(14, 0), (17, 1), (18, 1), (19, 1), (20, 1)]) hS hap <| segF [(103, undef), (104, undef), (107, undef)] [.u, .u, .u, .t false, .t false] trivial fun ac hS => ?_
     refine St.ordSkip hS 103 false (undef) (e := 105) (fun ac hS => ?_) (by decide) (by decide) (by intro h_; cases h_)
     refine hS.ordV (l := [0, 1, 2, 3, 4]) ?_
     refine St.ordF [4, 2, 61, 60] [17, 18, 19, 20] [0, 5, 6, 7, 9, 10] (rest := []) hS hap <| segF [(111, vb false)] [.t false, .t false, .t false, .t false, .u] trivial fun ac hS => ?_
     refine ord_nil ?_
     refine hS.condF ?_
     refine wp_skip ?_
     refine pop_then ?_
     refine hS.regS [0, 0, 0, 2, 2, 2, 60] [0, 5, 6, 7, 9] fun _ => seg [(118, vb false)] [(0, none), (1, none), (3, none), (4, none)] [.t false, .t false, .t false, .t false] trivial fun ac wd hS => ?_
     refine hS.condF ?_
     refine wp_skip ?_
     refine pop_block ?_
     refine pop_then ?_
     refine hS.regS [0, 0, 0, 0] [] fun _ => seg [(4, vb true)] [(0, none), (1, none)] [] trivial fun ac wd hS => ?_
     refine wp_ret ?_
     refine St.retC 0 hS (vb true) [] trivial fun hw => ?_
     refine ⟨m, o_, z, g, u, cp, F, retd rfl, ?_, (hw.res 0), (hw.wins 1 (show _ = some (wb, .cells [pt b 0, pt b 0, vi o_, vi z, sc g u n cp, vi rf, vi o_, vi z] 63) by as_aux_lemma => kernel_rfl)), (hw.get 1 wb (.cells [pt b 0, pt b 0, vi o_, vi z, sc g u n cp, vi rf, vi o_, vi z] 63)), (.inl rfl), (hw.get 0 g (.fn u (u + n) (strs (pgS m) u))), (fun q_ => hw.free (g, .fn u (u + n) (strs (pgS m) u)) (List.mem_of_getElem? (i := 0) (by as_aux_lemma => kernel_rfl)) (.inl q_)), hw.fr0⟩
     all_goals (first | rfl | exact ⟨rfl, ho⟩ | exact ⟨decM_cap _ _ _, ho⟩ | exact ⟨vptM_cap, ho⟩ | exact ⟨vfiM_cap, ho⟩ | exact ⟨vstM_cap, ho⟩ | exact ⟨vcpM_cap, ho⟩ | exact ⟨rfl, wi_z ho hpw⟩)
   ·
    refine St.ord1 12 [0] [0, 3, 5, 6, 67, 69, 71] [0, 1, 2] hS rfl fun ν15 => seg [(7, pt (ν15 0) 0)] [(0, none), (1, none), (2, none), (3, some ((ν15 0), .cells [pnil, vi 0, vi 0] 55))] [] trivial ⟨by as_aux_lemma => kernel_rfl, fun ac wd hS => ?_⟩
    refine ord_nil ?_
    refine wpT_lin ?_
    refine hS.ordC 8 74 #[.agg #[pt b 0, vi o_, vi z], vi qa, vi qn] (vw_PartN b F m o_ z qa qn _ (hS.mem.res 0) (by first | assumption | omega | (simp_all; done) | (simp_all; omega)) (by first | assumption | omega | (simp_all; done) | (simp_all; omega))) ?_
    rintro _ wd ⟨rfl, hF⟩
    refine ⟨.tuple #[.agg #[pnil, vi 0, vi 0], vi 3], rfl, ?_⟩
    replace hS := (hS.to (hS.mem.keep0 hF)).put (d := 72) (v := .tuple #[.agg #[pnil, vi 0, vi 0], vi 3]) (by decide)
    clear hF
    refine hS.ordV (l := [0, 1, 2]) ?_
    refine St.ordF [0, 0, 0] [9, 10, 11] [0, 3, 5, 6, 7] (rest := [(13, 0), (14, 1)]) hS hap <| segF [(73, .agg #[pnil, vi 0, vi 0]), (74, vi 3)] [] trivial fun ac hS => ?_
    refine St.ord1 13 [300] [0, 3, 5, 6, 7, 74] [0, 1, 2] hS rfl fun _ => seg [] [(0, none), (1, none), (2, none), (3, none)] [.e (ν15 0), .e (ν15 0), .e (ν15 0)] trivial ⟨by as_aux_lemma => kernel_rfl, fun ac wd hS => ?_⟩
    refine St.ordF [0] [14] [0, 3, 5, 6, 7] (rest := []) hS hap <| segF [(8, vi 3)] [] trivial fun ac hS => ?_
    refine ord_nil ?_
    refine St.ordBeginTS [(0, 1), (1, 1), (2, 1), (3, 1), (4, 1), (5, 1), (6, 1), (7, 1), (8, 1), (9, 1), (10, 1), (11, 1), (12, 0), (13, 1), (14, 1), (15, 1), (16, 0), (17, 0), (18, 1)] (.two [(0, 1), (1, 1), (2, 1), (3, 1), (4, 1), (5, 1), (6, 1), (7, 1), (8, 1), (9, 1), (10, 1), (11, 1)] 12 (.lin [(13, 1), (14, 1), (15, 1), (16, 0), (17, 0), (18, 1)]) 16 (.lin [(12, 0), (13, 1), (14, 1), (15, 1), (17, 0), (18, 1)])) [(g, .fn u (u + n) (strs (pgS m) u)), (wb, .cells [pt b 0, pt b 0, vi o_, vi z, sc g u n cp, vi rf, vi o_, vi z] 63), ((ν1 0), .cells [v8 qd, vi qa, vi qf, vi qn, vu qx, .string qs] 36), ((ν15 0), .cells [pnil, vi 0, vi 0] 55)] [0, 1, 2, 3] hS fun wd hS => ?_
    have hap := hS.mem.pairs (Hf := [(g, .fn u (u + n) (strs (pgS m) u)), (wb, .cells [pt b 0, pt b 0, vi o_, vi z, sc g u n cp, vi rf, vi o_, vi z] 63), ((ν1 0), .cells [v8 qd, vi qa, vi qf, vi qn, vu qx, .string qs] 36), ((ν15 0), .cells [pnil, vi 0, vi 0] 55)]) (l := [0, 1, 2, 3])
    refine wpT_two ?_
    refine St.ordF [0, 0, 0, 100, 0, 0, 0, 100, 0, 200, 0, 200] [0, 1, 2, 3, 4, 5, 6, 7, 8, 9, 10, 11] [0, 5, 6, 7, 8] (rest := []) hS hap <| segF [(79, .agg #[sc g u n cp, vi rf]), (83, .agg #[vi o_, vi z]), (85, vi qa), (87, vi qn)] [.e (ν1 0), .e (ν1 0), .e wb, .e wb, .e wb, .e wb] trivial fun ac hS => ?_
    refine ord_nil ?_
    refine ⟨?_, ?_⟩
    ·
     refine hS.ordC 12 75 #[.agg #[sc g u n cp, vi rf], .agg #[vi o_, vi z], vi qa, vi qn] (ref04_PartN g u n cp rf o_ z qa qn m _ (hS.mem.get 0 g (.fn u (u + n) (strs (pgS m) u))) (by first | assumption | omega | (simp_all; done) | (simp_all; omega)) (by first | assumption | omega | (simp_all; done) | (simp_all; omega)) (by first | assumption | omega | (simp_all; done) | (simp_all; omega)) (by first | assumption | omega | (simp_all; done) | (simp_all; omega))) ?_
     rintro _ wd ⟨rfl, hF⟩
     refine ⟨.tuple #[.agg #[vi 0, vi 0], vi 3], rfl, ?_⟩
     replace hS := (hS.to (hS.mem.keep0 hF)).put (d := 88) (v := .tuple #[.agg #[vi 0, vi 0], vi 3]) (by decide)
     clear hF
     refine hS.ordV (l := [0, 1, 2, 3]) ?_
     refine ord_nil ?_
     refine wpT_lin ?_
     refine St.ordF [0, 0, 0] [13, 14, 15] [0, 5, 6, 7, 8] (rest := [(16, 0), (17, 0), (18, 1)]) hS hap <| segF [(89, .agg #[vi 0, vi 0]), (90, vi 3)] [] trivial fun ac hS => ?_
     refine St.ord1 16 [0] [0, 5, 6, 7, 8, 89, 90] [0, 1, 2, 3] hS rfl fun ν17 => seg [(9, pt (ν17 0) 0)] [(0, none), (1, none), (2, none), (3, none), (4, some ((ν17 0), .cells [vi 0, vi 0] 61))] [] trivial ⟨by as_aux_lemma => kernel_rfl, fun ac wd hS => ?_⟩
     refine St.ord1 17 [400] [0, 5, 6, 7, 8, 9, 90] [0, 1, 2, 3] hS rfl fun _ => seg [] [(0, none), (1, none), (2, none), (3, none), (4, none)] [.e (ν17 0), .e (ν17 0)] trivial ⟨by as_aux_lemma => kernel_rfl, fun ac wd hS => ?_⟩
     refine St.ordF [0] [18] [0, 5, 6, 7, 8, 9] (rest := []) hS hap <| segF [(10, vi 3)] [] trivial fun ac hS => ?_
     refine ord_nil ?_
     refine wp_seq ?_
     refine St.ordBeginS [(0, 1), (1, 1), (2, 1), (3, 1), (4, 1), (5, 1), (6, 1), (7, 1), (9, 1), (10, 1), (8, 0), (11, 1), (12, 1), (13, 1), (15, 1), (16, 1), (14, 0), (17, 1), (18, 1), (19, 1), (20, 1)] [(g, .fn u (u + n) (strs (pgS m) u)), (wb, .cells [pt b 0, pt b 0, vi o_, vi z, sc g u n cp, vi rf, vi o_, vi z] 63), ((ν1 0), .cells [v8 qd, vi qa, vi qf, vi qn, vu qx, .string qs] 36), ((ν15 0), .cells [pnil, vi 0, vi 0] 55), ((ν17 0), .cells [vi 0, vi 0] 61)] [0, 1, 2, 3, 4] hS fun wd hS => ?_
     have hap := hS.mem.pairs (Hf := [(g, .fn u (u + n) (strs (pgS m) u)), (wb, .cells [pt b 0, pt b 0, vi o_, vi z, sc g u n cp, vi rf, vi o_, vi z] 63), ((ν1 0), .cells [v8 qd, vi qa, vi qf, vi qn, vu qx, .string qs] 36), ((ν15 0), .cells [pnil, vi 0, vi 0] 55), ((ν17 0), .cells [vi 0, vi 0] 61)]) (l := [0, 1, 2, 3, 4])
     refine St.ordF [0, 0, 0, 0, 1, 1, 1, 2, 2, 2] [0, 1, 2, 3, 4, 5, 6, 7, 9, 10] [0, 5, 6, 7, 9, 10] (rest := [(8, 0), (11, 1), (12, 1), (13, 1), (15, 1), (16, 1), (14, 0), (17, 1), (18, 1), (19, 1), (20, 1)]) hS hap <| segF [(94, vb false), (97, vb false), (98, undef), (101, undef)] [.t false, .t false, .t false, .t false, .t false, .t false] trivial fun ac hS => ?_
     refine St.ordSkip hS 97 true (vb false) (e := 99) (fun ac hS => ?_) (by decide) (by decide) (by intro h_; cases h_)
     refine hS.ordV (l := [0, 1, 2, 3, 4]) ?_
     refine St.ordF [2, 2, 4, 4, 4] [11, 12, 13, 15, 16] [0, 5, 6, 7, 9, 10, 94, 97] (rest := [(14, 0), (17, 1), (18, 1), (19, 1), (20, 1)]) hS hap <| segF [(103, undef), (104, undef), (107, undef)] [.u, .u, .u, .t false, .t false] trivial fun ac hS => ?_
     refine St.ordSkip hS 103 false (undef) (e := 105) (fun ac hS => ?_) (by decide) (by decide) (by intro h_; cases h_)
     refine hS.ordV (l := [0, 1, 2, 3, 4]) ?_
     refine St.ordF [4, 2, 61, 60] [17, 18, 19, 20] [0, 5, 6, 7, 9, 10] (rest := []) hS hap <| segF [(111, vb false)] [.t false, .t false, .t false, .t false, .u] trivial fun ac hS => ?_
     refine ord_nil ?_
     refine hS.condF ?_
     refine wp_skip ?_
     refine pop_then ?_
     refine hS.regS [0, 0, 0, 2, 2, 2, 60] [0, 5, 6, 7, 9] fun _ => seg [(118, vb false)] [(0, none), (1, none), (3, none), (4, none)] [.t false, .t false, .t false, .t false] trivial fun ac wd hS => ?_
     refine hS.condF ?_
     refine wp_skip ?_
     refine pop_block ?_
     refine pop_then ?_
     refine hS.regS [0, 0, 0, 0] [] fun _ => seg [(4, vb true)] [(0, none), (1, none)] [] trivial fun ac wd hS => ?_
     refine wp_ret ?_
     refine St.retC 0 hS (vb true) [] trivial fun hw => ?_
     refine ⟨m, o_, z, g, u, cp, F, retd rfl, ?_, (hw.res 0), (hw.wins 1 (show _ = some (wb, .cells [pt b 0, pt b 0, vi o_, vi z, sc g u n cp, vi rf, vi o_, vi z] 63) by as_aux_lemma => kernel_rfl)), (hw.get 1 wb (.cells [pt b 0, pt b 0, vi o_, vi z, sc g u n cp, vi rf, vi o_, vi z] 63)), (.inl rfl), (hw.get 0 g (.fn u (u + n) (strs (pgS m) u))), (fun q_ => hw.free (g, .fn u (u + n) (strs (pgS m) u)) (List.mem_of_getElem? (i := 0) (by as_aux_lemma => kernel_rfl)) (.inl q_)), hw.fr0⟩
     all_goals (first | rfl | exact ⟨rfl, ho⟩ | exact ⟨decM_cap _ _ _, ho⟩ | exact ⟨vptM_cap, ho⟩ | exact ⟨vfiM_cap, ho⟩ | exact ⟨vstM_cap, ho⟩ | exact ⟨vcpM_cap, ho⟩ | exact ⟨rfl, wi_z ho hpw⟩)
    ·
     refine St.ord1 16 [0] [0, 5, 6, 7, 8, 79, 83, 85, 87] [0, 1, 2, 3] hS rfl fun ν21 => seg [(9, pt (ν21 0) 0)] [(0, none), (1, none), (2, none), (3, none), (4, some ((ν21 0), .cells [vi 0, vi 0] 61))] [] trivial ⟨by as_aux_lemma => kernel_rfl, fun ac wd hS => ?_⟩
     refine ord_nil ?_
     refine wpT_lin ?_
     refine hS.ordC 12 75 #[.agg #[sc g u n cp, vi rf], .agg #[vi o_, vi z], vi qa, vi qn] (ref04_PartN g u n cp rf o_ z qa qn m _ (hS.mem.get 0 g (.fn u (u + n) (strs (pgS m) u))) (by first | assumption | omega | (simp_all; done) | (simp_all; omega)) (by first | assumption | omega | (simp_all; done) | (simp_all; omega)) (by first | assumption | omega | (simp_all; done) | (simp_all; omega)) (by first | assumption | omega | (simp_all; done) | (simp_all; omega))) ?_
     rintro _ wd ⟨rfl, hF⟩
     refine ⟨.tuple #[.agg #[vi 0, vi 0], vi 3], rfl, ?_⟩
     replace hS := (hS.to (hS.mem.keep0 hF)).put (d := 88) (v := .tuple #[.agg #[vi 0, vi 0], vi 3]) (by decide)
     clear hF
     refine hS.ordV (l := [0, 1, 2, 3]) ?_
     refine St.ordF [0, 0, 0] [13, 14, 15] [0, 5, 6, 7, 8, 9] (rest := [(17, 0), (18, 1)]) hS hap <| segF [(89, .agg #[vi 0, vi 0]), (90, vi 3)] [] trivial fun ac hS => ?_
     refine St.ord1 17 [400] [0, 5, 6, 7, 8, 9, 90] [0, 1, 2, 3] hS rfl fun _ => seg [] [(0, none), (1, none), (2, none), (3, none), (4, none)] [.e (ν21 0), .e (ν21 0)] trivial ⟨by as_aux_lemma => kernel_rfl, fun ac wd hS => ?_⟩
     refine St.ordF [0] [18] [0, 5, 6, 7, 8, 9] (rest := []) hS hap <| segF [(10, vi 3)] [] trivial fun ac hS => ?_
     refine ord_nil ?_
     refine wp_seq ?_
     refine St.ordBeginS [(0, 1), (1, 1), (2, 1), (3, 1), (4, 1), (5, 1), (6, 1), (7, 1), (9, 1), (10, 1), (8, 0), (11, 1), (12, 1), (13, 1), (15, 1), (16, 1), (14, 0), (17, 1), (18, 1), (19, 1), (20, 1)] [(g, .fn u (u + n) (strs (pgS m) u)), (wb, .cells [pt b 0, pt b 0, vi o_, vi z, sc g u n cp, vi rf, vi o_, vi z] 63), ((ν1 0), .cells [v8 qd, vi qa, vi qf, vi qn, vu qx, .string qs] 36), ((ν15 0), .cells [pnil, vi 0, vi 0] 55), ((ν21 0), .cells [vi 0, vi 0] 61)] [0, 1, 2, 3, 4] hS fun wd hS => ?_
     have hap := hS.mem.pairs (Hf := [(g, .fn u (u + n) (strs (pgS m) u)), (wb, .cells [pt b 0, pt b 0, vi o_, vi z, sc g u n cp, vi rf, vi o_, vi z] 63), ((ν1 0), .cells [v8 qd, vi qa, vi qf, vi qn, vu qx, .string qs] 36), ((ν15 0), .cells [pnil, vi 0, vi 0] 55), ((ν21 0), .cells [vi 0, vi 0] 61)]) (l := [0, 1, 2, 3, 4])
     refine St.ordF [0, 0, 0, 0, 1, 1, 1, 2, 2, 2] [0, 1, 2, 3, 4, 5, 6, 7, 9, 10] [0, 5, 6, 7, 9, 10] (rest := [(8, 0), (11, 1), (12, 1), (13, 1), (15, 1), (16, 1), (14, 0), (17, 1), (18, 1), (19, 1), (20, 1)]) hS hap <| segF [(94, vb false), (97, vb false), (98, undef), (101, undef)] [.t false, .t false, .t false, .t false, .t false, .t false] trivial fun ac hS => ?_
     refine St.ordSkip hS 97 true (vb false) (e := 99) (fun ac hS => ?_) (by decide) (by decide) (by intro h_; cases h_)
     refine hS.ordV (l := [0, 1, 2, 3, 4]) ?_
     refine St.ordF [2, 2, 4, 4, 4] [11, 12, 13, 15, 16] [0, 5, 6, 7, 9, 10, 94, 97] (rest := [(14, 0), (17, 1), (18, 1), (19, 1), (20, 1)]) hS hap <| segF [(103, undef), (104, undef), (107, undef)] [.u, .u, .u, .t false, .t false] trivial fun ac hS => ?_
     refine St.ordSkip hS 103 false (undef) (e := 105) (fun ac hS => ?_) (by decide) (by decide) (by intro h_; cases h_)
     refine hS.ordV (l := [0, 1, 2, 3, 4]) ?_
     refine St.ordF [4, 2, 61, 60] [17, 18, 19, 20] [0, 5, 6, 7, 9, 10] (rest := []) hS hap <| segF [(111, vb false)] [.t false, .t false, .t false, .t false, .u] trivial fun ac hS => ?_
     refine ord_nil ?_
     refine hS.condF ?_
     refine wp_skip ?_
     refine pop_then ?_
     refine hS.regS [0, 0, 0, 2, 2, 2, 60] [0, 5, 6, 7, 9] fun _ => seg [(118, vb false)] [(0, none), (1, none), (3, none), (4, none)] [.t false, .t false, .t false, .t false] trivial fun ac wd hS => ?_
     refine hS.condF ?_
     refine wp_skip ?_
     refine pop_block ?_
     refine pop_then ?_
     refine hS.regS [0, 0, 0, 0] [] fun _ => seg [(4, vb true)] [(0, none), (1, none)] [] trivial fun ac wd hS => ?_
     refine wp_ret ?_
     refine St.retC 0 hS (vb true) [] trivial fun hw => ?_
     refine ⟨m, o_, z, g, u, cp, F, retd rfl, ?_, (hw.res 0), (hw.wins 1 (show _ = some (wb, .cells [pt b 0, pt b 0, vi o_, vi z, sc g u n cp, vi rf, vi o_, vi z] 63) by as_aux_lemma => kernel_rfl)), (hw.get 1 wb (.cells [pt b 0, pt b 0, vi o_, vi z, sc g u n cp, vi rf, vi o_, vi z] 63)), (.inl rfl), (hw.get 0 g (.fn u (u + n) (strs (pgS m) u))), (fun q_ => hw.free (g, .fn u (u + n) (strs (pgS m) u)) (List.mem_of_getElem? (i := 0) (by as_aux_lemma => kernel_rfl)) (.inl q_)), hw.fr0⟩
     all_goals (first | rfl | exact ⟨rfl, ho⟩ | exact ⟨decM_cap _ _ _, ho⟩ | exact ⟨vptM_cap, ho⟩ | exact ⟨vfiM_cap, ho⟩ | exact ⟨vstM_cap, ho⟩ | exact ⟨vcpM_cap, ho⟩ | exact ⟨rfl, wi_z ho hpw⟩)
  ·
   refine St.ordBeginTS [(0, 1), (1, 1), (2, 1), (3, 1), (4, 1), (5, 1), (6, 1), (7, 1), (8, 0), (9, 1), (10, 1), (11, 1), (12, 0), (13, 0), (14, 1)] (.two [(0, 1), (1, 1), (2, 1), (3, 1), (4, 1), (5, 1), (6, 1), (7, 1)] 8 (.lin [(9, 1), (10, 1), (11, 1), (12, 0), (13, 0), (14, 1)]) 12 (.lin [(8, 0), (9, 1), (10, 1), (11, 1), (13, 0), (14, 1)])) [(g, .fn u (u + n) (strs (pgS m) u)), (wb, .cells [pt b 0, pt b 0, vi o_, vi z, sc g u n cp, vi rf, vi o_, vi z] 63), ((ν1 0), .cells [v8 qd, vi qa, vi qf, vi qn, vu qx, .string qs] 36)] [0, 1, 2] hS fun wd hS => ?_
   have hap := hS.mem.pairs (Hf := [(g, .fn u (u + n) (strs (pgS m) u)), (wb, .cells [pt b 0, pt b 0, vi o_, vi z, sc g u n cp, vi rf, vi o_, vi z] 63), ((ν1 0), .cells [v8 qd, vi qa, vi qf, vi qn, vu qx, .string qs] 36)]) (l := [0, 1, 2])
   refine wpT_two ?_
   refine St.ordF [0, 0, 0, 100, 0, 200, 0, 200] [0, 1, 2, 3, 4, 5, 6, 7] [0, 3, 5, 6] (rest := []) hS hap <| segF [(67, .agg #[pt b 0, vi o_, vi z]), (69, vi qa), (71, vi qn)] [.e (ν1 0), .e (ν1 0), .e wb, .e wb, .e wb] trivial fun ac hS => ?_
   refine ord_nil ?_
   refine ⟨?_, ?_⟩
   ·
    refine hS.ordC 8 74 #[.agg #[pt b 0, vi o_, vi z], vi qa, vi qn] (vw_PartY b F m o_ z qa qn _ (hS.mem.res 0) (by first | assumption | omega | (simp_all; done) | (simp_all; omega)) (by first | assumption | omega | (simp_all; done) | (simp_all; omega))) ?_
    rintro _ wd ⟨rfl, hF⟩
    refine ⟨.tuple #[.agg #[pt b 0, vi (o_ + qa), vi qn], vi 0], rfl, ?_⟩
    replace hS := (hS.to (hS.mem.keep0 hF)).put (d := 72) (v := .tuple #[.agg #[pt b 0, vi (o_ + qa), vi qn], vi 0]) (by decide)
    clear hF
    refine hS.ordV (l := [0, 1, 2]) ?_
    refine ord_nil ?_
    refine wpT_lin ?_
    refine St.ordF [0, 0, 0] [9, 10, 11] [0, 3, 5, 6] (rest := [(12, 0), (13, 0), (14, 1)]) hS hap <| segF [(73, .agg #[pt b 0, vi (o_ + qa), vi qn]), (74, vi 0)] [] trivial fun ac hS => ?_
    refine St.ord1 12 [0] [0, 3, 5, 6, 73, 74] [0, 1, 2] hS rfl fun ν25 => seg [(7, pt (ν25 0) 0)] [(0, none), (1, none), (2, none), (3, some ((ν25 0), .cells [pnil, vi 0, vi 0] 55))] [] trivial ⟨by as_aux_lemma => kernel_rfl, fun ac wd hS => ?_⟩
    refine St.ord1 13 [300] [0, 3, 5, 6, 7, 74] [0, 1, 2] hS rfl fun _ => seg [] [(0, none), (1, none), (2, none), (3, some ((ν25 0), .cells [pt b 0, vi (o_ + qa), vi qn] 55))] [.e (ν25 0), .e (ν25 0), .e (ν25 0)] trivial ⟨by as_aux_lemma => kernel_rfl, fun ac wd hS => ?_⟩
    refine St.ordF [0] [14] [0, 3, 5, 6, 7] (rest := []) hS hap <| segF [(8, vi 0)] [] trivial fun ac hS => ?_
    refine ord_nil ?_
    refine St.ordBeginTS [(0, 1), (1, 1), (2, 1), (3, 1), (4, 1), (5, 1), (6, 1), (7, 1), (8, 1), (9, 1), (10, 1), (11, 1), (12, 0), (13, 1), (14, 1), (15, 1), (16, 0), (17, 0), (18, 1)] (.two [(0, 1), (1, 1), (2, 1), (3, 1), (4, 1), (5, 1), (6, 1), (7, 1), (8, 1), (9, 1), (10, 1), (11, 1)] 12 (.lin [(13, 1), (14, 1), (15, 1), (16, 0), (17, 0), (18, 1)]) 16 (.lin [(12, 0), (13, 1), (14, 1), (15, 1), (17, 0), (18, 1)])) [(g, .fn u (u + n) (strs (pgS m) u)), (wb, .cells [pt b 0, pt b 0, vi o_, vi z, sc g u n cp, vi rf, vi o_, vi z] 63), ((ν1 0), .cells [v8 qd, vi qa, vi qf, vi qn, vu qx, .string qs] 36), ((ν25 0), .cells [pt b 0, vi (o_ + qa), vi qn] 55)] [0, 1, 2, 3] hS fun wd hS => ?_
    have hap := hS.mem.pairs (Hf := [(g, .fn u (u + n) (strs (pgS m) u)), (wb, .cells [pt b 0, pt b 0, vi o_, vi z, sc g u n cp, vi rf, vi o_, vi z] 63), ((ν1 0), .cells [v8 qd, vi qa, vi qf, vi qn, vu qx, .string qs] 36), ((ν25 0), .cells [pt b 0, vi (o_ + qa), vi qn] 55)]) (l := [0, 1, 2, 3])
    refine wpT_two ?_
    refine St.ordF [0, 0, 0, 100, 0, 0, 0, 100, 0, 200, 0, 200] [0, 1, 2, 3, 4, 5, 6, 7, 8, 9, 10, 11] [0, 5, 6, 7, 8] (rest := []) hS hap <| segF [(79, .agg #[sc g u n cp, vi rf]), (83, .agg #[vi o_, vi z]), (85, vi qa), (87, vi qn)] [.e (ν1 0), .e (ν1 0), .e wb, .e wb, .e wb, .e wb] trivial fun ac hS => ?_
    refine ord_nil ?_
    refine ⟨?_, ?_⟩
    ·
     refine hS.ordC 12 75 #[.agg #[sc g u n cp, vi rf], .agg #[vi o_, vi z], vi qa, vi qn] (ref04_PartY g u n cp rf o_ z qa qn m _ (hS.mem.get 0 g (.fn u (u + n) (strs (pgS m) u))) (by first | assumption | omega | (simp_all; done) | (simp_all; omega)) (by first | assumption | omega | (simp_all; done) | (simp_all; omega)) (by first | assumption | omega | (simp_all; done) | (simp_all; omega)) (by first | assumption | omega | (simp_all; done) | (simp_all; omega))) ?_
     rintro _ wd ⟨rfl, hF⟩
     refine ⟨.tuple #[.agg #[vi (o_ + qa), vi qn], vi 0], rfl, ?_⟩
     replace hS := (hS.to (hS.mem.keep0 hF)).put (d := 88) (v := .tuple #[.agg #[vi (o_ + qa), vi qn], vi 0]) (by decide)
     clear hF
     refine hS.ordV (l := [0, 1, 2, 3]) ?_
     refine ord_nil ?_
     refine wpT_lin ?_
     refine St.ordF [0, 0, 0] [13, 14, 15] [0, 5, 6, 7, 8] (rest := [(16, 0), (17, 0), (18, 1)]) hS hap <| segF [(89, .agg #[vi (o_ + qa), vi qn]), (90, vi 0)] [] trivial fun ac hS => ?_
     refine St.ord1 16 [0] [0, 5, 6, 7, 8, 89, 90] [0, 1, 2, 3] hS rfl fun ν27 => seg [(9, pt (ν27 0) 0)] [(0, none), (1, none), (2, none), (3, none), (4, some ((ν27 0), .cells [vi 0, vi 0] 61))] [] trivial ⟨by as_aux_lemma => kernel_rfl, fun ac wd hS => ?_⟩
     refine St.ord1 17 [400] [0, 5, 6, 7, 8, 9, 90] [0, 1, 2, 3] hS rfl fun _ => seg [] [(0, none), (1, none), (2, none), (3, none), (4, some ((ν27 0), .cells [vi (o_ + qa), vi qn] 61))] [.e (ν27 0), .e (ν27 0)] trivial ⟨by as_aux_lemma => kernel_rfl, fun ac wd hS => ?_⟩
     refine St.ordF [0] [18] [0, 5, 6, 7, 8, 9] (rest := []) hS hap <| segF [(10, vi 0)] [] trivial fun ac hS => ?_
     refine ord_nil ?_
     refine wp_seq ?_
     refine St.ordBeginS [(0, 1), (1, 1), (2, 1), (3, 1), (4, 1), (5, 1), (6, 1), (7, 1), (9, 1), (10, 1), (8, 0), (11, 1), (12, 1), (13, 1), (15, 1), (16, 1), (14, 0), (17, 1), (18, 1), (19, 1), (20, 1)] [(g, .fn u (u + n) (strs (pgS m) u)), (wb, .cells [pt b 0, pt b 0, vi o_, vi z, sc g u n cp, vi rf, vi o_, vi z] 63), ((ν1 0), .cells [v8 qd, vi qa, vi qf, vi qn, vu qx, .string qs] 36), ((ν25 0), .cells [pt b 0, vi (o_ + qa), vi qn] 55), ((ν27 0), .cells [vi (o_ + qa), vi qn] 61)] [0, 1, 2, 3, 4] hS fun wd hS => ?_
     have hap := hS.mem.pairs (Hf := [(g, .fn u (u + n) (strs (pgS m) u)), (wb, .cells [pt b 0, pt b 0, vi o_, vi z, sc g u n cp, vi rf, vi o_, vi z] 63), ((ν1 0), .cells [v8 qd, vi qa, vi qf, vi qn, vu qx, .string qs] 36), ((ν25 0), .cells [pt b 0, vi (o_ + qa), vi qn] 55), ((ν27 0), .cells [vi (o_ + qa), vi qn] 61)]) (l := [0, 1, 2, 3, 4])
     refine St.ordF [0, 0, 0, 0, 1, 1, 1, 301, 1, 401] [0, 1, 2, 3, 4, 5, 6, 7, 9, 10] [0, 5, 6, 7, 9, 10] (rest := [(8, 0), (11, 1), (12, 1), (13, 1), (15, 1), (16, 1), (14, 0), (17, 1), (18, 1), (19, 1), (20, 1)]) hS hap <| segF [(94, vb false), (97, vb true), (98, .agg #[pt b 0, vi (o_ + qa), vi qn]), (101, vi (o_ + qa))] [.t true, .e (ν27 0), .t true, .t true, .e (ν25 0), .e (ν25 0), .e (ν25 0), .t false, .t false, .t false] trivial fun ac hS => ?_
     refine hS.ordCG 8 true 26 #[.agg #[pt b 0, vi (o_ + qa), vi qn]] (vw_At b (o_ + qa) qn _  ) ?_
     rintro _ wd ⟨rfl, hF⟩
     refine ⟨vi (o_ + qa), rfl, ?_⟩
     replace hS := (hS.to (hS.mem.keep0 hF)).put (d := 99) (v := vi (o_ + qa)) (by decide)
     clear hF
     refine hS.ordV (l := [0, 1, 2, 3, 4]) ?_
     refine St.ordF [fx 1 (vb false), 1, 301, 1, 401] [11, 12, 13, 15, 16] [0, 5, 6, 7, 9, 10, 94, 97] (rest := [(14, 0), (17, 1), (18, 1), (19, 1), (20, 1)]) hS hap <| segF [(103, vb false), (104, .agg #[pt b 0, vi (o_ + qa), vi qn]), (107, vi qn)] [.t false, .e (ν27 0), .t false, .t false, .e (ν25 0), .e (ν25 0), .e (ν25 0), .t true, .t true, .p ((vb (((o_ + qa) : Int) != (o_ + qa)) : Value) = vb false)] ⟨(congrArg Value.bool (bne_self_eq_false _)), trivial⟩ fun ac hS => ?_
     refine hS.ordCG 14 false 25 #[.agg #[pt b 0, vi (o_ + qa), vi qn]] (vw_Size b (o_ + qa) qn _  ) ?_
     rintro _ wd ⟨rfl, hF⟩
     refine ⟨vi qn, rfl, ?_⟩
     replace hS := (hS.to (hS.mem.keep0 hF)).put (d := 105) (v := vi qn) (by decide)
     clear hF
     refine hS.ordV (l := [0, 1, 2, 3, 4]) ?_
     refine St.ordF [fx 1 (vb false), 61, 71, 60] [17, 18, 19, 20] [0, 5, 6, 7, 9, 10] (rest := []) hS hap <| segF [(111, vb false)] [.t false, .t false, .t true, .t true, .t false, .t false, .p ((vb ((qn : Int) != qn) : Value) = vb false)] ⟨(congrArg Value.bool (bne_self_eq_false _)), trivial⟩ fun ac hS => ?_
     refine ord_nil ?_
     refine hS.condF ?_
     refine wp_skip ?_
     refine pop_then ?_
     refine hS.regS [0, 0, 0, 1, 401, 1, 70] [0, 5, 6, 7, 9] fun _ => seg [(118, vb (decide ((100 : Int) < qn)))] [(0, none), (1, none), (3, none), (4, none)] [.t true, .t true, .t true, .e (ν27 0), .t true] trivial fun ac wd hS => ?_
     refine hS.condC (decide ((100 : Int) < qn)) (fun hb2o hb2 => ?_) (fun hb2o hb2 => ?_)
     ·
      refine St.ordBegin [(0, 1), (1, 1), (2, 1), (3, 1), (4, 1), (5, 1), (6, 0), (7, 1), (8, 1), (9, 0)] [(g, .fn u (u + n) (strs (pgS m) u)), ((ν25 0), .cells [pt b 0, vi (o_ + qa), vi qn] 55), ((ν27 0), .cells [vi (o_ + qa), vi qn] 61)] [0, 2, 3] hS fun wd hS => ?_
      have hap := hS.mem.pairs (Hf := [(g, .fn u (u + n) (strs (pgS m) u)), ((ν25 0), .cells [pt b 0, vi (o_ + qa), vi qn] 55), ((ν27 0), .cells [vi (o_ + qa), vi qn] 61)]) (l := [0, 2, 3])
      refine St.ordF [0, 0, 100, 200, 0, 0] [0, 1, 2, 3, 4, 5] [5, 6] (rest := [(6, 0), (7, 1), (8, 1), (9, 0)]) hS hap <| segF [(120, pt wb 0), (121, .agg #[pt b 0, vi (o_ + qa), vi qn]), (122, .agg #[vi (o_ + qa), vi qn]), (124, pt wb 1)] [.e (ν27 0), .e (ν27 0), .e (ν25 0), .e (ν25 0), .e (ν25 0)] trivial fun ac hS => ?_
      refine St.ord1 6 [100] [5, 6, 120, 122] [0, 2, 3] hS rfl fun _ => seg [] [(0, none), (1, some (wb, .cells [pt b 0, pt b 0, vi (o_ + qa), vi qn, sc g u n cp, vi rf, vi o_, vi z] 63)), (2, none), (3, none)] [.e wb, .e wb, .e wb] trivial ⟨by as_aux_lemma => kernel_rfl, fun ac wd hS => ?_⟩
      refine St.ordF [0, 0] [7, 8] [5, 6, 122] (rest := [(9, 0)]) hS hap <| segF [(126, pt wb 6)] [] trivial fun ac hS => ?_
      refine St.ord1 9 [100] [5, 6] [0, 2, 3] hS rfl fun _ => seg [] [(0, none), (1, some (wb, .cells [pt b 0, pt b 0, vi (o_ + qa), vi qn, sc g u n cp, vi rf, vi (o_ + qa), vi qn] 63)), (2, none), (3, none)] [.e wb, .e wb] trivial ⟨by as_aux_lemma => kernel_rfl, fun ac wd hS => ?_⟩
      refine ord_nil ?_
      refine pop_block ?_
      refine pop_then ?_
      refine hS.regS [0, 0, 0, 0] [] fun _ => seg [(4, vb true)] [(0, none), (1, none)] [] trivial fun ac wd hS => ?_
      refine wp_ret ?_
      refine St.retC 0 hS (vb true) [] trivial fun hw => ?_
      refine ⟨m, (o_ + qa), qn, g, u, cp, F, retd rfl, ?_, (hw.res 0), (hw.wins 1 (show _ = some (wb, .cells [pt b 0, pt b 0, vi (o_ + qa), vi qn, sc g u n cp, vi rf, vi (o_ + qa), vi qn] 63) by as_aux_lemma => kernel_rfl)), (hw.get 1 wb (.cells [pt b 0, pt b 0, vi (o_ + qa), vi qn, sc g u n cp, vi rf, vi (o_ + qa), vi qn] 63)), (.inl rfl), (hw.get 0 g (.fn u (u + n) (strs (pgS m) u))), (fun q_ => hw.free (g, .fn u (u + n) (strs (pgS m) u)) (List.mem_of_getElem? (i := 0) (by as_aux_lemma => kernel_rfl)) (.inl q_)), hw.fr0⟩
      all_goals (first | rfl | exact ⟨rfl, ho⟩ | exact ⟨decM_cap _ _ _, ho⟩ | exact ⟨vptM_cap, ho⟩ | exact ⟨vfiM_cap, ho⟩ | exact ⟨vstM_cap, ho⟩ | exact ⟨vcpM_cap, ho⟩ | exact ⟨rfl, wi_z ho hpw⟩)
     ·
      refine wp_skip ?_
      refine pop_block ?_
      refine pop_then ?_
      refine hS.regS [0, 0, 0, 0] [] fun _ => seg [(4, vb true)] [(0, none), (1, none)] [] trivial fun ac wd hS => ?_
      refine wp_ret ?_
      refine St.retC 0 hS (vb true) [] trivial fun hw => ?_
      refine ⟨m, o_, z, g, u, cp, F, retd rfl, ?_, (hw.res 0), (hw.wins 1 (show _ = some (wb, .cells [pt b 0, pt b 0, vi o_, vi z, sc g u n cp, vi rf, vi o_, vi z] 63) by as_aux_lemma => kernel_rfl)), (hw.get 1 wb (.cells [pt b 0, pt b 0, vi o_, vi z, sc g u n cp, vi rf, vi o_, vi z] 63)), (.inl rfl), (hw.get 0 g (.fn u (u + n) (strs (pgS m) u))), (fun q_ => hw.free (g, .fn u (u + n) (strs (pgS m) u)) (List.mem_of_getElem? (i := 0) (by as_aux_lemma => kernel_rfl)) (.inl q_)), hw.fr0⟩
      all_goals (first | rfl | exact ⟨rfl, ho⟩ | exact ⟨decM_cap _ _ _, ho⟩ | exact ⟨vptM_cap, ho⟩ | exact ⟨vfiM_cap, ho⟩ | exact ⟨vstM_cap, ho⟩ | exact ⟨vcpM_cap, ho⟩ | exact ⟨rfl, wi_z ho hpw⟩)
    ·
     refine St.ord1 16 [0] [0, 5, 6, 7, 8, 79, 83, 85, 87] [0, 1, 2, 3] hS rfl fun ν34 => seg [(9, pt (ν34 0) 0)] [(0, none), (1, none), (2, none), (3, none), (4, some ((ν34 0), .cells [vi 0, vi 0] 61))] [] trivial ⟨by as_aux_lemma => kernel_rfl, fun ac wd hS => ?_⟩
     refine ord_nil ?_
     refine wpT_lin ?_
     refine hS.ordC 12 75 #[.agg #[sc g u n cp, vi rf], .agg #[vi o_, vi z], vi qa, vi qn] (ref04_PartY g u n cp rf o_ z qa qn m _ (hS.mem.get 0 g (.fn u (u + n) (strs (pgS m) u))) (by first | assumption | omega | (simp_all; done) | (simp_all; omega)) (by first | assumption | omega | (simp_all; done) | (simp_all; omega)) (by first | assumption | omega | (simp_all; done) | (simp_all; omega)) (by first | assumption | omega | (simp_all; done) | (simp_all; omega))) ?_
     rintro _ wd ⟨rfl, hF⟩
     refine ⟨.tuple #[.agg #[vi (o_ + qa), vi qn], vi 0], rfl, ?_⟩
     replace hS := (hS.to (hS.mem.keep0 hF)).put (d := 88) (v := .tuple #[.agg #[vi (o_ + qa), vi qn], vi 0]) (by decide)
     clear hF
     refine hS.ordV (l := [0, 1, 2, 3]) ?_
     refine St.ordF [0, 0, 0] [13, 14, 15] [0, 5, 6, 7, 8, 9] (rest := [(17, 0), (18, 1)]) hS hap <| segF [(89, .agg #[vi (o_ + qa), vi qn]), (90, vi 0)] [] trivial fun ac hS => ?_
     refine St.ord1 17 [400] [0, 5, 6, 7, 8, 9, 90] [0, 1, 2, 3] hS rfl fun _ => seg [] [(0, none), (1, none), (2, none), (3, none), (4, some ((ν34 0), .cells [vi (o_ + qa), vi qn] 61))] [.e (ν34 0), .e (ν34 0)] trivial ⟨by as_aux_lemma => kernel_rfl, fun ac wd hS => ?_⟩
     refine St.ordF [0] [18] [0, 5, 6, 7, 8, 9] (rest := []) hS hap <| segF [(10, vi 0)] [] trivial fun ac hS => ?_
     refine ord_nil ?_
     refine wp_seq ?_
     refine St.ordBeginS [(0, 1), (1, 1), (2, 1), (3, 1), (4, 1), (5, 1), (6, 1), (7, 1), (9, 1), (10, 1), (8, 0), (11, 1), (12, 1), (13, 1), (15, 1), (16, 1), (14, 0), (17, 1), (18, 1), (19, 1), (20, 1)] [(g, .fn u (u + n) (strs (pgS m) u)), (wb, .cells [pt b 0, pt b 0, vi o_, vi z, sc g u n cp, vi rf, vi o_, vi z] 63), ((ν1 0), .cells [v8 qd, vi qa, vi qf, vi qn, vu qx, .string qs] 36), ((ν25 0), .cells [pt b 0, vi (o_ + qa), vi qn] 55), ((ν34 0), .cells [vi (o_ + qa), vi qn] 61)] [0, 1, 2, 3, 4] hS fun wd hS => ?_
     have hap := hS.mem.pairs (Hf := [(g, .fn u (u + n) (strs (pgS m) u)), (wb, .cells [pt b 0, pt b 0, vi o_, vi z, sc g u n cp, vi rf, vi o_, vi z] 63), ((ν1 0), .cells [v8 qd, vi qa, vi qf, vi qn, vu qx, .string qs] 36), ((ν25 0), .cells [pt b 0, vi (o_ + qa), vi qn] 55), ((ν34 0), .cells [vi (o_ + qa), vi qn] 61)]) (l := [0, 1, 2, 3, 4])
     refine St.ordF [0, 0, 0, 0, 1, 1, 1, 301, 1, 401] [0, 1, 2, 3, 4, 5, 6, 7, 9, 10] [0, 5, 6, 7, 9, 10] (rest := [(8, 0), (11, 1), (12, 1), (13, 1), (15, 1), (16, 1), (14, 0), (17, 1), (18, 1), (19, 1), (20, 1)]) hS hap <| segF [(94, vb false), (97, vb true), (98, .agg #[pt b 0, vi (o_ + qa), vi qn]), (101, vi (o_ + qa))] [.t true, .e (ν34 0), .t true, .t true, .e (ν25 0), .e (ν25 0), .e (ν25 0), .t false, .t false, .t false] trivial fun ac hS => ?_
     refine hS.ordCG 8 true 26 #[.agg #[pt b 0, vi (o_ + qa), vi qn]] (vw_At b (o_ + qa) qn _  ) ?_
     rintro _ wd ⟨rfl, hF⟩
     refine ⟨vi (o_ + qa), rfl, ?_⟩
     replace hS := (hS.to (hS.mem.keep0 hF)).put (d := 99) (v := vi (o_ + qa)) (by decide)
     clear hF
     refine hS.ordV (l := [0, 1, 2, 3, 4]) ?_
     refine St.ordF [fx 1 (vb false), 1, 301, 1, 401] [11, 12, 13, 15, 16] [0, 5, 6, 7, 9, 10, 94, 97] (rest := [(14, 0), (17, 1), (18, 1), (19, 1), (20, 1)]) hS hap <| segF [(103, vb false), (104, .agg #[pt b 0, vi (o_ + qa), vi qn]), (107, vi qn)] [.t false, .e (ν34 0), .t false, .t false, .e (ν25 0), .e (ν25 0), .e (ν25 0), .t true, .t true, .p ((vb (((o_ + qa) : Int) != (o_ + qa)) : Value) = vb false)] ⟨(congrArg Value.bool (bne_self_eq_false _)), trivial⟩ fun ac hS => ?_
     refine hS.ordCG 14 false 25 #[.agg #[pt b 0, vi (o_ + qa), vi qn]] (vw_Size b (o_ + qa) qn _  ) ?_
     rintro _ wd ⟨rfl, hF⟩
     refine ⟨vi qn, rfl, ?_⟩
     replace hS := (hS.to (hS.mem.keep0 hF)).put (d := 105) (v := vi qn) (by decide)
     clear hF
     refine hS.ordV (l := [0, 1, 2, 3, 4]) ?_
     refine St.ordF [fx 1 (vb false), 61, 71, 60] [17, 18, 19, 20] [0, 5, 6, 7, 9, 10] (rest := []) hS hap <| segF [(111, vb false)] [.t false, .t false, .t true, .t true, .t false, .t false, .p ((vb ((qn : Int) != qn) : Value) = vb false)] ⟨(congrArg Value.bool (bne_self_eq_false _)), trivial⟩ fun ac hS => ?_
     refine ord_nil ?_
     refine hS.condF ?_
     refine wp_skip ?_
     refine pop_then ?_
     refine hS.regS [0, 0, 0, 1, 401, 1, 70] [0, 5, 6, 7, 9] fun _ => seg [(118, vb (decide ((100 : Int) < qn)))] [(0, none), (1, none), (3, none), (4, none)] [.t true, .t true, .t true, .e (ν34 0), .t true] trivial fun ac wd hS => ?_
     refine hS.condC (decide ((100 : Int) < qn)) (fun hb3o hb3 => ?_) (fun hb3o hb3 => ?_)
     ·
      refine St.ordBegin [(0, 1), (1, 1), (2, 1), (3, 1), (4, 1), (5, 1), (6, 0), (7, 1), (8, 1), (9, 0)] [(g, .fn u (u + n) (strs (pgS m) u)), ((ν25 0), .cells [pt b 0, vi (o_ + qa), vi qn] 55), ((ν34 0), .cells [vi (o_ + qa), vi qn] 61)] [0, 2, 3] hS fun wd hS => ?_
      have hap := hS.mem.pairs (Hf := [(g, .fn u (u + n) (strs (pgS m) u)), ((ν25 0), .cells [pt b 0, vi (o_ + qa), vi qn] 55), ((ν34 0), .cells [vi (o_ + qa), vi qn] 61)]) (l := [0, 2, 3])
      refine St.ordF [0, 0, 100, 200, 0, 0] [0, 1, 2, 3, 4, 5] [5, 6] (rest := [(6, 0), (7, 1), (8, 1), (9, 0)]) hS hap <| segF [(120, pt wb 0), (121, .agg #[pt b 0, vi (o_ + qa), vi qn]), (122, .agg #[vi (o_ + qa), vi qn]), (124, pt wb 1)] [.e (ν34 0), .e (ν34 0), .e (ν25 0), .e (ν25 0), .e (ν25 0)] trivial fun ac hS => ?_
      refine St.ord1 6 [100] [5, 6, 120, 122] [0, 2, 3] hS rfl fun _ => seg [] [(0, none), (1, some (wb, .cells [pt b 0, pt b 0, vi (o_ + qa), vi qn, sc g u n cp, vi rf, vi o_, vi z] 63)), (2, none), (3, none)] [.e wb, .e wb, .e wb] trivial ⟨by as_aux_lemma => kernel_rfl, fun ac wd hS => ?_⟩
      refine St.ordF [0, 0] [7, 8] [5, 6, 122] (rest := [(9, 0)]) hS hap <| segF [(126, pt wb 6)] [] trivial fun ac hS => ?_
      refine St.ord1 9 [100] [5, 6] [0, 2, 3] hS rfl fun _ => seg [] [(0, none), (1, some (wb, .cells [pt b 0, pt b 0, vi (o_ + qa), vi qn, sc g u n cp, vi rf, vi (o_ + qa), vi qn] 63)), (2, none), (3, none)] [.e wb, .e wb] trivial ⟨by as_aux_lemma => kernel_rfl, fun ac wd hS => ?_⟩
      refine ord_nil ?_
      refine pop_block ?_
      refine pop_then ?_
      refine hS.regS [0, 0, 0, 0] [] fun _ => seg [(4, vb true)] [(0, none), (1, none)] [] trivial fun ac wd hS => ?_
      refine wp_ret ?_
      refine St.retC 0 hS (vb true) [] trivial fun hw => ?_
      refine ⟨m, (o_ + qa), qn, g, u, cp, F, retd rfl, ?_, (hw.res 0), (hw.wins 1 (show _ = some (wb, .cells [pt b 0, pt b 0, vi (o_ + qa), vi qn, sc g u n cp, vi rf, vi (o_ + qa), vi qn] 63) by as_aux_lemma => kernel_rfl)), (hw.get 1 wb (.cells [pt b 0, pt b 0, vi (o_ + qa), vi qn, sc g u n cp, vi rf, vi (o_ + qa), vi qn] 63)), (.inl rfl), (hw.get 0 g (.fn u (u + n) (strs (pgS m) u))), (fun q_ => hw.free (g, .fn u (u + n) (strs (pgS m) u)) (List.mem_of_getElem? (i := 0) (by as_aux_lemma => kernel_rfl)) (.inl q_)), hw.fr0⟩
      all_goals (first | rfl | exact ⟨rfl, ho⟩ | exact ⟨decM_cap _ _ _, ho⟩ | exact ⟨vptM_cap, ho⟩ | exact ⟨vfiM_cap, ho⟩ | exact ⟨vstM_cap, ho⟩ | exact ⟨vcpM_cap, ho⟩ | exact ⟨rfl, wi_z ho hpw⟩)
     ·
      refine wp_skip ?_
      refine pop_block ?_
      refine pop_then ?_
      refine hS.regS [0, 0, 0, 0] [] fun _ => seg [(4, vb true)] [(0, none), (1, none)] [] trivial fun ac wd hS => ?_
      refine wp_ret ?_
      refine St.retC 0 hS (vb true) [] trivial fun hw => ?_
      refine ⟨m, o_, z, g, u, cp, F, retd rfl, ?_, (hw.res 0), (hw.wins 1 (show _ = some (wb, .cells [pt b 0, pt b 0, vi o_, vi z, sc g u n cp, vi rf, vi o_, vi z] 63) by as_aux_lemma => kernel_rfl)), (hw.get 1 wb (.cells [pt b 0, pt b 0, vi o_, vi z, sc g u n cp, vi rf, vi o_, vi z] 63)), (.inl rfl), (hw.get 0 g (.fn u (u + n) (strs (pgS m) u))), (fun q_ => hw.free (g, .fn u (u + n) (strs (pgS m) u)) (List.mem_of_getElem? (i := 0) (by as_aux_lemma => kernel_rfl)) (.inl q_)), hw.fr0⟩
      all_goals (first | rfl | exact ⟨rfl, ho⟩ | exact ⟨decM_cap _ _ _, ho⟩ | exact ⟨vptM_cap, ho⟩ | exact ⟨vfiM_cap, ho⟩ | exact ⟨vstM_cap, ho⟩ | exact ⟨vcpM_cap, ho⟩ | exact ⟨rfl, wi_z ho hpw⟩)
   ·
    refine St.ord1 12 [0] [0, 3, 5, 6, 67, 69, 71] [0, 1, 2] hS rfl fun ν41 => seg [(7, pt (ν41 0) 0)] [(0, none), (1, none), (2, none), (3, some ((ν41 0), .cells [pnil, vi 0, vi 0] 55))] [] trivial ⟨by as_aux_lemma => kernel_rfl, fun ac wd hS => ?_⟩
    refine ord_nil ?_
    refine wpT_lin ?_
    refine hS.ordC 8 74 #[.agg #[pt b 0, vi o_, vi z], vi qa, vi qn] (vw_PartY b F m o_ z qa qn _ (hS.mem.res 0) (by first | assumption | omega | (simp_all; done) | (simp_all; omega)) (by first | assumption | omega | (simp_all; done) | (simp_all; omega))) ?_
    rintro _ wd ⟨rfl, hF⟩
    refine ⟨.tuple #[.agg #[pt b 0, vi (o_ + qa), vi qn], vi 0], rfl, ?_⟩
    replace hS := (hS.to (hS.mem.keep0 hF)).put (d := 72) (v := .tuple #[.agg #[pt b 0, vi (o_ + qa), vi qn], vi 0]) (by decide)
    clear hF
    refine hS.ordV (l := [0, 1, 2]) ?_
    refine St.ordF [0, 0, 0] [9, 10, 11] [0, 3, 5, 6, 7] (rest := [(13, 0), (14, 1)]) hS hap <| segF [(73, .agg #[pt b 0, vi (o_ + qa), vi qn]), (74, vi 0)] [] trivial fun ac hS => ?_
    refine St.ord1 13 [300] [0, 3, 5, 6, 7, 74] [0, 1, 2] hS rfl fun _ => seg [] [(0, none), (1, none), (2, none), (3, some ((ν41 0), .cells [pt b 0, vi (o_ + qa), vi qn] 55))] [.e (ν41 0), .e (ν41 0), .e (ν41 0)] trivial ⟨by as_aux_lemma => kernel_rfl, fun ac wd hS => ?_⟩
    refine St.ordF [0] [14] [0, 3, 5, 6, 7] (rest := []) hS hap <| segF [(8, vi 0)] [] trivial fun ac hS => ?_
    refine ord_nil ?_
    refine St.ordBeginTS [(0, 1), (1, 1), (2, 1), (3, 1), (4, 1), (5, 1), (6, 1), (7, 1), (8, 1), (9, 1), (10, 1), (11, 1), (12, 0), (13, 1), (14, 1), (15, 1), (16, 0), (17, 0), (18, 1)] (.two [(0, 1), (1, 1), (2, 1), (3, 1), (4, 1), (5, 1), (6, 1), (7, 1), (8, 1), (9, 1), (10, 1), (11, 1)] 12 (.lin [(13, 1), (14, 1), (15, 1), (16, 0), (17, 0), (18, 1)]) 16 (.lin [(12, 0), (13, 1), (14, 1), (15, 1), (17, 0), (18, 1)])) [(g, .fn u (u + n) (strs (pgS m) u)), (wb, .cells [pt b 0, pt b 0, vi o_, vi z, sc g u n cp, vi rf, vi o_, vi z] 63), ((ν1 0), .cells [v8 qd, vi qa, vi qf, vi qn, vu qx, .string qs] 36), ((ν41 0), .cells [pt b 0, vi (o_ + qa), vi qn] 55)] [0, 1, 2, 3] hS fun wd hS => ?_
    have hap := hS.mem.pairs (Hf := [(g, .fn u (u + n) (strs (pgS m) u)), (wb, .cells [pt b 0, pt b 0, vi o_, vi z, sc g u n cp, vi rf, vi o_, vi z] 63), ((ν1 0), .cells [v8 qd, vi qa, vi qf, vi qn, vu qx, .string qs] 36), ((ν41 0), .cells [pt b 0, vi (o_ + qa), vi qn] 55)]) (l := [0, 1, 2, 3])
    refine wpT_two ?_
    refine St.ordF [0, 0, 0, 100, 0, 0, 0, 100, 0, 200, 0, 200] [0, 1, 2, 3, 4, 5, 6, 7, 8, 9, 10, 11] [0, 5, 6, 7, 8] (rest := []) hS hap <| segF [(79, .agg #[sc g u n cp, vi rf]), (83, .agg #[vi o_, vi z]), (85, vi qa), (87, vi qn)] [.e (ν1 0), .e (ν1 0), .e wb, .e wb, .e wb, .e wb] trivial fun ac hS => ?_
    refine ord_nil ?_
    refine ⟨?_, ?_⟩
    ·
     refine hS.ordC 12 75 #[.agg #[sc g u n cp, vi rf], .agg #[vi o_, vi z], vi qa, vi qn] (ref04_PartY g u n cp rf o_ z qa qn m _ (hS.mem.get 0 g (.fn u (u + n) (strs (pgS m) u))) (by first | assumption | omega | (simp_all; done) | (simp_all; omega)) (by first | assumption | omega | (simp_all; done) | (simp_all; omega)) (by first | assumption | omega | (simp_all; done) | (simp_all; omega)) (by first | assumption | omega | (simp_all; done) | (simp_all; omega))) ?_
     rintro _ wd ⟨rfl, hF⟩
     refine ⟨.tuple #[.agg #[vi (o_ + qa), vi qn], vi 0], rfl, ?_⟩
     replace hS := (hS.to (hS.mem.keep0 hF)).put (d := 88) (v := .tuple #[.agg #[vi (o_ + qa), vi qn], vi 0]) (by decide)
     clear hF
     refine hS.ordV (l := [0, 1, 2, 3]) ?_
     refine ord_nil ?_
     refine wpT_lin ?_
     refine St.ordF [0, 0, 0] [13, 14, 15] [0, 5, 6, 7, 8] (rest := [(16, 0), (17, 0), (18, 1)]) hS hap <| segF [(89, .agg #[vi (o_ + qa), vi qn]), (90, vi 0)] [] trivial fun ac hS => ?_
     refine St.ord1 16 [0] [0, 5, 6, 7, 8, 89, 90] [0, 1, 2, 3] hS rfl fun ν43 => seg [(9, pt (ν43 0) 0)] [(0, none), (1, none), (2, none), (3, none), (4, some ((ν43 0), .cells [vi 0, vi 0] 61))] [] trivial ⟨by as_aux_lemma => kernel_rfl, fun ac wd hS => ?_⟩
     refine St.ord1 17 [400] [0, 5, 6, 7, 8, 9, 90] [0, 1, 2, 3] hS rfl fun _ => seg [] [(0, none), (1, none), (2, none), (3, none), (4, some ((ν43 0), .cells [vi (o_ + qa), vi qn] 61))] [.e (ν43 0), .e (ν43 0)] trivial ⟨by as_aux_lemma => kernel_rfl, fun ac wd hS => ?_⟩
     refine St.ordF [0] [18] [0, 5, 6, 7, 8, 9] (rest := []) hS hap <| segF [(10, vi 0)] [] trivial fun ac hS => ?_
     refine ord_nil ?_
     refine wp_seq ?_
     refine St.ordBeginS [(0, 1), (1, 1), (2, 1), (3, 1), (4, 1), (5, 1), (6, 1), (7, 1), (9, 1), (10, 1), (8, 0), (11, 1), (12, 1), (13, 1), (15, 1), (16, 1), (14, 0), (17, 1), (18, 1), (19, 1), (20, 1)] [(g, .fn u (u + n) (strs (pgS m) u)), (wb, .cells [pt b 0, pt b 0, vi o_, vi z, sc g u n cp, vi rf, vi o_, vi z] 63), ((ν1 0), .cells [v8 qd, vi qa, vi qf, vi qn, vu qx, .string qs] 36), ((ν41 0), .cells [pt b 0, vi (o_ + qa), vi qn] 55), ((ν43 0), .cells [vi (o_ + qa), vi qn] 61)] [0, 1, 2, 3, 4] hS fun wd hS => ?_
     have hap := hS.mem.pairs (Hf := [(g, .fn u (u + n) (strs (pgS m) u)), (wb, .cells [pt b 0, pt b 0, vi o_, vi z, sc g u n cp, vi rf, vi o_, vi z] 63), ((ν1 0), .cells [v8 qd, vi qa, vi qf, vi qn, vu qx, .string qs] 36), ((ν41 0), .cells [pt b 0, vi (o_ + qa), vi qn] 55), ((ν43 0), .cells [vi (o_ + qa), vi qn] 61)]) (l := [0, 1, 2, 3, 4])
     refine St.ordF [0, 0, 0, 0, 1, 1, 1, 301, 1, 401] [0, 1, 2, 3, 4, 5, 6, 7, 9, 10] [0, 5, 6, 7, 9, 10] (rest := [(8, 0), (11, 1), (12, 1), (13, 1), (15, 1), (16, 1), (14, 0), (17, 1), (18, 1), (19, 1), (20, 1)]) hS hap <| segF [(94, vb false), (97, vb true), (98, .agg #[pt b 0, vi (o_ + qa), vi qn]), (101, vi (o_ + qa))] [.t true, .e (ν43 0), .t true, .t true, .e (ν41 0), .e (ν41 0), .e (ν41 0), .t false, .t false, .t false] trivial fun ac hS => ?_
     refine hS.ordCG 8 true 26 #[.agg #[pt b 0, vi (o_ + qa), vi qn]] (vw_At b (o_ + qa) qn _  ) ?_
     rintro _ wd ⟨rfl, hF⟩
     refine ⟨vi (o_ + qa), rfl, ?_⟩
     replace hS := (hS.to (hS.mem.keep0 hF)).put (d := 99) (v := vi (o_ + qa)) (by decide)
     clear hF
     refine hS.ordV (l := [0, 1, 2, 3, 4]) ?_
     refine St.ordF [fx 1 (vb false), 1, 301, 1, 401] [11, 12, 13, 15, 16] [0, 5, 6, 7, 9, 10, 94, 97] (rest := [(14, 0), (17, 1), (18, 1), (19, 1), (20, 1)]) hS hap <| segF [(103, vb false), (104, .agg #[pt b 0, vi (o_ + qa), vi qn]), (107, vi qn)] [.t false, .e (ν43 0), .t false, .t false, .e (ν41 0), .e (ν41 0), .e (ν41 0), .t true, .t true, .p ((vb (((o_ + qa) : Int) != (o_ + qa)) : Value) = vb false)] ⟨(congrArg Value.bool (bne_self_eq_false _)), trivial⟩ fun ac hS => ?_
     refine hS.ordCG 14 false 25 #[.agg #[pt b 0, vi (o_ + qa), vi qn]] (vw_Size b (o_ + qa) qn _  ) ?_
     rintro _ wd ⟨rfl, hF⟩
     refine ⟨vi qn, rfl, ?_⟩
     replace hS := (hS.to (hS.mem.keep0 hF)).put (d := 105) (v := vi qn) (by decide)
     clear hF
     refine hS.ordV (l := [0, 1, 2, 3, 4]) ?_
     refine St.ordF [fx 1 (vb false), 61, 71, 60] [17, 18, 19, 20] [0, 5, 6, 7, 9, 10] (rest := []) hS hap <| segF [(111, vb false)] [.t false, .t false, .t true, .t true, .t false, .t false, .p ((vb ((qn : Int) != qn) : Value) = vb false)] ⟨(congrArg Value.bool (bne_self_eq_false _)), trivial⟩ fun ac hS => ?_
     refine ord_nil ?_
     refine hS.condF ?_
     refine wp_skip ?_
     refine pop_then ?_
     refine hS.regS [0, 0, 0, 1, 401, 1, 70] [0, 5, 6, 7, 9] fun _ => seg [(118, vb (decide ((100 : Int) < qn)))] [(0, none), (1, none), (3, none), (4, none)] [.t true, .t true, .t true, .e (ν43 0), .t true] trivial fun ac wd hS => ?_
     refine hS.condC (decide ((100 : Int) < qn)) (fun hb4o hb4 => ?_) (fun hb4o hb4 => ?_)
     ·
      refine St.ordBegin [(0, 1), (1, 1), (2, 1), (3, 1), (4, 1), (5, 1), (6, 0), (7, 1), (8, 1), (9, 0)] [(g, .fn u (u + n) (strs (pgS m) u)), ((ν41 0), .cells [pt b 0, vi (o_ + qa), vi qn] 55), ((ν43 0), .cells [vi (o_ + qa), vi qn] 61)] [0, 2, 3] hS fun wd hS => ?_
      have hap := hS.mem.pairs (Hf := [(g, .fn u (u + n) (strs (pgS m) u)), ((ν41 0), .cells [pt b 0, vi (o_ + qa), vi qn] 55), ((ν43 0), .cells [vi (o_ + qa), vi qn] 61)]) (l := [0, 2, 3])
      refine St.ordF [0, 0, 100, 200, 0, 0] [0, 1, 2, 3, 4, 5] [5, 6] (rest := [(6, 0), (7, 1), (8, 1), (9, 0)]) hS hap <| segF [(120, pt wb 0), (121, .agg #[pt b 0, vi (o_ + qa), vi qn]), (122, .agg #[vi (o_ + qa), vi qn]), (124, pt wb 1)] [.e (ν43 0), .e (ν43 0), .e (ν41 0), .e (ν41 0), .e (ν41 0)] trivial fun ac hS => ?_
      refine St.ord1 6 [100] [5, 6, 120, 122] [0, 2, 3] hS rfl fun _ => seg [] [(0, none), (1, some (wb, .cells [pt b 0, pt b 0, vi (o_ + qa), vi qn, sc g u n cp, vi rf, vi o_, vi z] 63)), (2, none), (3, none)] [.e wb, .e wb, .e wb] trivial ⟨by as_aux_lemma => kernel_rfl, fun ac wd hS => ?_⟩
      refine St.ordF [0, 0] [7, 8] [5, 6, 122] (rest := [(9, 0)]) hS hap <| segF [(126, pt wb 6)] [] trivial fun ac hS => ?_
      refine St.ord1 9 [100] [5, 6] [0, 2, 3] hS rfl fun _ => seg [] [(0, none), (1, some (wb, .cells [pt b 0, pt b 0, vi (o_ + qa), vi qn, sc g u n cp, vi rf, vi (o_ + qa), vi qn] 63)), (2, none), (3, none)] [.e wb, .e wb] trivial ⟨by as_aux_lemma => kernel_rfl, fun ac wd hS => ?_⟩
      refine ord_nil ?_
      refine pop_block ?_
      refine pop_then ?_
      refine hS.regS [0, 0, 0, 0] [] fun _ => seg [(4, vb true)] [(0, none), (1, none)] [] trivial fun ac wd hS => ?_
      refine wp_ret ?_
      refine St.retC 0 hS (vb true) [] trivial fun hw => ?_
      refine ⟨m, (o_ + qa), qn, g, u, cp, F, retd rfl, ?_, (hw.res 0), (hw.wins 1 (show _ = some (wb, .cells [pt b 0, pt b 0, vi (o_ + qa), vi qn, sc g u n cp, vi rf, vi (o_ + qa), vi qn] 63) by as_aux_lemma => kernel_rfl)), (hw.get 1 wb (.cells [pt b 0, pt b 0, vi (o_ + qa), vi qn, sc g u n cp, vi rf, vi (o_ + qa), vi qn] 63)), (.inl rfl), (hw.get 0 g (.fn u (u + n) (strs (pgS m) u))), (fun q_ => hw.free (g, .fn u (u + n) (strs (pgS m) u)) (List.mem_of_getElem? (i := 0) (by as_aux_lemma => kernel_rfl)) (.inl q_)), hw.fr0⟩
      all_goals (first | rfl | exact ⟨rfl, ho⟩ | exact ⟨decM_cap _ _ _, ho⟩ | exact ⟨vptM_cap, ho⟩ | exact ⟨vfiM_cap, ho⟩ | exact ⟨vstM_cap, ho⟩ | exact ⟨vcpM_cap, ho⟩ | exact ⟨rfl, wi_z ho hpw⟩)
     ·
      refine wp_skip ?_
      refine pop_block ?_
      refine pop_then ?_
      refine hS.regS [0, 0, 0, 0] [] fun _ => seg [(4, vb true)] [(0, none), (1, none)] [] trivial fun ac wd hS => ?_
      refine wp_ret ?_
      refine St.retC 0 hS (vb true) [] trivial fun hw => ?_
      refine ⟨m, o_, z, g, u, cp, F, retd rfl, ?_, (hw.res 0), (hw.wins 1 (show _ = some (wb, .cells [pt b 0, pt b 0, vi o_, vi z, sc g u n cp, vi rf, vi o_, vi z] 63) by as_aux_lemma => kernel_rfl)), (hw.get 1 wb (.cells [pt b 0, pt b 0, vi o_, vi z, sc g u n cp, vi rf, vi o_, vi z] 63)), (.inl rfl), (hw.get 0 g (.fn u (u + n) (strs (pgS m) u))), (fun q_ => hw.free (g, .fn u (u + n) (strs (pgS m) u)) (List.mem_of_getElem? (i := 0) (by as_aux_lemma => kernel_rfl)) (.inl q_)), hw.fr0⟩
      all_goals (first | rfl | exact ⟨rfl, ho⟩ | exact ⟨decM_cap _ _ _, ho⟩ | exact ⟨vptM_cap, ho⟩ | exact ⟨vfiM_cap, ho⟩ | exact ⟨vstM_cap, ho⟩ | exact ⟨vcpM_cap, ho⟩ | exact ⟨rfl, wi_z ho hpw⟩)
    ·
     refine St.ord1 16 [0] [0, 5, 6, 7, 8, 79, 83, 85, 87] [0, 1, 2, 3] hS rfl fun ν50 => seg [(9, pt (ν50 0) 0)] [(0, none), (1, none), (2, none), (3, none), (4, some ((ν50 0), .cells [vi 0, vi 0] 61))] [] trivial ⟨by as_aux_lemma => kernel_rfl, fun ac wd hS => ?_⟩
     refine ord_nil ?_
     refine wpT_lin ?_
     refine hS.ordC 12 75 #[.agg #[sc g u n cp, vi rf], .agg #[vi o_, vi z], vi qa, vi qn] (ref04_PartY g u n cp rf o_ z qa qn m _ (hS.mem.get 0 g (.fn u (u + n) (strs (pgS m) u))) (by first | assumption | omega | (simp_all; done) | (simp_all; omega)) (by first | assumption | omega | (simp_all; done) | (simp_all; omega)) (by first | assumption | omega | (simp_all; done) | (simp_all; omega)) (by first | assumption | omega | (simp_all; done) | (simp_all; omega))) ?_
     rintro _ wd ⟨rfl, hF⟩
     refine ⟨.tuple #[.agg #[vi (o_ + qa), vi qn], vi 0], rfl, ?_⟩
     replace hS := (hS.to (hS.mem.keep0 hF)).put (d := 88) (v := .tuple #[.agg #[vi (o_ + qa), vi qn], vi 0]) (by decide)
     clear hF
     refine hS.ordV (l := [0, 1, 2, 3]) ?_
     refine St.ordF [0, 0, 0] [13, 14, 15] [0, 5, 6, 7, 8, 9] (rest := [(17, 0), (18, 1)]) hS hap <| segF [(89, .agg #[vi (o_ + qa), vi qn]), (90, vi 0)] [] trivial fun ac hS => ?_
     refine St.ord1 17 [400] [0, 5, 6, 7, 8, 9, 90] [0, 1, 2, 3] hS rfl fun _ => seg [] [(0, none), (1, none), (2, none), (3, none), (4, some ((ν50 0), .cells [vi (o_ + qa), vi qn] 61))] [.e (ν50 0), .e (ν50 0)] trivial ⟨by as_aux_lemma => kernel_rfl, fun ac wd hS => ?_⟩
     refine St.ordF [0] [18] [0, 5, 6, 7, 8, 9] (rest := []) hS hap <| segF [(10, vi 0)] [] trivial fun ac hS => ?_
     refine ord_nil ?_
     refine wp_seq ?_
     refine St.ordBeginS [(0, 1), (1, 1), (2, 1), (3, 1), (4, 1), (5, 1), (6, 1), (7, 1), (9, 1), (10, 1), (8, 0), (11, 1), (12, 1), (13, 1), (15, 1), (16, 1), (14, 0), (17, 1), (18, 1), (19, 1), (20, 1)] [(g, .fn u (u + n) (strs (pgS m) u)), (wb, .cells [pt b 0, pt b 0, vi o_, vi z, sc g u n cp, vi rf, vi o_, vi z] 63), ((ν1 0), .cells [v8 qd, vi qa, vi qf, vi qn, vu qx, .string qs] 36), ((ν41 0), .cells [pt b 0, vi (o_ + qa), vi qn] 55), ((ν50 0), .cells [vi (o_ + qa), vi qn] 61)] [0, 1, 2, 3, 4] hS fun wd hS => ?_
     have hap := hS.mem.pairs (Hf := [(g, .fn u (u + n) (strs (pgS m) u)), (wb, .cells [pt b 0, pt b 0, vi o_, vi z, sc g u n cp, vi rf, vi o_, vi z] 63), ((ν1 0), .cells [v8 qd, vi qa, vi qf, vi qn, vu qx, .string qs] 36), ((ν41 0), .cells [pt b 0, vi (o_ + qa), vi qn] 55), ((ν50 0), .cells [vi (o_ + qa), vi qn] 61)]) (l := [0, 1, 2, 3, 4])
     refine St.ordF [0, 0, 0, 0, 1, 1, 1, 301, 1, 401] [0, 1, 2, 3, 4, 5, 6, 7, 9, 10] [0, 5, 6, 7, 9, 10] (rest := [(8, 0), (11, 1), (12, 1), (13, 1), (15, 1), (16, 1), (14, 0), (17, 1), (18, 1), (19, 1), (20, 1)]) hS hap <| segF [(94, vb false), (97, vb true), (98, .agg #[pt b 0, vi (o_ + qa), vi qn]), (101, vi (o_ + qa))] [.t true, .e (ν50 0), .t true, .t true, .e (ν41 0), .e (ν41 0), .e (ν41 0), .t false, .t false, .t false] trivial fun ac hS => ?_
     refine hS.ordCG 8 true 26 #[.agg #[pt b 0, vi (o_ + qa), vi qn]] (vw_At b (o_ + qa) qn _  ) ?_
     rintro _ wd ⟨rfl, hF⟩
     refine ⟨vi (o_ + qa), rfl, ?_⟩
     replace hS := (hS.to (hS.mem.keep0 hF)).put (d := 99) (v := vi (o_ + qa)) (by decide)
     clear hF
     refine hS.ordV (l := [0, 1, 2, 3, 4]) ?_
     refine St.ordF [fx 1 (vb false), 1, 301, 1, 401] [11, 12, 13, 15, 16] [0, 5, 6, 7, 9, 10, 94, 97] (rest := [(14, 0), (17, 1), (18, 1), (19, 1), (20, 1)]) hS hap <| segF [(103, vb false), (104, .agg #[pt b 0, vi (o_ + qa), vi qn]), (107, vi qn)] [.t false, .e (ν50 0), .t false, .t false, .e (ν41 0), .e (ν41 0), .e (ν41 0), .t true, .t true, .p ((vb (((o_ + qa) : Int) != (o_ + qa)) : Value) = vb false)] ⟨(congrArg Value.bool (bne_self_eq_false _)), trivial⟩ fun ac hS => ?_
     refine hS.ordCG 14 false 25 #[.agg #[pt b 0, vi (o_ + qa), vi qn]] (vw_Size b (o_ + qa) qn _  ) ?_
     rintro _ wd ⟨rfl, hF⟩
     refine ⟨vi qn, rfl, ?_⟩
     replace hS := (hS.to (hS.mem.keep0 hF)).put (d := 105) (v := vi qn) (by decide)
     clear hF
     refine hS.ordV (l := [0, 1, 2, 3, 4]) ?_
     refine St.ordF [fx 1 (vb false), 61, 71, 60] [17, 18, 19, 20] [0, 5, 6, 7, 9, 10] (rest := []) hS hap <| segF [(111, vb false)] [.t false, .t false, .t true, .t true, .t false, .t false, .p ((vb ((qn : Int) != qn) : Value) = vb false)] ⟨(congrArg Value.bool (bne_self_eq_false _)), trivial⟩ fun ac hS => ?_
     refine ord_nil ?_
     refine hS.condF ?_
     refine wp_skip ?_
     refine pop_then ?_
     refine hS.regS [0, 0, 0, 1, 401, 1, 70] [0, 5, 6, 7, 9] fun _ => seg [(118, vb (decide ((100 : Int) < qn)))] [(0, none), (1, none), (3, none), (4, none)] [.t true, .t true, .t true, .e (ν50 0), .t true] trivial fun ac wd hS => ?_
     refine hS.condC (decide ((100 : Int) < qn)) (fun hb5o hb5 => ?_) (fun hb5o hb5 => ?_)
     ·
      refine St.ordBegin [(0, 1), (1, 1), (2, 1), (3, 1), (4, 1), (5, 1), (6, 0), (7, 1), (8, 1), (9, 0)] [(g, .fn u (u + n) (strs (pgS m) u)), ((ν41 0), .cells [pt b 0, vi (o_ + qa), vi qn] 55), ((ν50 0), .cells [vi (o_ + qa), vi qn] 61)] [0, 2, 3] hS fun wd hS => ?_
      have hap := hS.mem.pairs (Hf := [(g, .fn u (u + n) (strs (pgS m) u)), ((ν41 0), .cells [pt b 0, vi (o_ + qa), vi qn] 55), ((ν50 0), .cells [vi (o_ + qa), vi qn] 61)]) (l := [0, 2, 3])
      refine St.ordF [0, 0, 100, 200, 0, 0] [0, 1, 2, 3, 4, 5] [5, 6] (rest := [(6, 0), (7, 1), (8, 1), (9, 0)]) hS hap <| segF [(120, pt wb 0), (121, .agg #[pt b 0, vi (o_ + qa), vi qn]), (122, .agg #[vi (o_ + qa), vi qn]), (124, pt wb 1)] [.e (ν50 0), .e (ν50 0), .e (ν41 0), .e (ν41 0), .e (ν41 0)] trivial fun ac hS => ?_
      refine St.ord1 6 [100] [5, 6, 120, 122] [0, 2, 3] hS rfl fun _ => seg [] [(0, none), (1, some (wb, .cells [pt b 0, pt b 0, vi (o_ + qa), vi qn, sc g u n cp, vi rf, vi o_, vi z] 63)), (2, none), (3, none)] [.e wb, .e wb, .e wb] trivial ⟨by as_aux_lemma => kernel_rfl, fun ac wd hS => ?_⟩
      refine St.ordF [0, 0] [7, 8] [5, 6, 122] (rest := [(9, 0)]) hS hap <| segF [(126, pt wb 6)] [] trivial fun ac hS => ?_
      refine St.ord1 9 [100] [5, 6] [0, 2, 3] hS rfl fun _ => seg [] [(0, none), (1, some (wb, .cells [pt b 0, pt b 0, vi (o_ + qa), vi qn, sc g u n cp, vi rf, vi (o_ + qa), vi qn] 63)), (2, none), (3, none)] [.e wb, .e wb] trivial ⟨by as_aux_lemma => kernel_rfl, fun ac wd hS => ?_⟩
      refine ord_nil ?_
      refine pop_block ?_
      refine pop_then ?_
      refine hS.regS [0, 0, 0, 0] [] fun _ => seg [(4, vb true)] [(0, none), (1, none)] [] trivial fun ac wd hS => ?_
      refine wp_ret ?_
      refine St.retC 0 hS (vb true) [] trivial fun hw => ?_
      refine ⟨m, (o_ + qa), qn, g, u, cp, F, retd rfl, ?_, (hw.res 0), (hw.wins 1 (show _ = some (wb, .cells [pt b 0, pt b 0, vi (o_ + qa), vi qn, sc g u n cp, vi rf, vi (o_ + qa), vi qn] 63) by as_aux_lemma => kernel_rfl)), (hw.get 1 wb (.cells [pt b 0, pt b 0, vi (o_ + qa), vi qn, sc g u n cp, vi rf, vi (o_ + qa), vi qn] 63)), (.inl rfl), (hw.get 0 g (.fn u (u + n) (strs (pgS m) u))), (fun q_ => hw.free (g, .fn u (u + n) (strs (pgS m) u)) (List.mem_of_getElem? (i := 0) (by as_aux_lemma => kernel_rfl)) (.inl q_)), hw.fr0⟩
      all_goals (first | rfl | exact ⟨rfl, ho⟩ | exact ⟨decM_cap _ _ _, ho⟩ | exact ⟨vptM_cap, ho⟩ | exact ⟨vfiM_cap, ho⟩ | exact ⟨vstM_cap, ho⟩ | exact ⟨vcpM_cap, ho⟩ | exact ⟨rfl, wi_z ho hpw⟩)
     ·
      refine wp_skip ?_
      refine pop_block ?_
      refine pop_then ?_
      refine hS.regS [0, 0, 0, 0] [] fun _ => seg [(4, vb true)] [(0, none), (1, none)] [] trivial fun ac wd hS => ?_
      refine wp_ret ?_
      refine St.retC 0 hS (vb true) [] trivial fun hw => ?_
      refine ⟨m, o_, z, g, u, cp, F, retd rfl, ?_, (hw.res 0), (hw.wins 1 (show _ = some (wb, .cells [pt b 0, pt b 0, vi o_, vi z, sc g u n cp, vi rf, vi o_, vi z] 63) by as_aux_lemma => kernel_rfl)), (hw.get 1 wb (.cells [pt b 0, pt b 0, vi o_, vi z, sc g u n cp, vi rf, vi o_, vi z] 63)), (.inl rfl), (hw.get 0 g (.fn u (u + n) (strs (pgS m) u))), (fun q_ => hw.free (g, .fn u (u + n) (strs (pgS m) u)) (List.mem_of_getElem? (i := 0) (by as_aux_lemma => kernel_rfl)) (.inl q_)), hw.fr0⟩
      all_goals (first | rfl | exact ⟨rfl, ho⟩ | exact ⟨decM_cap _ _ _, ho⟩ | exact ⟨vptM_cap, ho⟩ | exact ⟨vfiM_cap, ho⟩ | exact ⟨vstM_cap, ho⟩ | exact ⟨vcpM_cap, ho⟩ | exact ⟨rfl, wi_z ho hpw⟩)
 ·
  refine hS.regS [0, 0] [0, 3, 22] fun _ => seg [(127, vb (((qd % 10) : Int) == 1))] [(0, none), (1, none), (2, none)] [] trivial fun ac wd hS => ?_
  refine hS.condC (((qd % 10) : Int) == 1) (fun hb6o hb6 => ?_) (fun hb6o hb6 => ?_)
  ·
   refine St.ordBeginS [(0, 1), (1, 1), (2, 1), (3, 1), (4, 1), (5, 1), (6, 1), (7, 1), (8, 1), (9, 0), (10, 1)] [(g, .fn u (u + n) (strs (pgS m) u)), (wb, .cells [pt b 0, pt b 0, vi o_, vi z, sc g u n cp, vi rf, vi o_, vi z] 63), ((ν1 0), .cells [v8 qd, vi qa, vi qf, vi qn, vu qx, .string qs] 36)] [0, 1, 2] hS fun wd hS => ?_
   have hap := hS.mem.pairs (Hf := [(g, .fn u (u + n) (strs (pgS m) u)), (wb, .cells [pt b 0, pt b 0, vi o_, vi z, sc g u n cp, vi rf, vi o_, vi z] 63), ((ν1 0), .cells [v8 qd, vi qa, vi qf, vi qn, vu qx, .string qs] 36)]) (l := [0, 1, 2])
   refine St.ordF [0, 0, 0, 0, 100, 0, 200, 0, 200] [0, 1, 2, 3, 4, 5, 6, 7, 8] [0, 3] (rest := [(9, 0), (10, 1)]) hS hap <| segF [(133, pt b 0), (135, vi qa), (137, vi qn)] [.e (ν1 0), .e (ν1 0), .e wb] trivial fun ac hS => ?_
   refine hS.ordC 9 50 #[pt b 0, vi qa, vi qn] (ar_Decommit b F m qa qn _ (hS.mem.res 0) ) ?_
   rintro _ wd ⟨F7, rfl, hA, hF⟩
   refine ⟨vi (decE m qa qn), rfl, ?_⟩
   replace hS := (hS.to (hS.mem.stepA 0 rfl hA hF)).put (d := 138) (v := vi (decE m qa qn)) (by decide)
   clear hF
   refine hS.ordV (l := [0, 1, 2]) ?_
   refine St.ordF [0] [10] [0, 3] (rest := []) hS hap <| segF [(5, vi (decE m qa qn))] [] trivial fun ac hS => ?_
   refine ord_nil ?_
   refine St.ordBegin [(0, 1), (1, 1), (2, 1), (3, 1), (5, 1), (6, 1), (7, 1), (8, 1), (4, 0), (9, 0), (10, 1), (11, 1), (12, 1), (13, 1), (14, 1), (15, 0), (16, 1)] [(g, .fn u (u + n) (strs (pgS m) u)), ((ν1 0), .cells [v8 qd, vi qa, vi qf, vi qn, vu qx, .string qs] 36)] [0, 2] hS fun wd hS => ?_
   have hap := hS.mem.pairs (Hf := [(g, .fn u (u + n) (strs (pgS m) u)), ((ν1 0), .cells [v8 qd, vi qa, vi qf, vi qn, vu qx, .string qs] 36)]) (l := [0, 2])
   refine St.ordF [0, 0, 0, 0, 0, 100, 0, 100] [0, 1, 2, 3, 5, 6, 7, 8] [5] (rest := [(4, 0), (9, 0), (10, 1), (11, 1), (12, 1), (13, 1), (14, 1), (15, 0), (16, 1)]) hS hap <| segF [(140, pt wb 0), (143, pt wb 4), (146, vi qa), (148, vi qn)] [.e (ν1 0), .e (ν1 0)] trivial fun ac hS => ?_
   refine St.ord1 4 [100] [5, 140, 146, 148] [0, 2] hS rfl fun _ => seg [(144, .agg #[sc g u n cp, vi rf])] [(0, none), (1, none), (2, none)] [.e wb, .e wb] trivial ⟨by as_aux_lemma => kernel_rfl, fun ac wd hS => ?_⟩
   refine hS.ordC 9 51 #[.agg #[sc g u n cp, vi rf], vi qa, vi qn] (ref03_DecommitM g u n cp rf qa qn m _ (hS.mem.get 0 g (.fn u (u + n) (strs (pgS m) u))) (by first | assumption | omega | (simp_all; done) | (simp_all; omega)) (by first | assumption | omega | (simp_all; done) | (simp_all; omega))) ?_
   rintro _ wd ⟨g28, u29, cp210, rfl, hog0, hoh0, hF⟩
   have ho11 : g28 = g ∨ w.heap.size ≤ g28 := by rcases hog0 with hx | hx; rw [hx]; exact (.inl rfl); exact .inr (Nat.le_trans hS.mem.fr.size hx)
   refine ⟨.tuple #[.agg #[sc g28 u29 n cp210, vi rf], vi (decE m qa qn)], rfl, ?_⟩
   replace hS := (hS.to (hS.mem.outs hF [(g28, .fn u29 (u29 + n) (strs (pgS (decM m qa qn)) u29))] ⟨⟨rfl, hoh0, hog0.imp (fun e => ⟨0, .fn u (u + n) (strs (pgS m) u), by rw [e]; rfl, rfl⟩) id⟩, trivial⟩)).put (d := 149) (v := .tuple #[.agg #[sc g28 u29 n cp210, vi rf], vi (decE m qa qn)]) (by decide)
   clear hF
   refine hS.ordV (l := [0, 2]) ?_
   refine St.ordF [0, 0, 0, 0, 0] [10, 11, 12, 13, 14] [5] (rest := [(15, 0), (16, 1)]) hS hap <| segF [(150, .agg #[sc g28 u29 n cp210, vi rf]), (151, vi (decE m qa qn)), (153, pt wb 4)] [] trivial fun ac hS => ?_
   refine St.ord1 15 [100] [5, 151] [0, 2] hS rfl fun _ => seg [] [(0, none), (1, some (wb, .cells [pt b 0, pt b 0, vi o_, vi z, sc g28 u29 n cp210, vi rf, vi o_, vi z] 63)), (2, none), (3, none)] [.e wb, .e wb] trivial ⟨by as_aux_lemma => kernel_rfl, fun ac wd hS => ?_⟩
   refine St.ordF [0] [16] [5] (rest := []) hS hap <| segF [(6, vi (decE m qa qn))] [] trivial fun ac hS => ?_
   refine ord_nil ?_
   refine pop_block ?_
   refine pop_then ?_
   refine hS.regS [0, 0, fx 0 (vb true), 0] [] fun _ => seg [(4, vb true)] [(1, none), (3, none)] [.p ((vb (((decE m qa qn) : Int) == (decE m qa qn)) : Value) = vb true)] ⟨(congrArg Value.bool (beq_self_eq_true _)), trivial⟩ fun ac wd hS => ?_
   refine wp_ret ?_
   refine St.retC 0 hS (vb true) [] trivial fun hw => ?_
   refine ⟨(decM m qa qn), o_, z, g28, u29, cp210, F7, retd rfl, ?_, (hw.res 0), (hw.wins 0 (show _ = some (wb, .cells [pt b 0, pt b 0, vi o_, vi z, sc g28 u29 n cp210, vi rf, vi o_, vi z] 63) by as_aux_lemma => kernel_rfl)), (hw.get 0 wb (.cells [pt b 0, pt b 0, vi o_, vi z, sc g28 u29 n cp210, vi rf, vi o_, vi z] 63)), ho11, (hw.get 1 g28 (.fn u29 (u29 + n) (strs (pgS (decM m qa qn)) u29))), (fun q_ => hw.free (g28, .fn u29 (u29 + n) (strs (pgS (decM m qa qn)) u29)) (List.mem_of_getElem? (i := 1) (by as_aux_lemma => kernel_rfl)) (.inl q_)), hw.fr0⟩
   all_goals (first | rfl | exact ⟨rfl, ho⟩ | exact ⟨decM_cap _ _ _, ho⟩ | exact ⟨vptM_cap, ho⟩ | exact ⟨vfiM_cap, ho⟩ | exact ⟨vstM_cap, ho⟩ | exact ⟨vcpM_cap, ho⟩ | exact ⟨rfl, wi_z ho hpw⟩)
  ·
   refine hS.regS [0, 0] [0, 3, 22] fun _ => seg [(154, vb (((qd % 10) : Int) == 3))] [(0, none), (1, none), (2, none)] [] trivial fun ac wd hS => ?_
   refine hS.condC (((qd % 10) : Int) == 3) (fun hb12o hb12 => ?_) (fun hb12o hb12 => ?_)
   ·
    refine St.ordBeginS [(0, 1), (1, 1), (2, 1), (3, 1), (4, 1), (5, 1), (6, 1), (7, 1), (8, 0), (9, 1), (10, 1), (11, 1), (12, 1), (13, 1)] [(g, .fn u (u + n) (strs (pgS m) u)), (wb, .cells [pt b 0, pt b 0, vi o_, vi z, sc g u n cp, vi rf, vi o_, vi z] 63), ((ν1 0), .cells [v8 qd, vi qa, vi qf, vi qn, vu qx, .string qs] 36)] [0, 1, 2] hS fun wd hS => ?_
    have hap := hS.mem.pairs (Hf := [(g, .fn u (u + n) (strs (pgS m) u)), (wb, .cells [pt b 0, pt b 0, vi o_, vi z, sc g u n cp, vi rf, vi o_, vi z] 63), ((ν1 0), .cells [v8 qd, vi qa, vi qf, vi qn, vu qx, .string qs] 36)]) (l := [0, 1, 2])
    refine St.ordF [0, 0, 0, 100, 0, 200, 0, 200] [0, 1, 2, 3, 4, 5, 6, 7] [0, 3] (rest := [(8, 0), (9, 1), (10, 1), (11, 1), (12, 1), (13, 1)]) hS hap <| segF [(160, .agg #[pt b 0, vi o_, vi z]), (162, vi qa), (164, vi qn)] [.e (ν1 0), .e (ν1 0), .e wb, .e wb, .e wb] trivial fun ac hS => ?_
    refine hS.ordC 8 67 #[.agg #[pt b 0, vi o_, vi z], vi qa, vi qn] (vw_Load b F m o_ z qa qn _ (hS.mem.res 0) (by first | assumption | omega | (simp_all; done) | (simp_all; omega))) ?_
    rintro _ wd ⟨rfl, hF⟩
    refine ⟨.tuple #[vu (vldV m o_ z qa qn), vi (vldE m o_ z qa qn)], rfl, ?_⟩
    replace hS := (hS.to (hS.mem.keep0 hF)).put (d := 165) (v := .tuple #[vu (vldV m o_ z qa qn), vi (vldE m o_ z qa qn)]) (by decide)
    clear hF
    refine hS.ordV (l := [0, 1, 2]) ?_
    refine St.ordF [0, 0, 0, 0, 0] [9, 10, 11, 12, 13] [0, 3] (rest := []) hS hap <| segF [(11, vu (vldV m o_ z qa qn)), (12, vi (vldE m o_ z qa qn))] [] trivial fun ac hS => ?_
    refine ord_nil ?_
    refine St.ordBeginS [(0, 1), (1, 1), (2, 1), (3, 1), (4, 1), (5, 1), (6, 1), (7, 1), (8, 1), (9, 1), (10, 1), (11, 1), (12, 0), (13, 1), (14, 1), (15, 1), (16, 1), (17, 1)] [(g, .fn u (u + n) (strs (pgS m) u)), (wb, .cells [pt b 0, pt b 0, vi o_, vi z, sc g u n cp, vi rf, vi o_, vi z] 63), ((ν1 0), .cells [v8 qd, vi qa, vi qf, vi qn, vu qx, .string qs] 36)] [0, 1, 2] hS fun wd hS => ?_
    have hap := hS.mem.pairs (Hf := [(g, .fn u (u + n) (strs (pgS m) u)), (wb, .cells [pt b 0, pt b 0, vi o_, vi z, sc g u n cp, vi rf, vi o_, vi z] 63), ((ν1 0), .cells [v8 qd, vi qa, vi qf, vi qn, vu qx, .string qs] 36)]) (l := [0, 1, 2])
    refine St.ordF [0, 0, 0, 100, 0, 0, 0, 100, 0, 200, 0, 200] [0, 1, 2, 3, 4, 5, 6, 7, 8, 9, 10, 11] [11, 12] (rest := [(12, 0), (13, 1), (14, 1), (15, 1), (16, 1), (17, 1)]) hS hap <| segF [(172, .agg #[sc g u n cp, vi rf]), (176, .agg #[vi o_, vi z]), (178, vi qa), (180, vi qn)] [.e (ν1 0), .e (ν1 0), .e wb, .e wb, .e wb, .e wb] trivial fun ac hS => ?_
    refine hS.ordC 12 76 #[.agg #[sc g u n cp, vi rf], .agg #[vi o_, vi z], vi qa, vi qn] (ref04_Load g u n cp rf o_ z qa qn m _ (hS.mem.get 0 g (.fn u (u + n) (strs (pgS m) u))) (by first | assumption | omega | (simp_all; done) | (simp_all; omega)) (by first | assumption | omega | (simp_all; done) | (simp_all; omega)) (by first | assumption | omega | (simp_all; done) | (simp_all; omega))) ?_
    rintro _ wd ⟨rfl, hF⟩
    refine ⟨.tuple #[vu (vldV m o_ z qa qn), vi (vldE m o_ z qa qn)], rfl, ?_⟩
    replace hS := (hS.to (hS.mem.keep0 hF)).put (d := 181) (v := .tuple #[vu (vldV m o_ z qa qn), vi (vldE m o_ z qa qn)]) (by decide)
    clear hF
    refine hS.ordV (l := [0, 1, 2]) ?_
    refine St.ordF [0, 0, 0, 0, 0] [13, 14, 15, 16, 17] [11, 12] (rest := []) hS hap <| segF [(13, vu (vldV m o_ z qa qn)), (14, vi (vldE m o_ z qa qn))] [] trivial fun ac hS => ?_
    refine ord_nil ?_
    refine hS.regS [0, 0, fx 0 (vb true), 0, 1, 1, fx 1 (vb true), 70, 0] [] fun _ => seg [(4, vb true)] [(0, none), (1, none)] [.t true, .t true, .p ((vb (((vldE m o_ z qa qn) : Int) == (vldE m o_ z qa qn)) : Value) = vb true), .t true, .t true, .p ((vb (((vldV m o_ z qa qn) : Int) == (vldV m o_ z qa qn)) : Value) = vb true)] ⟨(congrArg Value.bool (beq_self_eq_true _)), (congrArg Value.bool (beq_self_eq_true _)), trivial⟩ fun ac wd hS => ?_
    refine wp_ret ?_
    refine pop_block_ret ?_
    refine pop_then_ret ?_
    refine St.retC 0 hS (vb true) [] trivial fun hw => ?_
    refine ⟨m, o_, z, g, u, cp, F, retd rfl, ?_, (hw.res 0), (hw.wins 1 (show _ = some (wb, .cells [pt b 0, pt b 0, vi o_, vi z, sc g u n cp, vi rf, vi o_, vi z] 63) by as_aux_lemma => kernel_rfl)), (hw.get 1 wb (.cells [pt b 0, pt b 0, vi o_, vi z, sc g u n cp, vi rf, vi o_, vi z] 63)), (.inl rfl), (hw.get 0 g (.fn u (u + n) (strs (pgS m) u))), (fun q_ => hw.free (g, .fn u (u + n) (strs (pgS m) u)) (List.mem_of_getElem? (i := 0) (by as_aux_lemma => kernel_rfl)) (.inl q_)), hw.fr0⟩
    all_goals (first | rfl | exact ⟨rfl, ho⟩ | exact ⟨decM_cap _ _ _, ho⟩ | exact ⟨vptM_cap, ho⟩ | exact ⟨vfiM_cap, ho⟩ | exact ⟨vstM_cap, ho⟩ | exact ⟨vcpM_cap, ho⟩ | exact ⟨rfl, wi_z ho hpw⟩)
   ·
    refine hS.regS [0, 0] [0, 3, 22] fun _ => seg [(192, vb (((qd % 10) : Int) == 4))] [(0, none), (1, none), (2, none)] [] trivial fun ac wd hS => ?_
    refine hS.condC (((qd % 10) : Int) == 4) (fun hb13o hb13 => ?_) (fun hb13o hb13 => ?_)
    ·
     refine St.ordBeginS [(0, 1), (1, 1), (2, 1), (3, 1), (4, 1), (5, 1), (6, 1), (7, 1), (8, 1), (9, 1), (10, 0), (11, 1)] [(g, .fn u (u + n) (strs (pgS m) u)), (wb, .cells [pt b 0, pt b 0, vi o_, vi z, sc g u n cp, vi rf, vi o_, vi z] 63), ((ν1 0), .cells [v8 qd, vi qa, vi qf, vi qn, vu qx, .string qs] 36)] [0, 1, 2] hS fun wd hS => ?_
     have hap := hS.mem.pairs (Hf := [(g, .fn u (u + n) (strs (pgS m) u)), (wb, .cells [pt b 0, pt b 0, vi o_, vi z, sc g u n cp, vi rf, vi o_, vi z] 63), ((ν1 0), .cells [v8 qd, vi qa, vi qf, vi qn, vu qx, .string qs] 36)]) (l := [0, 1, 2])
     refine St.ordF [0, 0, 0, 100, 0, 200, 0, 200, 0, 200] [0, 1, 2, 3, 4, 5, 6, 7, 8, 9] [0, 3] (rest := [(10, 0), (11, 1)]) hS hap <| segF [(197, .agg #[pt b 0, vi o_, vi z]), (199, vi qa), (201, vi qn), (203, vu qx)] [.e (ν1 0), .e (ν1 0), .e (ν1 0), .e wb, .e wb, .e wb] trivial fun ac hS => ?_
     refine hS.ordC 10 66 #[.agg #[pt b 0, vi o_, vi z], vi qa, vi qn, vu qx] (vw_Store b F m o_ z qa qn qx _ (hS.mem.res 0) (by first | assumption | omega | (simp_all; done) | (simp_all; omega))) ?_
     rintro _ wd ⟨F14, rfl, hA, hF⟩
     refine ⟨vi (vstE m o_ z qa qn), rfl, ?_⟩
     replace hS := (hS.to (hS.mem.stepA 0 rfl hA hF)).put (d := 204) (v := vi (vstE m o_ z qa qn)) (by decide)
     clear hF
     refine hS.ordV (l := [0, 1, 2]) ?_
     refine St.ordF [0] [11] [0, 3] (rest := []) hS hap <| segF [(5, vi (vstE m o_ z qa qn))] [] trivial fun ac hS => ?_
     refine ord_nil ?_
     refine St.ordBeginT [(0, 1), (1, 1), (2, 1), (3, 1), (5, 1), (6, 1), (7, 1), (9, 1), (10, 1), (11, 1), (12, 1), (13, 1), (14, 1), (4, 0), (8, 0), (15, 0), (16, 1), (17, 1), (18, 1), (19, 1), (20, 1), (21, 0), (22, 1)] (.two [(0, 1), (1, 1), (2, 1), (3, 1), (5, 1), (6, 1), (7, 1), (9, 1), (10, 1), (11, 1), (12, 1), (13, 1), (14, 1)] 4 (.lin [(8, 0), (15, 0), (16, 1), (17, 1), (18, 1), (19, 1), (20, 1), (21, 0), (22, 1)]) 8 (.lin [(4, 0), (15, 0), (16, 1), (17, 1), (18, 1), (19, 1), (20, 1), (21, 0), (22, 1)])) [(g, .fn u (u + n) (strs (pgS m) u)), ((ν1 0), .cells [v8 qd, vi qa, vi qf, vi qn, vu qx, .string qs] 36)] [0, 2] hS fun wd hS => ?_
     have hap := hS.mem.pairs (Hf := [(g, .fn u (u + n) (strs (pgS m) u)), ((ν1 0), .cells [v8 qd, vi qa, vi qf, vi qn, vu qx, .string qs] 36)]) (l := [0, 2])
     refine wpT_two ?_
     refine St.ordF [0, 0, 0, 0, 0, 0, 0, 0, 100, 0, 100, 0, 100] [0, 1, 2, 3, 5, 6, 7, 9, 10, 11, 12, 13, 14] [5] (rest := []) hS hap <| segF [(206, pt wb 0), (209, pt wb 4), (213, pt wb 6), (216, vi qa), (218, vi qn), (220, vu qx)] [.e (ν1 0), .e (ν1 0), .e (ν1 0)] trivial fun ac hS => ?_
     refine ord_nil ?_
     refine ⟨?_, ?_⟩
     ·
      refine St.ord1 4 [100] [5, 206, 213, 216, 218, 220] [0, 2] hS rfl fun _ => seg [(210, .agg #[sc g u n cp, vi rf])] [(0, none), (1, none), (2, none)] [.e wb, .e wb] trivial ⟨by as_aux_lemma => kernel_rfl, fun ac wd hS => ?_⟩
      refine ord_nil ?_
      refine wpT_lin ?_
      refine St.ord1 8 [100] [5, 206, 210, 216, 218, 220] [0, 2] hS rfl fun _ => seg [(214, .agg #[vi o_, vi z])] [(0, none), (1, none), (2, none)] [.e wb, .e wb] trivial ⟨by as_aux_lemma => kernel_rfl, fun ac wd hS => ?_⟩
      refine hS.ordC 15 77 #[.agg #[sc g u n cp, vi rf], .agg #[vi o_, vi z], vi qa, vi qn, vu qx] (ref04_Store g u n cp rf o_ z qa qn qx m _ (hS.mem.get 0 g (.fn u (u + n) (strs (pgS m) u))) (by first | assumption | omega | (simp_all; done) | (simp_all; omega)) (by first | assumption | omega | (simp_all; done) | (simp_all; omega)) (by first | assumption | omega | (simp_all; done) | (simp_all; omega)) (by first | assumption | omega | (simp_all; done) | (simp_all; omega))) ?_
      rintro _ wd ⟨g215, u216, cp217, rfl, hog0, hoh0, hF⟩
      have ho18 : g215 = g ∨ w.heap.size ≤ g215 := by rcases hog0 with hx | hx; rw [hx]; exact (.inl rfl); exact .inr (Nat.le_trans hS.mem.fr.size hx)
      refine ⟨.tuple #[.agg #[sc g215 u216 n cp217, vi rf], vi (vstE m o_ z qa qn)], rfl, ?_⟩
      replace hS := (hS.to (hS.mem.outs hF [(g215, .fn u216 (u216 + n) (strs (pgS (vstM m o_ z qa qn qx)) u216))] ⟨⟨rfl, hoh0, hog0.imp (fun e => ⟨0, .fn u (u + n) (strs (pgS m) u), by rw [e]; rfl, rfl⟩) id⟩, trivial⟩)).put (d := 221) (v := .tuple #[.agg #[sc g215 u216 n cp217, vi rf], vi (vstE m o_ z qa qn)]) (by decide)
      clear hF
      refine hS.ordV (l := [0, 2]) ?_
      refine St.ordF [0, 0, 0, 0, 0] [16, 17, 18, 19, 20] [5] (rest := [(21, 0), (22, 1)]) hS hap <| segF [(222, .agg #[sc g215 u216 n cp217, vi rf]), (223, vi (vstE m o_ z qa qn)), (225, pt wb 4)] [] trivial fun ac hS => ?_
      refine St.ord1 21 [100] [5, 223] [0, 2] hS rfl fun _ => seg [] [(0, none), (1, some (wb, .cells [pt b 0, pt b 0, vi o_, vi z, sc g215 u216 n cp217, vi rf, vi o_, vi z] 63)), (2, none), (3, none)] [.e wb, .e wb] trivial ⟨by as_aux_lemma => kernel_rfl, fun ac wd hS => ?_⟩
      refine St.ordF [0] [22] [5] (rest := []) hS hap <| segF [(6, vi (vstE m o_ z qa qn))] [] trivial fun ac hS => ?_
      refine ord_nil ?_
      refine pop_block ?_
      refine pop_then ?_
      refine hS.regS [0, 0, fx 0 (vb true), 0] [] fun _ => seg [(4, vb true)] [(1, none), (3, none)] [.p ((vb (((vstE m o_ z qa qn) : Int) == (vstE m o_ z qa qn)) : Value) = vb true)] ⟨(congrArg Value.bool (beq_self_eq_true _)), trivial⟩ fun ac wd hS => ?_
      refine wp_ret ?_
      refine St.retC 0 hS (vb true) [] trivial fun hw => ?_
      refine ⟨(vstM m o_ z qa qn qx), o_, z, g215, u216, cp217, F14, retd rfl, ?_, (hw.res 0), (hw.wins 0 (show _ = some (wb, .cells [pt b 0, pt b 0, vi o_, vi z, sc g215 u216 n cp217, vi rf, vi o_, vi z] 63) by as_aux_lemma => kernel_rfl)), (hw.get 0 wb (.cells [pt b 0, pt b 0, vi o_, vi z, sc g215 u216 n cp217, vi rf, vi o_, vi z] 63)), ho18, (hw.get 1 g215 (.fn u216 (u216 + n) (strs (pgS (vstM m o_ z qa qn qx)) u216))), (fun q_ => hw.free (g215, .fn u216 (u216 + n) (strs (pgS (vstM m o_ z qa qn qx)) u216)) (List.mem_of_getElem? (i := 1) (by as_aux_lemma => kernel_rfl)) (.inl q_)), hw.fr0⟩
      all_goals (first | rfl | exact ⟨rfl, ho⟩ | exact ⟨decM_cap _ _ _, ho⟩ | exact ⟨vptM_cap, ho⟩ | exact ⟨vfiM_cap, ho⟩ | exact ⟨vstM_cap, ho⟩ | exact ⟨vcpM_cap, ho⟩ | exact ⟨rfl, wi_z ho hpw⟩)
     ·
      refine St.ord1 8 [100] [5, 206, 209, 216, 218, 220] [0, 2] hS rfl fun _ => seg [(214, .agg #[vi o_, vi z])] [(0, none), (1, none), (2, none)] [.e wb, .e wb] trivial ⟨by as_aux_lemma => kernel_rfl, fun ac wd hS => ?_⟩
      refine ord_nil ?_
      refine wpT_lin ?_
      refine St.ord1 4 [100] [5, 206, 214, 216, 218, 220] [0, 2] hS rfl fun _ => seg [(210, .agg #[sc g u n cp, vi rf])] [(0, none), (1, none), (2, none)] [.e wb, .e wb] trivial ⟨by as_aux_lemma => kernel_rfl, fun ac wd hS => ?_⟩
      refine hS.ordC 15 77 #[.agg #[sc g u n cp, vi rf], .agg #[vi o_, vi z], vi qa, vi qn, vu qx] (ref04_Store g u n cp rf o_ z qa qn qx m _ (hS.mem.get 0 g (.fn u (u + n) (strs (pgS m) u))) (by first | assumption | omega | (simp_all; done) | (simp_all; omega)) (by first | assumption | omega | (simp_all; done) | (simp_all; omega)) (by first | assumption | omega | (simp_all; done) | (simp_all; omega)) (by first | assumption | omega | (simp_all; done) | (simp_all; omega))) ?_
      rintro _ wd ⟨g219, u220, cp221, rfl, hog0, hoh0, hF⟩
      have ho22 : g219 = g ∨ w.heap.size ≤ g219 := by rcases hog0 with hx | hx; rw [hx]; exact (.inl rfl); exact .inr (Nat.le_trans hS.mem.fr.size hx)
      refine ⟨.tuple #[.agg #[sc g219 u220 n cp221, vi rf], vi (vstE m o_ z qa qn)], rfl, ?_⟩
      replace hS := (hS.to (hS.mem.outs hF [(g219, .fn u220 (u220 + n) (strs (pgS (vstM m o_ z qa qn qx)) u220))] ⟨⟨rfl, hoh0, hog0.imp (fun e => ⟨0, .fn u (u + n) (strs (pgS m) u), by rw [e]; rfl, rfl⟩) id⟩, trivial⟩)).put (d := 221) (v := .tuple #[.agg #[sc g219 u220 n cp221, vi rf], vi (vstE m o_ z qa qn)]) (by decide)
      clear hF
      refine hS.ordV (l := [0, 2]) ?_
      refine St.ordF [0, 0, 0, 0, 0] [16, 17, 18, 19, 20] [5] (rest := [(21, 0), (22, 1)]) hS hap <| segF [(222, .agg #[sc g219 u220 n cp221, vi rf]), (223, vi (vstE m o_ z qa qn)), (225, pt wb 4)] [] trivial fun ac hS => ?_
      refine St.ord1 21 [100] [5, 223] [0, 2] hS rfl fun _ => seg [] [(0, none), (1, some (wb, .cells [pt b 0, pt b 0, vi o_, vi z, sc g219 u220 n cp221, vi rf, vi o_, vi z] 63)), (2, none), (3, none)] [.e wb, .e wb] trivial ⟨by as_aux_lemma => kernel_rfl, fun ac wd hS => ?_⟩
      refine St.ordF [0] [22] [5] (rest := []) hS hap <| segF [(6, vi (vstE m o_ z qa qn))] [] trivial fun ac hS => ?_
      refine ord_nil ?_
      refine pop_block ?_
      refine pop_then ?_
      refine hS.regS [0, 0, fx 0 (vb true), 0] [] fun _ => seg [(4, vb true)] [(1, none), (3, none)] [.p ((vb (((vstE m o_ z qa qn) : Int) == (vstE m o_ z qa qn)) : Value) = vb true)] ⟨(congrArg Value.bool (beq_self_eq_true _)), trivial⟩ fun ac wd hS => ?_
      refine wp_ret ?_
      refine St.retC 0 hS (vb true) [] trivial fun hw => ?_
      refine ⟨(vstM m o_ z qa qn qx), o_, z, g219, u220, cp221, F14, retd rfl, ?_, (hw.res 0), (hw.wins 0 (show _ = some (wb, .cells [pt b 0, pt b 0, vi o_, vi z, sc g219 u220 n cp221, vi rf, vi o_, vi z] 63) by as_aux_lemma => kernel_rfl)), (hw.get 0 wb (.cells [pt b 0, pt b 0, vi o_, vi z, sc g219 u220 n cp221, vi rf, vi o_, vi z] 63)), ho22, (hw.get 1 g219 (.fn u220 (u220 + n) (strs (pgS (vstM m o_ z qa qn qx)) u220))), (fun q_ => hw.free (g219, .fn u220 (u220 + n) (strs (pgS (vstM m o_ z qa qn qx)) u220)) (List.mem_of_getElem? (i := 1) (by as_aux_lemma => kernel_rfl)) (.inl q_)), hw.fr0⟩
      all_goals (first | rfl | exact ⟨rfl, ho⟩ | exact ⟨decM_cap _ _ _, ho⟩ | exact ⟨vptM_cap, ho⟩ | exact ⟨vfiM_cap, ho⟩ | exact ⟨vstM_cap, ho⟩ | exact ⟨vcpM_cap, ho⟩ | exact ⟨rfl, wi_z ho hpw⟩)
    ·
     refine hS.regS [0, 0] [0, 3, 22] fun _ => seg [(226, vb (((qd % 10) : Int) == 5))] [(0, none), (1, none), (2, none)] [] trivial fun ac wd hS => ?_
     refine hS.condC (((qd % 10) : Int) == 5) (fun hb23o hb23 => ?_) (fun hb23o hb23 => ?_)
     ·
      refine St.ordBeginS [(0, 1), (1, 1), (2, 1), (3, 1), (4, 1), (5, 1), (6, 1), (7, 1), (8, 0), (9, 1), (10, 1), (11, 1), (12, 1), (13, 1)] [(g, .fn u (u + n) (strs (pgS m) u)), (wb, .cells [pt b 0, pt b 0, vi o_, vi z, sc g u n cp, vi rf, vi o_, vi z] 63), ((ν1 0), .cells [v8 qd, vi qa, vi qf, vi qn, vu qx, .string qs] 36)] [0, 1, 2] hS fun wd hS => ?_
      have hap := hS.mem.pairs (Hf := [(g, .fn u (u + n) (strs (pgS m) u)), (wb, .cells [pt b 0, pt b 0, vi o_, vi z, sc g u n cp, vi rf, vi o_, vi z] 63), ((ν1 0), .cells [v8 qd, vi qa, vi qf, vi qn, vu qx, .string qs] 36)]) (l := [0, 1, 2])
      refine St.ordF [0, 0, 0, 100, 0, 200, 0, 200] [0, 1, 2, 3, 4, 5, 6, 7] [0, 3] (rest := [(8, 0), (9, 1), (10, 1), (11, 1), (12, 1), (13, 1)]) hS hap <| segF [(232, .agg #[pt b 0, vi o_, vi z]), (234, vi qa), (236, vi qn)] [.e (ν1 0), .e (ν1 0), .e wb, .e wb, .e wb] trivial fun ac hS => ?_
      refine hS.ordC 8 78 #[.agg #[pt b 0, vi o_, vi z], vi qa, vi qn] (vw_Bytes b F m o_ z qa qn _ (hS.mem.res 0) (by first | assumption | omega | (simp_all; done) | (simp_all; omega))) ?_
      rintro _ wd ⟨rfl, hF⟩
      refine ⟨.tuple #[.string (vbyS m o_ z qa qn), vi (vbyE m o_ z qa qn)], rfl, ?_⟩
      replace hS := (hS.to (hS.mem.keep0 hF)).put (d := 237) (v := .tuple #[.string (vbyS m o_ z qa qn), vi (vbyE m o_ z qa qn)]) (by decide)
      clear hF
      refine hS.ordV (l := [0, 1, 2]) ?_
      refine St.ordF [0, 0, 0, 0, 0] [9, 10, 11, 12, 13] [0, 3] (rest := []) hS hap <| segF [(15, .string (vbyS m o_ z qa qn)), (16, vi (vbyE m o_ z qa qn))] [] trivial fun ac hS => ?_
      refine ord_nil ?_
      refine St.ordBeginS [(0, 1), (1, 1), (2, 1), (3, 1), (4, 1), (5, 1), (6, 1), (7, 1), (8, 1), (9, 1), (10, 1), (11, 1), (12, 0), (13, 1), (14, 1), (15, 1), (16, 1), (17, 1)] [(g, .fn u (u + n) (strs (pgS m) u)), (wb, .cells [pt b 0, pt b 0, vi o_, vi z, sc g u n cp, vi rf, vi o_, vi z] 63), ((ν1 0), .cells [v8 qd, vi qa, vi qf, vi qn, vu qx, .string qs] 36)] [0, 1, 2] hS fun wd hS => ?_
      have hap := hS.mem.pairs (Hf := [(g, .fn u (u + n) (strs (pgS m) u)), (wb, .cells [pt b 0, pt b 0, vi o_, vi z, sc g u n cp, vi rf, vi o_, vi z] 63), ((ν1 0), .cells [v8 qd, vi qa, vi qf, vi qn, vu qx, .string qs] 36)]) (l := [0, 1, 2])
      refine St.ordF [0, 0, 0, 100, 0, 0, 0, 100, 0, 200, 0, 200] [0, 1, 2, 3, 4, 5, 6, 7, 8, 9, 10, 11] [15, 16] (rest := [(12, 0), (13, 1), (14, 1), (15, 1), (16, 1), (17, 1)]) hS hap <| segF [(244, .agg #[sc g u n cp, vi rf]), (248, .agg #[vi o_, vi z]), (250, vi qa), (252, vi qn)] [.e (ν1 0), .e (ν1 0), .e wb, .e wb, .e wb, .e wb] trivial fun ac hS => ?_
      refine hS.ordC 12 79 #[.agg #[sc g u n cp, vi rf], .agg #[vi o_, vi z], vi qa, vi qn] (ref04_Bytes g u n cp rf o_ z qa qn m _ (hS.mem.get 0 g (.fn u (u + n) (strs (pgS m) u))) (by first | assumption | omega | (simp_all; done) | (simp_all; omega)) (by first | assumption | omega | (simp_all; done) | (simp_all; omega)) (by first | assumption | omega | (simp_all; done) | (simp_all; omega))) ?_
      rintro _ wd ⟨rfl, hF⟩
      refine ⟨.tuple #[.string (vbyS m o_ z qa qn), vi (vbyE m o_ z qa qn)], rfl, ?_⟩
      replace hS := (hS.to (hS.mem.keep0 hF)).put (d := 253) (v := .tuple #[.string (vbyS m o_ z qa qn), vi (vbyE m o_ z qa qn)]) (by decide)
      clear hF
      refine hS.ordV (l := [0, 1, 2]) ?_
      refine St.ordF [0, 0, 0, 0, 0] [13, 14, 15, 16, 17] [15, 16] (rest := []) hS hap <| segF [(17, .string (vbyS m o_ z qa qn)), (18, vi (vbyE m o_ z qa qn))] [] trivial fun ac hS => ?_
      refine ord_nil ?_
      refine hS.regS [0, 0, fx 0 (vb true), 0, 1, 1, fx 1 (vb true), 70, 0] [] fun _ => seg [(4, vb true)] [(0, none), (1, none)] [.t true, .t true, .p ((vb (((vbyE m o_ z qa qn) : Int) == (vbyE m o_ z qa qn)) : Value) = vb true), .t true, .t true, .p ((vb (ByteArray.toList (vbyS m o_ z qa qn) == ByteArray.toList (vbyS m o_ z qa qn)) : Value) = vb true)] ⟨(congrArg Value.bool (beq_self_eq_true _)), (congrArg Value.bool (by simp)), trivial⟩ fun ac wd hS => ?_
      refine wp_ret ?_
      refine pop_block_ret ?_
      refine pop_then_ret ?_
      refine St.retC 0 hS (vb true) [] trivial fun hw => ?_
      refine ⟨m, o_, z, g, u, cp, F, retd rfl, ?_, (hw.res 0), (hw.wins 1 (show _ = some (wb, .cells [pt b 0, pt b 0, vi o_, vi z, sc g u n cp, vi rf, vi o_, vi z] 63) by as_aux_lemma => kernel_rfl)), (hw.get 1 wb (.cells [pt b 0, pt b 0, vi o_, vi z, sc g u n cp, vi rf, vi o_, vi z] 63)), (.inl rfl), (hw.get 0 g (.fn u (u + n) (strs (pgS m) u))), (fun q_ => hw.free (g, .fn u (u + n) (strs (pgS m) u)) (List.mem_of_getElem? (i := 0) (by as_aux_lemma => kernel_rfl)) (.inl q_)), hw.fr0⟩
      all_goals (first | rfl | exact ⟨rfl, ho⟩ | exact ⟨decM_cap _ _ _, ho⟩ | exact ⟨vptM_cap, ho⟩ | exact ⟨vfiM_cap, ho⟩ | exact ⟨vstM_cap, ho⟩ | exact ⟨vcpM_cap, ho⟩ | exact ⟨rfl, wi_z ho hpw⟩)
     ·
      refine hS.regS [0, 0] [0, 3, 22] fun _ => seg [(264, vb (((qd % 10) : Int) == 6))] [(0, none), (1, none), (2, none)] [] trivial fun ac wd hS => ?_
      refine hS.condC (((qd % 10) : Int) == 6) (fun hb24o hb24 => ?_) (fun hb24o hb24 => ?_)
      ·
       refine St.ordBeginS [(0, 1), (1, 1), (2, 1), (3, 1), (4, 1), (5, 1), (6, 1), (7, 1), (8, 0), (9, 1)] [(g, .fn u (u + n) (strs (pgS m) u)), (wb, .cells [pt b 0, pt b 0, vi o_, vi z, sc g u n cp, vi rf, vi o_, vi z] 63), ((ν1 0), .cells [v8 qd, vi qa, vi qf, vi qn, vu qx, .string qs] 36)] [0, 1, 2] hS fun wd hS => ?_
       have hap := hS.mem.pairs (Hf := [(g, .fn u (u + n) (strs (pgS m) u)), (wb, .cells [pt b 0, pt b 0, vi o_, vi z, sc g u n cp, vi rf, vi o_, vi z] 63), ((ν1 0), .cells [v8 qd, vi qa, vi qf, vi qn, vu qx, .string qs] 36)]) (l := [0, 1, 2])
       refine St.ordF [0, 0, 0, 100, 0, 200, 0, 200] [0, 1, 2, 3, 4, 5, 6, 7] [0, 3] (rest := [(8, 0), (9, 1)]) hS hap <| segF [(269, .agg #[pt b 0, vi o_, vi z]), (271, vi qa), (273, .string qs)] [.e (ν1 0), .e (ν1 0), .e wb, .e wb, .e wb] trivial fun ac hS => ?_
       refine hS.ordC 8 80 #[.agg #[pt b 0, vi o_, vi z], vi qa, .string qs] (vw_Put b F m o_ z qa qs _ (hS.mem.res 0) (by first | assumption | omega | (simp_all; done) | (simp_all; omega))) ?_
       rintro _ wd ⟨F25, rfl, hA, hF⟩
       refine ⟨vi (vptE m o_ z qa qs), rfl, ?_⟩
       replace hS := (hS.to (hS.mem.stepA 0 rfl hA hF)).put (d := 274) (v := vi (vptE m o_ z qa qs)) (by decide)
       clear hF
       refine hS.ordV (l := [0, 1, 2]) ?_
       refine St.ordF [0] [9] [0, 3] (rest := []) hS hap <| segF [(5, vi (vptE m o_ z qa qs))] [] trivial fun ac hS => ?_
       refine ord_nil ?_
       refine St.ordBeginT [(0, 1), (1, 1), (2, 1), (3, 1), (5, 1), (6, 1), (7, 1), (9, 1), (10, 1), (11, 1), (12, 1), (4, 0), (8, 0), (13, 0), (14, 1), (15, 1), (16, 1), (17, 1), (18, 1), (19, 0), (20, 1)] (.two [(0, 1), (1, 1), (2, 1), (3, 1), (5, 1), (6, 1), (7, 1), (9, 1), (10, 1), (11, 1), (12, 1)] 4 (.lin [(8, 0), (13, 0), (14, 1), (15, 1), (16, 1), (17, 1), (18, 1), (19, 0), (20, 1)]) 8 (.lin [(4, 0), (13, 0), (14, 1), (15, 1), (16, 1), (17, 1), (18, 1), (19, 0), (20, 1)])) [(g, .fn u (u + n) (strs (pgS m) u)), ((ν1 0), .cells [v8 qd, vi qa, vi qf, vi qn, vu qx, .string qs] 36)] [0, 2] hS fun wd hS => ?_
       have hap := hS.mem.pairs (Hf := [(g, .fn u (u + n) (strs (pgS m) u)), ((ν1 0), .cells [v8 qd, vi qa, vi qf, vi qn, vu qx, .string qs] 36)]) (l := [0, 2])
       refine wpT_two ?_
       refine St.ordF [0, 0, 0, 0, 0, 0, 0, 0, 100, 0, 100] [0, 1, 2, 3, 5, 6, 7, 9, 10, 11, 12] [5] (rest := []) hS hap <| segF [(276, pt wb 0), (279, pt wb 4), (283, pt wb 6), (286, vi qa), (288, .string qs)] [.e (ν1 0), .e (ν1 0)] trivial fun ac hS => ?_
       refine ord_nil ?_
       refine ⟨?_, ?_⟩
       ·
        refine St.ord1 4 [100] [5, 276, 283, 286, 288] [0, 2] hS rfl fun _ => seg [(280, .agg #[sc g u n cp, vi rf])] [(0, none), (1, none), (2, none)] [.e wb, .e wb] trivial ⟨by as_aux_lemma => kernel_rfl, fun ac wd hS => ?_⟩
        refine ord_nil ?_
        refine wpT_lin ?_
        refine St.ord1 8 [100] [5, 276, 280, 286, 288] [0, 2] hS rfl fun _ => seg [(284, .agg #[vi o_, vi z])] [(0, none), (1, none), (2, none)] [.e wb, .e wb] trivial ⟨by as_aux_lemma => kernel_rfl, fun ac wd hS => ?_⟩
        refine hS.ordC 13 81 #[.agg #[sc g u n cp, vi rf], .agg #[vi o_, vi z], vi qa, .string qs] (ref04_Put g u n cp rf o_ z qa qs m _ (hS.mem.get 0 g (.fn u (u + n) (strs (pgS m) u))) (by first | assumption | omega | (simp_all; done) | (simp_all; omega)) (by first | assumption | omega | (simp_all; done) | (simp_all; omega)) (by first | assumption | omega | (simp_all; done) | (simp_all; omega))) ?_
        rintro _ wd ⟨g226, u227, cp228, rfl, hog0, hoh0, hF⟩
        have ho29 : g226 = g ∨ w.heap.size ≤ g226 := by rcases hog0 with hx | hx; rw [hx]; exact (.inl rfl); exact .inr (Nat.le_trans hS.mem.fr.size hx)
        refine ⟨.tuple #[.agg #[sc g226 u227 n cp228, vi rf], vi (vptE m o_ z qa qs)], rfl, ?_⟩
        replace hS := (hS.to (hS.mem.outs hF [(g226, .fn u227 (u227 + n) (strs (pgS (vptM m o_ z qa qs)) u227))] ⟨⟨rfl, hoh0, hog0.imp (fun e => ⟨0, .fn u (u + n) (strs (pgS m) u), by rw [e]; rfl, rfl⟩) id⟩, trivial⟩)).put (d := 289) (v := .tuple #[.agg #[sc g226 u227 n cp228, vi rf], vi (vptE m o_ z qa qs)]) (by decide)
        clear hF
        refine hS.ordV (l := [0, 2]) ?_
        refine St.ordF [0, 0, 0, 0, 0] [14, 15, 16, 17, 18] [5] (rest := [(19, 0), (20, 1)]) hS hap <| segF [(290, .agg #[sc g226 u227 n cp228, vi rf]), (291, vi (vptE m o_ z qa qs)), (293, pt wb 4)] [] trivial fun ac hS => ?_
        refine St.ord1 19 [100] [5, 291] [0, 2] hS rfl fun _ => seg [] [(0, none), (1, some (wb, .cells [pt b 0, pt b 0, vi o_, vi z, sc g226 u227 n cp228, vi rf, vi o_, vi z] 63)), (2, none), (3, none)] [.e wb, .e wb] trivial ⟨by as_aux_lemma => kernel_rfl, fun ac wd hS => ?_⟩
        refine St.ordF [0] [20] [5] (rest := []) hS hap <| segF [(6, vi (vptE m o_ z qa qs))] [] trivial fun ac hS => ?_
        refine ord_nil ?_
        refine pop_block ?_
        refine pop_then ?_
        refine hS.regS [0, 0, fx 0 (vb true), 0] [] fun _ => seg [(4, vb true)] [(1, none), (3, none)] [.p ((vb (((vptE m o_ z qa qs) : Int) == (vptE m o_ z qa qs)) : Value) = vb true)] ⟨(congrArg Value.bool (beq_self_eq_true _)), trivial⟩ fun ac wd hS => ?_
        refine wp_ret ?_
        refine St.retC 0 hS (vb true) [] trivial fun hw => ?_
        refine ⟨(vptM m o_ z qa qs), o_, z, g226, u227, cp228, F25, retd rfl, ?_, (hw.res 0), (hw.wins 0 (show _ = some (wb, .cells [pt b 0, pt b 0, vi o_, vi z, sc g226 u227 n cp228, vi rf, vi o_, vi z] 63) by as_aux_lemma => kernel_rfl)), (hw.get 0 wb (.cells [pt b 0, pt b 0, vi o_, vi z, sc g226 u227 n cp228, vi rf, vi o_, vi z] 63)), ho29, (hw.get 1 g226 (.fn u227 (u227 + n) (strs (pgS (vptM m o_ z qa qs)) u227))), (fun q_ => hw.free (g226, .fn u227 (u227 + n) (strs (pgS (vptM m o_ z qa qs)) u227)) (List.mem_of_getElem? (i := 1) (by as_aux_lemma => kernel_rfl)) (.inl q_)), hw.fr0⟩
        all_goals (first | rfl | exact ⟨rfl, ho⟩ | exact ⟨decM_cap _ _ _, ho⟩ | exact ⟨vptM_cap, ho⟩ | exact ⟨vfiM_cap, ho⟩ | exact ⟨vstM_cap, ho⟩ | exact ⟨vcpM_cap, ho⟩ | exact ⟨rfl, wi_z ho hpw⟩)
       ·
        refine St.ord1 8 [100] [5, 276, 279, 286, 288] [0, 2] hS rfl fun _ => seg [(284, .agg #[vi o_, vi z])] [(0, none), (1, none), (2, none)] [.e wb, .e wb] trivial ⟨by as_aux_lemma => kernel_rfl, fun ac wd hS => ?_⟩
        refine ord_nil ?_
        refine wpT_lin ?_
        refine St.ord1 4 [100] [5, 276, 284, 286, 288] [0, 2] hS rfl fun _ => seg [(280, .agg #[sc g u n cp, vi rf])] [(0, none), (1, none), (2, none)] [.e wb, .e wb] trivial ⟨by as_aux_lemma => kernel_rfl, fun ac wd hS => ?_⟩
        refine hS.ordC 13 81 #[.agg #[sc g u n cp, vi rf], .agg #[vi o_, vi z], vi qa, .string qs] (ref04_Put g u n cp rf o_ z qa qs m _ (hS.mem.get 0 g (.fn u (u + n) (strs (pgS m) u))) (by first | assumption | omega | (simp_all; done) | (simp_all; omega)) (by first | assumption | omega | (simp_all; done) | (simp_all; omega)) (by first | assumption | omega | (simp_all; done) | (simp_all; omega))) ?_
        rintro _ wd ⟨g230, u231, cp232, rfl, hog0, hoh0, hF⟩
        have ho33 : g230 = g ∨ w.heap.size ≤ g230 := by rcases hog0 with hx | hx; rw [hx]; exact (.inl rfl); exact .inr (Nat.le_trans hS.mem.fr.size hx)
        refine ⟨.tuple #[.agg #[sc g230 u231 n cp232, vi rf], vi (vptE m o_ z qa qs)], rfl, ?_⟩
        replace hS := (hS.to (hS.mem.outs hF [(g230, .fn u231 (u231 + n) (strs (pgS (vptM m o_ z qa qs)) u231))] ⟨⟨rfl, hoh0, hog0.imp (fun e => ⟨0, .fn u (u + n) (strs (pgS m) u), by rw [e]; rfl, rfl⟩) id⟩, trivial⟩)).put (d := 289) (v := .tuple #[.agg #[sc g230 u231 n cp232, vi rf], vi (vptE m o_ z qa qs)]) (by decide)
        clear hF
        refine hS.ordV (l := [0, 2]) ?_
        refine St.ordF [0, 0, 0, 0, 0] [14, 15, 16, 17, 18] [5] (rest := [(19, 0), (20, 1)]) hS hap <| segF [(290, .agg #[sc g230 u231 n cp232, vi rf]), (291, vi (vptE m o_ z qa qs)), (293, pt wb 4)] [] trivial fun ac hS => ?_
        refine St.ord1 19 [100] [5, 291] [0, 2] hS rfl fun _ => seg [] [(0, none), (1, some (wb, .cells [pt b 0, pt b 0, vi o_, vi z, sc g230 u231 n cp232, vi rf, vi o_, vi z] 63)), (2, none), (3, none)] [.e wb, .e wb] trivial ⟨by as_aux_lemma => kernel_rfl, fun ac wd hS => ?_⟩
        refine St.ordF [0] [20] [5] (rest := []) hS hap <| segF [(6, vi (vptE m o_ z qa qs))] [] trivial fun ac hS => ?_
        refine ord_nil ?_
        refine pop_block ?_
        refine pop_then ?_
        refine hS.regS [0, 0, fx 0 (vb true), 0] [] fun _ => seg [(4, vb true)] [(1, none), (3, none)] [.p ((vb (((vptE m o_ z qa qs) : Int) == (vptE m o_ z qa qs)) : Value) = vb true)] ⟨(congrArg Value.bool (beq_self_eq_true _)), trivial⟩ fun ac wd hS => ?_
        refine wp_ret ?_
        refine St.retC 0 hS (vb true) [] trivial fun hw => ?_
        refine ⟨(vptM m o_ z qa qs), o_, z, g230, u231, cp232, F25, retd rfl, ?_, (hw.res 0), (hw.wins 0 (show _ = some (wb, .cells [pt b 0, pt b 0, vi o_, vi z, sc g230 u231 n cp232, vi rf, vi o_, vi z] 63) by as_aux_lemma => kernel_rfl)), (hw.get 0 wb (.cells [pt b 0, pt b 0, vi o_, vi z, sc g230 u231 n cp232, vi rf, vi o_, vi z] 63)), ho33, (hw.get 1 g230 (.fn u231 (u231 + n) (strs (pgS (vptM m o_ z qa qs)) u231))), (fun q_ => hw.free (g230, .fn u231 (u231 + n) (strs (pgS (vptM m o_ z qa qs)) u231)) (List.mem_of_getElem? (i := 1) (by as_aux_lemma => kernel_rfl)) (.inl q_)), hw.fr0⟩
        all_goals (first | rfl | exact ⟨rfl, ho⟩ | exact ⟨decM_cap _ _ _, ho⟩ | exact ⟨vptM_cap, ho⟩ | exact ⟨vfiM_cap, ho⟩ | exact ⟨vstM_cap, ho⟩ | exact ⟨vcpM_cap, ho⟩ | exact ⟨rfl, wi_z ho hpw⟩)
      ·
       refine hS.regS [0, 0] [0, 3, 22] fun _ => seg [(294, vb (((qd % 10) : Int) == 7))] [(0, none), (1, none), (2, none)] [] trivial fun ac wd hS => ?_
       refine hS.condC (((qd % 10) : Int) == 7) (fun hb34o hb34 => ?_) (fun hb34o hb34 => ?_)
       ·
        refine St.ordBeginS [(0, 1), (1, 1), (2, 1), (3, 1), (4, 1), (5, 1), (6, 1), (7, 1), (8, 1), (9, 1), (10, 1), (11, 0), (12, 1)] [(g, .fn u (u + n) (strs (pgS m) u)), (wb, .cells [pt b 0, pt b 0, vi o_, vi z, sc g u n cp, vi rf, vi o_, vi z] 63), ((ν1 0), .cells [v8 qd, vi qa, vi qf, vi qn, vu qx, .string qs] 36)] [0, 1, 2] hS fun wd hS => ?_
        have hap := hS.mem.pairs (Hf := [(g, .fn u (u + n) (strs (pgS m) u)), (wb, .cells [pt b 0, pt b 0, vi o_, vi z, sc g u n cp, vi rf, vi o_, vi z] 63), ((ν1 0), .cells [v8 qd, vi qa, vi qf, vi qn, vu qx, .string qs] 36)]) (l := [0, 1, 2])
        refine St.ordF [0, 0, 0, 100, 0, 200, 0, 200, 0, 200, 0] [0, 1, 2, 3, 4, 5, 6, 7, 8, 9, 10] [0, 3] (rest := [(11, 0), (12, 1)]) hS hap <| segF [(299, .agg #[pt b 0, vi o_, vi z]), (301, vi qa), (303, vi qn), (306, v8 (IntKind.wrap .u8 qx))] [.e (ν1 0), .e (ν1 0), .e (ν1 0), .e wb, .e wb, .e wb] trivial fun ac hS => ?_
        refine hS.ordC 11 82 #[.agg #[pt b 0, vi o_, vi z], vi qa, vi qn, v8 (IntKind.wrap .u8 qx)] (vw_Fill b F m o_ z qa qn (IntKind.wrap .u8 qx) _ (hS.mem.res 0) (by first | assumption | omega | (simp_all; done) | (simp_all; omega)) (by exact wrap_u8 _)) ?_
        rintro _ wd ⟨F35, rfl, hA, hF⟩
        refine ⟨vi (vbyE m o_ z qa qn), rfl, ?_⟩
        replace hS := (hS.to (hS.mem.stepA 0 rfl hA hF)).put (d := 307) (v := vi (vbyE m o_ z qa qn)) (by decide)
        clear hF
        refine hS.ordV (l := [0, 1, 2]) ?_
        refine St.ordF [0] [12] [0, 3] (rest := []) hS hap <| segF [(5, vi (vbyE m o_ z qa qn))] [] trivial fun ac hS => ?_
        refine ord_nil ?_
        refine St.ordBeginT [(0, 1), (1, 1), (2, 1), (3, 1), (5, 1), (6, 1), (7, 1), (9, 1), (10, 1), (11, 1), (12, 1), (13, 1), (14, 1), (15, 1), (4, 0), (8, 0), (16, 0), (17, 1), (18, 1), (19, 1), (20, 1), (21, 1), (22, 0), (23, 1)] (.two [(0, 1), (1, 1), (2, 1), (3, 1), (5, 1), (6, 1), (7, 1), (9, 1), (10, 1), (11, 1), (12, 1), (13, 1), (14, 1), (15, 1)] 4 (.lin [(8, 0), (16, 0), (17, 1), (18, 1), (19, 1), (20, 1), (21, 1), (22, 0), (23, 1)]) 8 (.lin [(4, 0), (16, 0), (17, 1), (18, 1), (19, 1), (20, 1), (21, 1), (22, 0), (23, 1)])) [(g, .fn u (u + n) (strs (pgS m) u)), ((ν1 0), .cells [v8 qd, vi qa, vi qf, vi qn, vu qx, .string qs] 36)] [0, 2] hS fun wd hS => ?_
        have hap := hS.mem.pairs (Hf := [(g, .fn u (u + n) (strs (pgS m) u)), ((ν1 0), .cells [v8 qd, vi qa, vi qf, vi qn, vu qx, .string qs] 36)]) (l := [0, 2])
        refine wpT_two ?_
        refine St.ordF [0, 0, 0, 0, 0, 0, 0, 0, 100, 0, 100, 0, 100, 0] [0, 1, 2, 3, 5, 6, 7, 9, 10, 11, 12, 13, 14, 15] [5] (rest := []) hS hap <| segF [(309, pt wb 0), (312, pt wb 4), (316, pt wb 6), (319, vi qa), (321, vi qn), (324, v8 (IntKind.wrap .u8 qx))] [.e (ν1 0), .e (ν1 0), .e (ν1 0)] trivial fun ac hS => ?_
        refine ord_nil ?_
        refine ⟨?_, ?_⟩
        ·
         refine St.ord1 4 [100] [5, 309, 316, 319, 321, 324] [0, 2] hS rfl fun _ => seg [(313, .agg #[sc g u n cp, vi rf])] [(0, none), (1, none), (2, none)] [.e wb, .e wb] trivial ⟨by as_aux_lemma => kernel_rfl, fun ac wd hS => ?_⟩
         refine ord_nil ?_
         refine wpT_lin ?_
         refine St.ord1 8 [100] [5, 309, 313, 319, 321, 324] [0, 2] hS rfl fun _ => seg [(317, .agg #[vi o_, vi z])] [(0, none), (1, none), (2, none)] [.e wb, .e wb] trivial ⟨by as_aux_lemma => kernel_rfl, fun ac wd hS => ?_⟩
         refine hS.ordC 16 83 #[.agg #[sc g u n cp, vi rf], .agg #[vi o_, vi z], vi qa, vi qn, v8 (IntKind.wrap .u8 qx)] (ref04_Fill g u n cp rf o_ z qa qn (IntKind.wrap .u8 qx) m _ (hS.mem.get 0 g (.fn u (u + n) (strs (pgS m) u))) (by first | assumption | omega | (simp_all; done) | (simp_all; omega)) (by first | assumption | omega | (simp_all; done) | (simp_all; omega)) (by first | assumption | omega | (simp_all; done) | (simp_all; omega)) (by exact wrap_u8 _)) ?_
         rintro _ wd ⟨g236, u237, cp238, rfl, hog0, hoh0, hF⟩
         have ho39 : g236 = g ∨ w.heap.size ≤ g236 := by rcases hog0 with hx | hx; rw [hx]; exact (.inl rfl); exact .inr (Nat.le_trans hS.mem.fr.size hx)
         refine ⟨.tuple #[.agg #[sc g236 u237 n cp238, vi rf], vi (vbyE m o_ z qa qn)], rfl, ?_⟩
         replace hS := (hS.to (hS.mem.outs hF [(g236, .fn u237 (u237 + n) (strs (pgS (vfiM m o_ z qa qn (u8 (IntKind.wrap .u8 qx)))) u237))] ⟨⟨rfl, hoh0, hog0.imp (fun e => ⟨0, .fn u (u + n) (strs (pgS m) u), by rw [e]; rfl, rfl⟩) id⟩, trivial⟩)).put (d := 325) (v := .tuple #[.agg #[sc g236 u237 n cp238, vi rf], vi (vbyE m o_ z qa qn)]) (by decide)
         clear hF
         refine hS.ordV (l := [0, 2]) ?_
         refine St.ordF [0, 0, 0, 0, 0] [17, 18, 19, 20, 21] [5] (rest := [(22, 0), (23, 1)]) hS hap <| segF [(326, .agg #[sc g236 u237 n cp238, vi rf]), (327, vi (vbyE m o_ z qa qn)), (329, pt wb 4)] [] trivial fun ac hS => ?_
         refine St.ord1 22 [100] [5, 327] [0, 2] hS rfl fun _ => seg [] [(0, none), (1, some (wb, .cells [pt b 0, pt b 0, vi o_, vi z, sc g236 u237 n cp238, vi rf, vi o_, vi z] 63)), (2, none), (3, none)] [.e wb, .e wb] trivial ⟨by as_aux_lemma => kernel_rfl, fun ac wd hS => ?_⟩
         refine St.ordF [0] [23] [5] (rest := []) hS hap <| segF [(6, vi (vbyE m o_ z qa qn))] [] trivial fun ac hS => ?_
         refine ord_nil ?_
         refine pop_block ?_
         refine pop_then ?_
         refine hS.regS [0, 0, fx 0 (vb true), 0] [] fun _ => seg [(4, vb true)] [(1, none), (3, none)] [.p ((vb (((vbyE m o_ z qa qn) : Int) == (vbyE m o_ z qa qn)) : Value) = vb true)] ⟨(congrArg Value.bool (beq_self_eq_true _)), trivial⟩ fun ac wd hS => ?_
         refine wp_ret ?_
         refine St.retC 0 hS (vb true) [] trivial fun hw => ?_
         refine ⟨(vfiM m o_ z qa qn (u8 (IntKind.wrap .u8 qx))), o_, z, g236, u237, cp238, F35, retd rfl, ?_, (hw.res 0), (hw.wins 0 (show _ = some (wb, .cells [pt b 0, pt b 0, vi o_, vi z, sc g236 u237 n cp238, vi rf, vi o_, vi z] 63) by as_aux_lemma => kernel_rfl)), (hw.get 0 wb (.cells [pt b 0, pt b 0, vi o_, vi z, sc g236 u237 n cp238, vi rf, vi o_, vi z] 63)), ho39, (hw.get 1 g236 (.fn u237 (u237 + n) (strs (pgS (vfiM m o_ z qa qn (u8 (IntKind.wrap .u8 qx)))) u237))), (fun q_ => hw.free (g236, .fn u237 (u237 + n) (strs (pgS (vfiM m o_ z qa qn (u8 (IntKind.wrap .u8 qx)))) u237)) (List.mem_of_getElem? (i := 1) (by as_aux_lemma => kernel_rfl)) (.inl q_)), hw.fr0⟩
         all_goals (first | rfl | exact ⟨rfl, ho⟩ | exact ⟨decM_cap _ _ _, ho⟩ | exact ⟨vptM_cap, ho⟩ | exact ⟨vfiM_cap, ho⟩ | exact ⟨vstM_cap, ho⟩ | exact ⟨vcpM_cap, ho⟩ | exact ⟨rfl, wi_z ho hpw⟩)
        ·
         refine St.ord1 8 [100] [5, 309, 312, 319, 321, 324] [0, 2] hS rfl fun _ => seg [(317, .agg #[vi o_, vi z])] [(0, none), (1, none), (2, none)] [.e wb, .e wb] trivial ⟨by as_aux_lemma => kernel_rfl, fun ac wd hS => ?_⟩
         refine ord_nil ?_
         refine wpT_lin ?_
         refine St.ord1 4 [100] [5, 309, 317, 319, 321, 324] [0, 2] hS rfl fun _ => seg [(313, .agg #[sc g u n cp, vi rf])] [(0, none), (1, none), (2, none)] [.e wb, .e wb] trivial ⟨by as_aux_lemma => kernel_rfl, fun ac wd hS => ?_⟩
         refine hS.ordC 16 83 #[.agg #[sc g u n cp, vi rf], .agg #[vi o_, vi z], vi qa, vi qn, v8 (IntKind.wrap .u8 qx)] (ref04_Fill g u n cp rf o_ z qa qn (IntKind.wrap .u8 qx) m _ (hS.mem.get 0 g (.fn u (u + n) (strs (pgS m) u))) (by first | assumption | omega | (simp_all; done) | (simp_all; omega)) (by first | assumption | omega | (simp_all; done) | (simp_all; omega)) (by first | assumption | omega | (simp_all; done) | (simp_all; omega)) (by exact wrap_u8 _)) ?_
         rintro _ wd ⟨g240, u241, cp242, rfl, hog0, hoh0, hF⟩
         have ho43 : g240 = g ∨ w.heap.size ≤ g240 := by rcases hog0 with hx | hx; rw [hx]; exact (.inl rfl); exact .inr (Nat.le_trans hS.mem.fr.size hx)
         refine ⟨.tuple #[.agg #[sc g240 u241 n cp242, vi rf], vi (vbyE m o_ z qa qn)], rfl, ?_⟩
         replace hS := (hS.to (hS.mem.outs hF [(g240, .fn u241 (u241 + n) (strs (pgS (vfiM m o_ z qa qn (u8 (IntKind.wrap .u8 qx)))) u241))] ⟨⟨rfl, hoh0, hog0.imp (fun e => ⟨0, .fn u (u + n) (strs (pgS m) u), by rw [e]; rfl, rfl⟩) id⟩, trivial⟩)).put (d := 325) (v := .tuple #[.agg #[sc g240 u241 n cp242, vi rf], vi (vbyE m o_ z qa qn)]) (by decide)
         clear hF
         refine hS.ordV (l := [0, 2]) ?_
         refine St.ordF [0, 0, 0, 0, 0] [17, 18, 19, 20, 21] [5] (rest := [(22, 0), (23, 1)]) hS hap <| segF [(326, .agg #[sc g240 u241 n cp242, vi rf]), (327, vi (vbyE m o_ z qa qn)), (329, pt wb 4)] [] trivial fun ac hS => ?_
         refine St.ord1 22 [100] [5, 327] [0, 2] hS rfl fun _ => seg [] [(0, none), (1, some (wb, .cells [pt b 0, pt b 0, vi o_, vi z, sc g240 u241 n cp242, vi rf, vi o_, vi z] 63)), (2, none), (3, none)] [.e wb, .e wb] trivial ⟨by as_aux_lemma => kernel_rfl, fun ac wd hS => ?_⟩
         refine St.ordF [0] [23] [5] (rest := []) hS hap <| segF [(6, vi (vbyE m o_ z qa qn))] [] trivial fun ac hS => ?_
         refine ord_nil ?_
         refine pop_block ?_
         refine pop_then ?_
         refine hS.regS [0, 0, fx 0 (vb true), 0] [] fun _ => seg [(4, vb true)] [(1, none), (3, none)] [.p ((vb (((vbyE m o_ z qa qn) : Int) == (vbyE m o_ z qa qn)) : Value) = vb true)] ⟨(congrArg Value.bool (beq_self_eq_true _)), trivial⟩ fun ac wd hS => ?_
         refine wp_ret ?_
         refine St.retC 0 hS (vb true) [] trivial fun hw => ?_
         refine ⟨(vfiM m o_ z qa qn (u8 (IntKind.wrap .u8 qx))), o_, z, g240, u241, cp242, F35, retd rfl, ?_, (hw.res 0), (hw.wins 0 (show _ = some (wb, .cells [pt b 0, pt b 0, vi o_, vi z, sc g240 u241 n cp242, vi rf, vi o_, vi z] 63) by as_aux_lemma => kernel_rfl)), (hw.get 0 wb (.cells [pt b 0, pt b 0, vi o_, vi z, sc g240 u241 n cp242, vi rf, vi o_, vi z] 63)), ho43, (hw.get 1 g240 (.fn u241 (u241 + n) (strs (pgS (vfiM m o_ z qa qn (u8 (IntKind.wrap .u8 qx)))) u241))), (fun q_ => hw.free (g240, .fn u241 (u241 + n) (strs (pgS (vfiM m o_ z qa qn (u8 (IntKind.wrap .u8 qx)))) u241)) (List.mem_of_getElem? (i := 1) (by as_aux_lemma => kernel_rfl)) (.inl q_)), hw.fr0⟩
         all_goals (first | rfl | exact ⟨rfl, ho⟩ | exact ⟨decM_cap _ _ _, ho⟩ | exact ⟨vptM_cap, ho⟩ | exact ⟨vfiM_cap, ho⟩ | exact ⟨vstM_cap, ho⟩ | exact ⟨vcpM_cap, ho⟩ | exact ⟨rfl, wi_z ho hpw⟩)
       ·
        refine hS.regS [0, 0] [0, 3] fun _ => seg [(330, vb (((qd % 10) : Int) == 8))] [(0, none), (1, none), (2, none)] [] trivial fun ac wd hS => ?_
        refine hS.condC (((qd % 10) : Int) == 8) (fun hb44o hb44 => ?_) (fun hb44o hb44 => ?_)
        ·
         refine St.ordBeginS [(0, 1), (1, 1), (2, 1), (3, 1), (4, 1), (5, 1), (6, 1), (7, 1), (8, 1), (9, 1), (10, 0), (11, 1)] [(g, .fn u (u + n) (strs (pgS m) u)), (wb, .cells [pt b 0, pt b 0, vi o_, vi z, sc g u n cp, vi rf, vi o_, vi z] 63), ((ν1 0), .cells [v8 qd, vi qa, vi qf, vi qn, vu qx, .string qs] 36)] [0, 1, 2] hS fun wd hS => ?_
         have hap := hS.mem.pairs (Hf := [(g, .fn u (u + n) (strs (pgS m) u)), (wb, .cells [pt b 0, pt b 0, vi o_, vi z, sc g u n cp, vi rf, vi o_, vi z] 63), ((ν1 0), .cells [v8 qd, vi qa, vi qf, vi qn, vu qx, .string qs] 36)]) (l := [0, 1, 2])
         refine St.ordF [0, 0, 0, 100, 0, 200, 0, 200, 0, 200] [0, 1, 2, 3, 4, 5, 6, 7, 8, 9] [0, 3] (rest := [(10, 0), (11, 1)]) hS hap <| segF [(335, .agg #[pt b 0, vi o_, vi z]), (337, vi qa), (339, vi qf), (341, vi qn)] [.e (ν1 0), .e (ν1 0), .e (ν1 0), .e wb, .e wb, .e wb] trivial fun ac hS => ?_
         refine hS.ordC 10 84 #[.agg #[pt b 0, vi o_, vi z], vi qa, vi qf, vi qn] (vw_Copy b F m o_ z qa qf qn _ (hS.mem.res 0) (by first | assumption | omega | (simp_all; done) | (simp_all; omega))) ?_
         rintro _ wd ⟨F45, rfl, hA, hF⟩
         refine ⟨vi (vcpE m o_ z qa qf qn), rfl, ?_⟩
         replace hS := (hS.to (hS.mem.stepA 0 rfl hA hF)).put (d := 342) (v := vi (vcpE m o_ z qa qf qn)) (by decide)
         clear hF
         refine hS.ordV (l := [0, 1, 2]) ?_
         refine St.ordF [0] [11] [0, 3] (rest := []) hS hap <| segF [(5, vi (vcpE m o_ z qa qf qn))] [] trivial fun ac hS => ?_
         refine ord_nil ?_
         refine St.ordBeginT [(0, 1), (1, 1), (2, 1), (3, 1), (5, 1), (6, 1), (7, 1), (9, 1), (10, 1), (11, 1), (12, 1), (13, 1), (14, 1), (4, 0), (8, 0), (15, 0), (16, 1), (17, 1), (18, 1), (19, 1), (20, 1), (21, 0), (22, 1)] (.two [(0, 1), (1, 1), (2, 1), (3, 1), (5, 1), (6, 1), (7, 1), (9, 1), (10, 1), (11, 1), (12, 1), (13, 1), (14, 1)] 4 (.lin [(8, 0), (15, 0), (16, 1), (17, 1), (18, 1), (19, 1), (20, 1), (21, 0), (22, 1)]) 8 (.lin [(4, 0), (15, 0), (16, 1), (17, 1), (18, 1), (19, 1), (20, 1), (21, 0), (22, 1)])) [(g, .fn u (u + n) (strs (pgS m) u)), ((ν1 0), .cells [v8 qd, vi qa, vi qf, vi qn, vu qx, .string qs] 36)] [0, 2] hS fun wd hS => ?_
         have hap := hS.mem.pairs (Hf := [(g, .fn u (u + n) (strs (pgS m) u)), ((ν1 0), .cells [v8 qd, vi qa, vi qf, vi qn, vu qx, .string qs] 36)]) (l := [0, 2])
         refine wpT_two ?_
         refine St.ordF [0, 0, 0, 0, 0, 0, 0, 0, 100, 0, 100, 0, 100] [0, 1, 2, 3, 5, 6, 7, 9, 10, 11, 12, 13, 14] [5] (rest := []) hS hap <| segF [(344, pt wb 0), (347, pt wb 4), (351, pt wb 6), (354, vi qa), (356, vi qf), (358, vi qn)] [.e (ν1 0), .e (ν1 0), .e (ν1 0)] trivial fun ac hS => ?_
         refine ord_nil ?_
         refine ⟨?_, ?_⟩
         ·
          refine St.ord1 4 [100] [5, 344, 351, 354, 356, 358] [0, 2] hS rfl fun _ => seg [(348, .agg #[sc g u n cp, vi rf])] [(0, none), (1, none), (2, none)] [.e wb, .e wb] trivial ⟨by as_aux_lemma => kernel_rfl, fun ac wd hS => ?_⟩
          refine ord_nil ?_
          refine wpT_lin ?_
          refine St.ord1 8 [100] [5, 344, 348, 354, 356, 358] [0, 2] hS rfl fun _ => seg [(352, .agg #[vi o_, vi z])] [(0, none), (1, none), (2, none)] [.e wb, .e wb] trivial ⟨by as_aux_lemma => kernel_rfl, fun ac wd hS => ?_⟩
          refine hS.ordC 15 85 #[.agg #[sc g u n cp, vi rf], .agg #[vi o_, vi z], vi qa, vi qf, vi qn] (ref04_Copy g u n cp rf o_ z qa qf qn m _ (hS.mem.get 0 g (.fn u (u + n) (strs (pgS m) u))) (by first | assumption | omega | (simp_all; done) | (simp_all; omega)) (by first | assumption | omega | (simp_all; done) | (simp_all; omega)) (by first | assumption | omega | (simp_all; done) | (simp_all; omega))) ?_
          rintro _ wd ⟨g246, u247, cp248, rfl, hog0, hoh0, hF⟩
          have ho49 : g246 = g ∨ w.heap.size ≤ g246 := by rcases hog0 with hx | hx; rw [hx]; exact (.inl rfl); exact .inr (Nat.le_trans hS.mem.fr.size hx)
          refine ⟨.tuple #[.agg #[sc g246 u247 n cp248, vi rf], vi (vcpE m o_ z qa qf qn)], rfl, ?_⟩
          replace hS := (hS.to (hS.mem.outs hF [(g246, .fn u247 (u247 + n) (strs (pgS (vcpM m o_ z qa qf qn)) u247))] ⟨⟨rfl, hoh0, hog0.imp (fun e => ⟨0, .fn u (u + n) (strs (pgS m) u), by rw [e]; rfl, rfl⟩) id⟩, trivial⟩)).put (d := 359) (v := .tuple #[.agg #[sc g246 u247 n cp248, vi rf], vi (vcpE m o_ z qa qf qn)]) (by decide)
          clear hF
          refine hS.ordV (l := [0, 2]) ?_
          refine St.ordF [0, 0, 0, 0, 0] [16, 17, 18, 19, 20] [5] (rest := [(21, 0), (22, 1)]) hS hap <| segF [(360, .agg #[sc g246 u247 n cp248, vi rf]), (361, vi (vcpE m o_ z qa qf qn)), (363, pt wb 4)] [] trivial fun ac hS => ?_
          refine St.ord1 21 [100] [5, 361] [0, 2] hS rfl fun _ => seg [] [(0, none), (1, some (wb, .cells [pt b 0, pt b 0, vi o_, vi z, sc g246 u247 n cp248, vi rf, vi o_, vi z] 63)), (2, none), (3, none)] [.e wb, .e wb] trivial ⟨by as_aux_lemma => kernel_rfl, fun ac wd hS => ?_⟩
          refine St.ordF [0] [22] [5] (rest := []) hS hap <| segF [(6, vi (vcpE m o_ z qa qf qn))] [] trivial fun ac hS => ?_
          refine ord_nil ?_
          refine pop_block ?_
          refine pop_then ?_
          refine hS.regS [0, 0, fx 0 (vb true), 0] [] fun _ => seg [(4, vb true)] [(1, none), (3, none)] [.p ((vb (((vcpE m o_ z qa qf qn) : Int) == (vcpE m o_ z qa qf qn)) : Value) = vb true)] ⟨(congrArg Value.bool (beq_self_eq_true _)), trivial⟩ fun ac wd hS => ?_
          refine wp_ret ?_
          refine St.retC 0 hS (vb true) [] trivial fun hw => ?_
          refine ⟨(vcpM m o_ z qa qf qn), o_, z, g246, u247, cp248, F45, retd rfl, ?_, (hw.res 0), (hw.wins 0 (show _ = some (wb, .cells [pt b 0, pt b 0, vi o_, vi z, sc g246 u247 n cp248, vi rf, vi o_, vi z] 63) by as_aux_lemma => kernel_rfl)), (hw.get 0 wb (.cells [pt b 0, pt b 0, vi o_, vi z, sc g246 u247 n cp248, vi rf, vi o_, vi z] 63)), ho49, (hw.get 1 g246 (.fn u247 (u247 + n) (strs (pgS (vcpM m o_ z qa qf qn)) u247))), (fun q_ => hw.free (g246, .fn u247 (u247 + n) (strs (pgS (vcpM m o_ z qa qf qn)) u247)) (List.mem_of_getElem? (i := 1) (by as_aux_lemma => kernel_rfl)) (.inl q_)), hw.fr0⟩
          all_goals (first | rfl | exact ⟨rfl, ho⟩ | exact ⟨decM_cap _ _ _, ho⟩ | exact ⟨vptM_cap, ho⟩ | exact ⟨vfiM_cap, ho⟩ | exact ⟨vstM_cap, ho⟩ | exact ⟨vcpM_cap, ho⟩ | exact ⟨rfl, wi_z ho hpw⟩)
         ·
          refine St.ord1 8 [100] [5, 344, 347, 354, 356, 358] [0, 2] hS rfl fun _ => seg [(352, .agg #[vi o_, vi z])] [(0, none), (1, none), (2, none)] [.e wb, .e wb] trivial ⟨by as_aux_lemma => kernel_rfl, fun ac wd hS => ?_⟩
          refine ord_nil ?_
          refine wpT_lin ?_
          refine St.ord1 4 [100] [5, 344, 352, 354, 356, 358] [0, 2] hS rfl fun _ => seg [(348, .agg #[sc g u n cp, vi rf])] [(0, none), (1, none), (2, none)] [.e wb, .e wb] trivial ⟨by as_aux_lemma => kernel_rfl, fun ac wd hS => ?_⟩
          refine hS.ordC 15 85 #[.agg #[sc g u n cp, vi rf], .agg #[vi o_, vi z], vi qa, vi qf, vi qn] (ref04_Copy g u n cp rf o_ z qa qf qn m _ (hS.mem.get 0 g (.fn u (u + n) (strs (pgS m) u))) (by first | assumption | omega | (simp_all; done) | (simp_all; omega)) (by first | assumption | omega | (simp_all; done) | (simp_all; omega)) (by first | assumption | omega | (simp_all; done) | (simp_all; omega))) ?_
          rintro _ wd ⟨g250, u251, cp252, rfl, hog0, hoh0, hF⟩
          have ho53 : g250 = g ∨ w.heap.size ≤ g250 := by rcases hog0 with hx | hx; rw [hx]; exact (.inl rfl); exact .inr (Nat.le_trans hS.mem.fr.size hx)
          refine ⟨.tuple #[.agg #[sc g250 u251 n cp252, vi rf], vi (vcpE m o_ z qa qf qn)], rfl, ?_⟩
          replace hS := (hS.to (hS.mem.outs hF [(g250, .fn u251 (u251 + n) (strs (pgS (vcpM m o_ z qa qf qn)) u251))] ⟨⟨rfl, hoh0, hog0.imp (fun e => ⟨0, .fn u (u + n) (strs (pgS m) u), by rw [e]; rfl, rfl⟩) id⟩, trivial⟩)).put (d := 359) (v := .tuple #[.agg #[sc g250 u251 n cp252, vi rf], vi (vcpE m o_ z qa qf qn)]) (by decide)
          clear hF
          refine hS.ordV (l := [0, 2]) ?_
          refine St.ordF [0, 0, 0, 0, 0] [16, 17, 18, 19, 20] [5] (rest := [(21, 0), (22, 1)]) hS hap <| segF [(360, .agg #[sc g250 u251 n cp252, vi rf]), (361, vi (vcpE m o_ z qa qf qn)), (363, pt wb 4)] [] trivial fun ac hS => ?_
          refine St.ord1 21 [100] [5, 361] [0, 2] hS rfl fun _ => seg [] [(0, none), (1, some (wb, .cells [pt b 0, pt b 0, vi o_, vi z, sc g250 u251 n cp252, vi rf, vi o_, vi z] 63)), (2, none), (3, none)] [.e wb, .e wb] trivial ⟨by as_aux_lemma => kernel_rfl, fun ac wd hS => ?_⟩
          refine St.ordF [0] [22] [5] (rest := []) hS hap <| segF [(6, vi (vcpE m o_ z qa qf qn))] [] trivial fun ac hS => ?_
          refine ord_nil ?_
          refine pop_block ?_
          refine pop_then ?_
          refine hS.regS [0, 0, fx 0 (vb true), 0] [] fun _ => seg [(4, vb true)] [(1, none), (3, none)] [.p ((vb (((vcpE m o_ z qa qf qn) : Int) == (vcpE m o_ z qa qf qn)) : Value) = vb true)] ⟨(congrArg Value.bool (beq_self_eq_true _)), trivial⟩ fun ac wd hS => ?_
          refine wp_ret ?_
          refine St.retC 0 hS (vb true) [] trivial fun hw => ?_
          refine ⟨(vcpM m o_ z qa qf qn), o_, z, g250, u251, cp252, F45, retd rfl, ?_, (hw.res 0), (hw.wins 0 (show _ = some (wb, .cells [pt b 0, pt b 0, vi o_, vi z, sc g250 u251 n cp252, vi rf, vi o_, vi z] 63) by as_aux_lemma => kernel_rfl)), (hw.get 0 wb (.cells [pt b 0, pt b 0, vi o_, vi z, sc g250 u251 n cp252, vi rf, vi o_, vi z] 63)), ho53, (hw.get 1 g250 (.fn u251 (u251 + n) (strs (pgS (vcpM m o_ z qa qf qn)) u251))), (fun q_ => hw.free (g250, .fn u251 (u251 + n) (strs (pgS (vcpM m o_ z qa qf qn)) u251)) (List.mem_of_getElem? (i := 1) (by as_aux_lemma => kernel_rfl)) (.inl q_)), hw.fr0⟩
          all_goals (first | rfl | exact ⟨rfl, ho⟩ | exact ⟨decM_cap _ _ _, ho⟩ | exact ⟨vptM_cap, ho⟩ | exact ⟨vfiM_cap, ho⟩ | exact ⟨vstM_cap, ho⟩ | exact ⟨vcpM_cap, ho⟩ | exact ⟨rfl, wi_z ho hpw⟩)
        ·
         refine hS.regS [0, 200, 0, 200, 0, 0, 0, 0] [0, 3] fun _ => seg [(19, vi (imax 0 (imin qn ((ByteArray.size qs : Nat) : Int))))] [(0, none), (1, none), (2, none)] [.e (ν1 0), .e (ν1 0)] trivial fun ac wd hS => ?_
         obtain ⟨kk, kk_e⟩ : ∃ q_ : Int, q_ = (imax 0 (imin qn ((ByteArray.size qs : Nat) : Int))) := ⟨_, rfl⟩
         replace hS := hS.fix 19 (vi kk) (show (vi (imax 0 (imin qn ((ByteArray.size qs : Nat) : Int))) : Value) = vi kk by rw [kk_e])
         have hkk : 0 ≤ kk ∧ kk ≤ ((qs.size : Nat) : Int) := by rw [kk_e]; unfold imax imin; split <;> split <;> omega
         clear kk_e
         refine St.ordBeginS [(0, 1), (1, 1), (2, 1), (3, 1), (4, 1), (5, 1), (6, 1), (7, 1), (8, 1), (9, 1), (10, 1), (11, 1), (12, 0), (13, 0), (14, 1)] [(g, .fn u (u + n) (strs (pgS m) u)), (wb, .cells [pt b 0, pt b 0, vi o_, vi z, sc g u n cp, vi rf, vi o_, vi z] 63), ((ν1 0), .cells [v8 qd, vi qa, vi qf, vi qn, vu qx, .string qs] 36)] [0, 1, 2] hS fun wd hS => ?_
         have hap := hS.mem.pairs (Hf := [(g, .fn u (u + n) (strs (pgS m) u)), (wb, .cells [pt b 0, pt b 0, vi o_, vi z, sc g u n cp, vi rf, vi o_, vi z] 63), ((ν1 0), .cells [v8 qd, vi qa, vi qf, vi qn, vu qx, .string qs] 36)]) (l := [0, 1, 2])
         refine St.ordF [0, 0, 0, 100, 0, 200, 0, 10, 0, 200, 0, 10] [0, 1, 2, 3, 4, 5, 6, 7, 8, 9, 10, 11] [0, 3] (rest := [(12, 0), (13, 0), (14, 1)]) hS hap <| segF [(33, .agg #[pt b 0, vi o_, vi z]), (37, .string (ByteArray.extract qs (Int.toNat (0 : Int)) (Int.toNat kk))), (41, .string (ByteArray.extract qs (Int.toNat kk) (Int.toNat ((ByteArray.size qs : Nat) : Int))))] [.p (0 ≤ kk ∧ kk ≤ ((ByteArray.size qs : Nat) : Int) ∧ ((ByteArray.size qs : Nat) : Int) ≤ (ByteArray.size qs : Int)), .e (ν1 0), .p (0 ≤ (0 : Int) ∧ (0 : Int) ≤ kk ∧ kk ≤ (ByteArray.size qs : Int)), .e (ν1 0), .e wb, .e wb, .e wb] ⟨(by omega), (by omega), trivial⟩ fun ac hS => ?_
         refine St.ord1 12 [0] [0, 3, 33] [0, 1, 2] hS rfl fun ν102 => seg [(42, sc (ν102 0) 0 2 2)] [(0, none), (1, none), (2, none), (3, some ((ν102 0), .cells [.string (ByteArray.extract qs (Int.toNat (0 : Int)) (Int.toNat kk)), .string (ByteArray.extract qs (Int.toNat kk) (Int.toNat ((ByteArray.size qs : Nat) : Int)))] 9))] [] trivial ⟨by as_aux_lemma => kernel_rfl, fun ac wd hS => ?_⟩
         refine hS.ordC 13 86 #[.agg #[pt b 0, vi o_, vi z], sc (ν102 0) 0 2 2] (vw_Texts b F m o_ z (some ⟨(ν102 0), 0, none⟩) 2 (ν102 0) 0 ([(ByteArray.extract qs (Int.toNat (0 : Int)) (Int.toNat kk)), (ByteArray.extract qs (Int.toNat kk) (Int.toNat ((ByteArray.size qs : Nat) : Int)))]) _ (hS.mem.res 0) (HE.of_cells (hS.mem.get 3 (ν102 0) (.cells [.string (ByteArray.extract qs (Int.toNat (0 : Int)) (Int.toNat kk)), .string (ByteArray.extract qs (Int.toNat kk) (Int.toNat ((ByteArray.size qs : Nat) : Int)))] 9)) (by intro o_ ho_; (rcases o_ with _ | _ | o_; rfl; rfl; exact absurd ho_ (by simp)))) (hS.mem.nF (g := (ν102 0)) (r := arR b F m) 3 0) (by first | assumption | omega | (simp_all; done) | (simp_all; omega)) (.inr rfl) (by simp) (by exact Nat.le_refl 2) (by (rw [joinS_two, ByteArray.size_extract, ByteArray.size_extract]; omega))) ?_
         rintro _ wd ⟨F54, rfl, hA, hF⟩
         refine ⟨vi (vptE m o_ z 0 (joinS ([(ByteArray.extract qs (Int.toNat (0 : Int)) (Int.toNat kk)), (ByteArray.extract qs (Int.toNat kk) (Int.toNat ((ByteArray.size qs : Nat) : Int)))]))), rfl, ?_⟩
         replace hS := (hS.to (hS.mem.stepA 0 rfl hA hF)).put (d := 43) (v := vi (vptE m o_ z 0 (joinS ([(ByteArray.extract qs (Int.toNat (0 : Int)) (Int.toNat kk)), (ByteArray.extract qs (Int.toNat kk) (Int.toNat ((ByteArray.size qs : Nat) : Int)))])))) (by decide)
         clear hF
         refine hS.ordV (l := [0, 1, 2]) ?_
         refine St.ordF [0] [14] [0, 3] (rest := []) hS hap <| segF [(5, vi (vptE m o_ z 0 (joinS ([(ByteArray.extract qs (Int.toNat (0 : Int)) (Int.toNat kk)), (ByteArray.extract qs (Int.toNat kk) (Int.toNat ((ByteArray.size qs : Nat) : Int)))]))))] [] trivial fun ac hS => ?_
         refine ord_nil ?_
         have hJ9 : (joinS ([(ByteArray.extract qs (Int.toNat (0 : Int)) (Int.toNat kk)), (ByteArray.extract qs (Int.toNat kk) (Int.toNat ((ByteArray.size qs : Nat) : Int)))])) = qs := joinS_cut qs (k := Int.toNat kk) (by omega)
         replace hS := hS.to (hS.mem.arTell (b := b) (F := F54) (m := (vptM m o_ z 0 (joinS ([(ByteArray.extract qs (Int.toNat (0 : Int)) (Int.toNat kk)), (ByteArray.extract qs (Int.toNat kk) (Int.toNat ((ByteArray.size qs : Nat) : Int)))])))) (m' := (vptM m o_ z 0 qs)) 0 (congrArg (vptM m o_ z 0) hJ9))
         replace hS := hS.fix 5 (vi (vptE m o_ z 0 qs)) (show (vi (vptE m o_ z 0 (joinS ([(ByteArray.extract qs (Int.toNat (0 : Int)) (Int.toNat kk)), (ByteArray.extract qs (Int.toNat kk) (Int.toNat ((ByteArray.size qs : Nat) : Int)))]))) : Value) = vi (vptE m o_ z 0 qs) from vint (congrArg (vptE m o_ z 0) hJ9))
         refine St.ordBeginT [(0, 1), (1, 1), (2, 1), (3, 1), (5, 1), (6, 1), (7, 1), (9, 1), (10, 1), (4, 0), (8, 0), (11, 0), (12, 1), (13, 1), (14, 1), (15, 1), (16, 1), (17, 0), (18, 1)] (.two [(0, 1), (1, 1), (2, 1), (3, 1), (5, 1), (6, 1), (7, 1), (9, 1), (10, 1)] 4 (.lin [(8, 0), (11, 0), (12, 1), (13, 1), (14, 1), (15, 1), (16, 1), (17, 0), (18, 1)]) 8 (.lin [(4, 0), (11, 0), (12, 1), (13, 1), (14, 1), (15, 1), (16, 1), (17, 0), (18, 1)])) [(g, .fn u (u + n) (strs (pgS m) u)), ((ν1 0), .cells [v8 qd, vi qa, vi qf, vi qn, vu qx, .string qs] 36), ((ν102 0), .cells [.string (ByteArray.extract qs (Int.toNat (0 : Int)) (Int.toNat kk)), .string (ByteArray.extract qs (Int.toNat kk) (Int.toNat ((ByteArray.size qs : Nat) : Int)))] 9)] [0, 2, 3] hS fun wd hS => ?_
         have hap := hS.mem.pairs (Hf := [(g, .fn u (u + n) (strs (pgS m) u)), ((ν1 0), .cells [v8 qd, vi qa, vi qf, vi qn, vu qx, .string qs] 36), ((ν102 0), .cells [.string (ByteArray.extract qs (Int.toNat (0 : Int)) (Int.toNat kk)), .string (ByteArray.extract qs (Int.toNat kk) (Int.toNat ((ByteArray.size qs : Nat) : Int)))] 9)]) (l := [0, 2, 3])
         refine wpT_two ?_
         refine St.ordF [0, 0, 0, 0, 0, 0, 0, 0, 100] [0, 1, 2, 3, 5, 6, 7, 9, 10] [5] (rest := []) hS hap <| segF [(45, pt wb 0), (48, pt wb 4), (52, pt wb 6), (55, .string qs)] [.e (ν1 0)] trivial fun ac hS => ?_
         refine ord_nil ?_
         refine ⟨?_, ?_⟩
         ·
          refine St.ord1 4 [100] [5, 45, 52, 55] [0, 2, 3] hS rfl fun _ => seg [(49, .agg #[sc g u n cp, vi rf])] [(0, none), (1, none), (2, none), (3, none)] [.e wb, .e wb] trivial ⟨by as_aux_lemma => kernel_rfl, fun ac wd hS => ?_⟩
          refine ord_nil ?_
          refine wpT_lin ?_
          refine St.ord1 8 [100] [5, 45, 49, 55] [0, 2, 3] hS rfl fun _ => seg [(53, .agg #[vi o_, vi z])] [(0, none), (1, none), (2, none), (3, none)] [.e wb, .e wb] trivial ⟨by as_aux_lemma => kernel_rfl, fun ac wd hS => ?_⟩
          refine hS.ordC 11 81 #[.agg #[sc g u n cp, vi rf], .agg #[vi o_, vi z], vi 0, .string qs] (ref04_Put g u n cp rf o_ z 0 qs m _ (hS.mem.get 0 g (.fn u (u + n) (strs (pgS m) u))) (by first | assumption | omega | (simp_all; done) | (simp_all; omega)) (by first | assumption | omega | (simp_all; done) | (simp_all; omega)) (by first | assumption | omega | (simp_all; done) | (simp_all; omega))) ?_
          rintro _ wd ⟨g255, u256, cp257, rfl, hog0, hoh0, hF⟩
          have ho58 : g255 = g ∨ w.heap.size ≤ g255 := by rcases hog0 with hx | hx; rw [hx]; exact (.inl rfl); exact .inr (Nat.le_trans hS.mem.fr.size hx)
          refine ⟨.tuple #[.agg #[sc g255 u256 n cp257, vi rf], vi (vptE m o_ z 0 qs)], rfl, ?_⟩
          replace hS := (hS.to (hS.mem.outs hF [(g255, .fn u256 (u256 + n) (strs (pgS (vptM m o_ z 0 qs)) u256))] ⟨⟨rfl, hoh0, hog0.imp (fun e => ⟨0, .fn u (u + n) (strs (pgS m) u), by rw [e]; rfl, rfl⟩) id⟩, trivial⟩)).put (d := 56) (v := .tuple #[.agg #[sc g255 u256 n cp257, vi rf], vi (vptE m o_ z 0 qs)]) (by decide)
          clear hF
          refine hS.ordV (l := [0, 2, 3]) ?_
          refine St.ordF [0, 0, 0, 0, 0] [12, 13, 14, 15, 16] [5] (rest := [(17, 0), (18, 1)]) hS hap <| segF [(57, .agg #[sc g255 u256 n cp257, vi rf]), (58, vi (vptE m o_ z 0 qs)), (60, pt wb 4)] [] trivial fun ac hS => ?_
          refine St.ord1 17 [100] [5, 58] [0, 2, 3] hS rfl fun _ => seg [] [(0, none), (1, some (wb, .cells [pt b 0, pt b 0, vi o_, vi z, sc g255 u256 n cp257, vi rf, vi o_, vi z] 63)), (2, none), (3, none), (4, none)] [.e wb, .e wb] trivial ⟨by as_aux_lemma => kernel_rfl, fun ac wd hS => ?_⟩
          refine St.ordF [0] [18] [5] (rest := []) hS hap <| segF [(6, vi (vptE m o_ z 0 qs))] [] trivial fun ac hS => ?_
          refine ord_nil ?_
          refine pop_block ?_
          refine pop_then ?_
          refine hS.regS [0, 0, fx 0 (vb true), 0] [] fun _ => seg [(4, vb true)] [(1, none), (4, none)] [.p ((vb (((vptE m o_ z 0 qs) : Int) == (vptE m o_ z 0 qs)) : Value) = vb true)] ⟨(congrArg Value.bool (beq_self_eq_true _)), trivial⟩ fun ac wd hS => ?_
          refine wp_ret ?_
          refine St.retC 0 hS (vb true) [] trivial fun hw => ?_
          refine ⟨(vptM m o_ z 0 qs), o_, z, g255, u256, cp257, F54, retd rfl, ?_, (hw.res 0), (hw.wins 0 (show _ = some (wb, .cells [pt b 0, pt b 0, vi o_, vi z, sc g255 u256 n cp257, vi rf, vi o_, vi z] 63) by as_aux_lemma => kernel_rfl)), (hw.get 0 wb (.cells [pt b 0, pt b 0, vi o_, vi z, sc g255 u256 n cp257, vi rf, vi o_, vi z] 63)), ho58, (hw.get 1 g255 (.fn u256 (u256 + n) (strs (pgS (vptM m o_ z 0 qs)) u256))), (fun q_ => hw.free (g255, .fn u256 (u256 + n) (strs (pgS (vptM m o_ z 0 qs)) u256)) (List.mem_of_getElem? (i := 1) (by as_aux_lemma => kernel_rfl)) (.inl q_)), hw.fr0⟩
          all_goals (first | rfl | exact ⟨rfl, ho⟩ | exact ⟨decM_cap _ _ _, ho⟩ | exact ⟨vptM_cap, ho⟩ | exact ⟨vfiM_cap, ho⟩ | exact ⟨vstM_cap, ho⟩ | exact ⟨vcpM_cap, ho⟩ | exact ⟨rfl, wi_z ho hpw⟩)
         ·
          refine St.ord1 8 [100] [5, 45, 48, 55] [0, 2, 3] hS rfl fun _ => seg [(53, .agg #[vi o_, vi z])] [(0, none), (1, none), (2, none), (3, none)] [.e wb, .e wb] trivial ⟨by as_aux_lemma => kernel_rfl, fun ac wd hS => ?_⟩
          refine ord_nil ?_
          refine wpT_lin ?_
          refine St.ord1 4 [100] [5, 45, 53, 55] [0, 2, 3] hS rfl fun _ => seg [(49, .agg #[sc g u n cp, vi rf])] [(0, none), (1, none), (2, none), (3, none)] [.e wb, .e wb] trivial ⟨by as_aux_lemma => kernel_rfl, fun ac wd hS => ?_⟩
          refine hS.ordC 11 81 #[.agg #[sc g u n cp, vi rf], .agg #[vi o_, vi z], vi 0, .string qs] (ref04_Put g u n cp rf o_ z 0 qs m _ (hS.mem.get 0 g (.fn u (u + n) (strs (pgS m) u))) (by first | assumption | omega | (simp_all; done) | (simp_all; omega)) (by first | assumption | omega | (simp_all; done) | (simp_all; omega)) (by first | assumption | omega | (simp_all; done) | (simp_all; omega))) ?_
          rintro _ wd ⟨g259, u260, cp261, rfl, hog0, hoh0, hF⟩
          have ho62 : g259 = g ∨ w.heap.size ≤ g259 := by rcases hog0 with hx | hx; rw [hx]; exact (.inl rfl); exact .inr (Nat.le_trans hS.mem.fr.size hx)
          refine ⟨.tuple #[.agg #[sc g259 u260 n cp261, vi rf], vi (vptE m o_ z 0 qs)], rfl, ?_⟩
          replace hS := (hS.to (hS.mem.outs hF [(g259, .fn u260 (u260 + n) (strs (pgS (vptM m o_ z 0 qs)) u260))] ⟨⟨rfl, hoh0, hog0.imp (fun e => ⟨0, .fn u (u + n) (strs (pgS m) u), by rw [e]; rfl, rfl⟩) id⟩, trivial⟩)).put (d := 56) (v := .tuple #[.agg #[sc g259 u260 n cp261, vi rf], vi (vptE m o_ z 0 qs)]) (by decide)
          clear hF
          refine hS.ordV (l := [0, 2, 3]) ?_
          refine St.ordF [0, 0, 0, 0, 0] [12, 13, 14, 15, 16] [5] (rest := [(17, 0), (18, 1)]) hS hap <| segF [(57, .agg #[sc g259 u260 n cp261, vi rf]), (58, vi (vptE m o_ z 0 qs)), (60, pt wb 4)] [] trivial fun ac hS => ?_
          refine St.ord1 17 [100] [5, 58] [0, 2, 3] hS rfl fun _ => seg [] [(0, none), (1, some (wb, .cells [pt b 0, pt b 0, vi o_, vi z, sc g259 u260 n cp261, vi rf, vi o_, vi z] 63)), (2, none), (3, none), (4, none)] [.e wb, .e wb] trivial ⟨by as_aux_lemma => kernel_rfl, fun ac wd hS => ?_⟩
          refine St.ordF [0] [18] [5] (rest := []) hS hap <| segF [(6, vi (vptE m o_ z 0 qs))] [] trivial fun ac hS => ?_
          refine ord_nil ?_
          refine pop_block ?_
          refine pop_then ?_
          refine hS.regS [0, 0, fx 0 (vb true), 0] [] fun _ => seg [(4, vb true)] [(1, none), (4, none)] [.p ((vb (((vptE m o_ z 0 qs) : Int) == (vptE m o_ z 0 qs)) : Value) = vb true)] ⟨(congrArg Value.bool (beq_self_eq_true _)), trivial⟩ fun ac wd hS => ?_
          refine wp_ret ?_
          refine St.retC 0 hS (vb true) [] trivial fun hw => ?_
          refine ⟨(vptM m o_ z 0 qs), o_, z, g259, u260, cp261, F54, retd rfl, ?_, (hw.res 0), (hw.wins 0 (show _ = some (wb, .cells [pt b 0, pt b 0, vi o_, vi z, sc g259 u260 n cp261, vi rf, vi o_, vi z] 63) by as_aux_lemma => kernel_rfl)), (hw.get 0 wb (.cells [pt b 0, pt b 0, vi o_, vi z, sc g259 u260 n cp261, vi rf, vi o_, vi z] 63)), ho62, (hw.get 1 g259 (.fn u260 (u260 + n) (strs (pgS (vptM m o_ z 0 qs)) u260))), (fun q_ => hw.free (g259, .fn u260 (u260 + n) (strs (pgS (vptM m o_ z 0 qs)) u260)) (List.mem_of_getElem? (i := 1) (by as_aux_lemma => kernel_rfl)) (.inl q_)), hw.fr0⟩
          all_goals (first | rfl | exact ⟨rfl, ho⟩ | exact ⟨decM_cap _ _ _, ho⟩ | exact ⟨vptM_cap, ho⟩ | exact ⟨vfiM_cap, ho⟩ | exact ⟨vstM_cap, ho⟩ | exact ⟨vcpM_cap, ho⟩ | exact ⟨rfl, wi_z ho hpw⟩)

end Go.Proofs.YtdjhdcaanmkblaaDoor.K
