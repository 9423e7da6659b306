/-
  Walks, printed by w2.py.
-/
import Derived.Test.YtnbkafnikpbmbaaDoorVy
import Derived.Test.YtnbkafnikpbmbaaDoorLj
import Derived.Test.YtnbkafnikpbmbaaDoorOz
import Derived.Test.YtnbkafnikpbmbaaDoorProg
namespace Go.Proofs.YtnbkafnikpbmbaaDoor.K
set_option linter.unusedVariables false
set_option linter.unusedSimpArgs false

set_option maxRecDepth 100000 in
set_option maxHeartbeats 1000000 in
theorem law03_LightR (ao9 : Option Addr) (c9 : Nat) (g9 : Nat) (o9 : Nat) (l : List (Int × Int × Int × Int × Int × ByteArray)) (w : World) (hh0 : HE.holds w g9 (.fn o9 (o9 + l.length * 6) (a3V (gtD l) o9))) (hv9 : (l.length = 0 ∨ ao9 = some ⟨g9, o9, none⟩)) :
    Calls Tryd.prog 25 #[.slice ao9 l.length c9] w fun e w' => ∃ (r2 : Bool), e = .returned (vb r2) ∧ (r2 = true → l.length ≤ 50 ∧ ∀ i, i < l.length → (gtD l i).2.2.2.2.2.size ≤ 6000) ∧ Fr w w' no no := by
 refine enter (args := [.slice ao9 l.length c9]) (D := no) (A := []) Tryd.func25 rfl 21 rfl [(g9, .fn o9 (o9 + l.length * 6) (a3V (gtD l) o9))] (WS.startL ⟨⟨rfl, hh0⟩, trivial⟩) fun ac hS => ?_
 refine hS.regS [0] [0] fun _ => seg [] [(0, none)] [] trivial fun ac wd hS => ?_
 refine wp_seq ?_
 refine hS.regS [0, 0, 0] [] fun _ => seg [(5, .slice ao9 l.length c9), (6, vi ((l.length : Nat) : Int)), (7, vi 0)] [(0, none)] [] trivial fun ac wd hS => ?_
 refine wp_block ?_
 refine St.loopC (σ := Int) (fun (x7 : Int) => ⟨[(5, [], .slice ao9 l.length c9), (6, [], vi ((l.length : Nat) : Int)), (7, [], vi x7)], [(g9, .fn o9 (o9 + l.length * 6) (a3V (gtD l) o9))], [], (0 ≤ x7 ∧ x7 ≤ ((l.length : Nat) : Int)) ∧ (x7 ≤ 50) ∧ (∀ k : Nat, (k : Int) < x7 → k < l.length → (gtD l k).2.2.2.2.2.size ≤ 6000) ∧ True, l.length - Int.toNat x7⟩) 0 ⟨(by omega), (by omega), (by intro k_ hk_; omega), trivial⟩ hS ?_
 clear hS
 rintro x7 ⟨i0, i2, i3, -⟩ ac wd hS
 replace i0 : 0 ≤ x7 ∧ x7 ≤ ((l.length : Nat) : Int) := i0
 replace i2 : x7 ≤ 50 := i2
 replace i3 : ∀ k : Nat, (k : Int) < x7 → k < l.length → (gtD l k).2.2.2.2.2.size ≤ 6000 := i3
 refine hS.regS [0] [5, 6, 7] fun _ => seg [(8, vb (decide ((x7 : Int) < ((l.length : Nat) : Int))))] [(0, none)] [] trivial fun ac wd hS => ?_
 refine wp_seq ?_
 refine hS.condC (decide ((x7 : Int) < ((l.length : Nat) : Int))) (fun hb1o hb1 => ?_) (fun hb1o hb1 => ?_)
 ·
  refine wp_skip ?_
  refine pop_then ?_
  refine wp_seq ?_
  refine wp_block ?_
  obtain rfl : ao9 = some ⟨g9, o9, none⟩ := Or.resolve_left hv9 (by omega)
  refine hS.regS [0, 20, fx 0 (.agg #[v8 (((gtD l) (Int.toNat x7)).1), vi (((gtD l) (Int.toNat x7)).2.1), vi (((gtD l) (Int.toNat x7)).2.2.1), vi (((gtD l) (Int.toNat x7)).2.2.2.1), vu (((gtD l) (Int.toNat x7)).2.2.2.2.1), .string (((gtD l) (Int.toNat x7)).2.2.2.2.2)]), 0, 0, 100] [5, 6, 7] fun ν4 => seg [(3, vi x7), (4, pt (ν4 0) 0)] [(0, none), (1, some ((ν4 0), .cells [v8 (((gtD l) (Int.toNat x7)).1), vi (((gtD l) (Int.toNat x7)).2.1), vi (((gtD l) (Int.toNat x7)).2.2.1), vi (((gtD l) (Int.toNat x7)).2.2.2.1), vu (((gtD l) (Int.toNat x7)).2.2.2.2.1), .string (((gtD l) (Int.toNat x7)).2.2.2.2.2)] 62))] [.e (ν4 0), .e (ν4 0), .e (ν4 0), .e (ν4 0), .e (ν4 0), .e (ν4 0), .p ((.agg #[((a3V (gtD l) o9) (o9 + Int.toNat x7 * 6)), ((a3V (gtD l) o9) (o9 + Int.toNat x7 * 6 + 1)), ((a3V (gtD l) o9) (o9 + Int.toNat x7 * 6 + 2)), ((a3V (gtD l) o9) (o9 + Int.toNat x7 * 6 + 3)), ((a3V (gtD l) o9) (o9 + Int.toNat x7 * 6 + 4)), ((a3V (gtD l) o9) (o9 + Int.toNat x7 * 6 + 5))] : Value) = .agg #[v8 (((gtD l) (Int.toNat x7)).1), vi (((gtD l) (Int.toNat x7)).2.1), vi (((gtD l) (Int.toNat x7)).2.2.1), vi (((gtD l) (Int.toNat x7)).2.2.2.1), vu (((gtD l) (Int.toNat x7)).2.2.2.2.1), .string (((gtD l) (Int.toNat x7)).2.2.2.2.2)]), .e g9, .p (o9 ≤ o9 + Int.toNat x7 * 6 + 5 ∧ o9 + Int.toNat x7 * 6 + 5 < (o9 + l.length * 6)), .e g9, .p (o9 ≤ o9 + Int.toNat x7 * 6 + 4 ∧ o9 + Int.toNat x7 * 6 + 4 < (o9 + l.length * 6)), .e g9, .p (o9 ≤ o9 + Int.toNat x7 * 6 + 3 ∧ o9 + Int.toNat x7 * 6 + 3 < (o9 + l.length * 6)), .e g9, .p (o9 ≤ o9 + Int.toNat x7 * 6 + 2 ∧ o9 + Int.toNat x7 * 6 + 2 < (o9 + l.length * 6)), .e g9, .p (o9 ≤ o9 + Int.toNat x7 * 6 + 1 ∧ o9 + Int.toNat x7 * 6 + 1 < (o9 + l.length * 6)), .e g9, .p (o9 ≤ o9 + Int.toNat x7 * 6 ∧ o9 + Int.toNat x7 * 6 < (o9 + l.length * 6)), .p ((0 : Int) ≤ x7 ∧ (x7 : Int) < ((l.length : Nat) : Int))] ⟨(agg6 (a3V_0 (gtD l) o9 (Int.toNat x7)) (a3V_1 (gtD l) o9 (Int.toNat x7)) (a3V_2 (gtD l) o9 (Int.toNat x7)) (a3V_3 (gtD l) o9 (Int.toNat x7)) (a3V_4 (gtD l) o9 (Int.toNat x7)) (a3V_5 (gtD l) o9 (Int.toNat x7))), (by omega), (by omega), (by omega), (by omega), (by omega), (by omega), (by omega), trivial⟩ fun ac wd hS => ?_
  refine hS.regS [0, 0, 0, 3, 103, 3, 3, 80] [5, 6, 7] fun _ => seg [(19, vb ((decide ((50 : Int) ≤ x7)) || (decide ((6000 : Int) < ((ByteArray.size (((gtD l) (Int.toNat x7)).2.2.2.2.2) : Nat) : Int)))))] [(0, none)] [.p ((((decide ((50 : Int) ≤ x7)) = false) ∧ True) → AllP [((ν4 0) : Nat) = (ν4 0)])] ⟨(fun ⟨hc0, _⟩ => by replace hc0 := nrm hc0; exact ⟨rfl, trivial⟩), trivial⟩ fun ac wd hS => ?_
  refine hS.condC ((decide ((50 : Int) ≤ x7)) || (decide ((6000 : Int) < ((ByteArray.size (((gtD l) (Int.toNat x7)).2.2.2.2.2) : Nat) : Int)))) (fun hb2o hb2 => ?_) (fun hb2o hb2 => ?_)
  ·
   refine hS.regS [0] [] fun _ => seg [(2, vb false)] [] [] trivial fun ac wd hS => ?_
   refine wp_ret ?_
   refine pop_block_ret ?_
   refine pop_then_ret ?_
   refine pop_then_ret ?_
   refine pop_block_ret ?_
   refine pop_then_ret ?_
   refine St.retC 0 hS (vb false) [] trivial fun hw => ?_
   refine ⟨false, retd rfl, ?_, hw.fr0⟩
   all_goals (first | rfl | (intro h_; exact absurd h_ (by decide)) | exact fun _ => ⟨by omega, fun i_ hi_ => i3 i_ (by omega) hi_⟩)
  ·
   refine wp_skip ?_
   refine pop_block ?_
   refine pop_then ?_
   refine hS.regC [20, 0] [5, 6] fun _ => seg [(7, vi (x7 + 1))] [(0, none)] [.p (fit .i64 (x7 + 1))] ⟨fit_i64 (by omega), trivial⟩ fun ac wd hS => ?_
   exact pop_then (hS.next (x7 + 1) ⟨(by first | omega | assumption | (simp; done) | (simp; omega)), (by first | omega | assumption | (simp; done) | (simp; omega)), (by exact fun k_ h1_ h2_ => by rcases Int.lt_or_le (k_ : Int) x7 with h3 | h3; exact i3 k_ h3 h2_; rw [show k_ = Int.toNat x7 by omega]; omega), trivial⟩ (by dsimp only; omega))
 ·
  refine wp_exit ?_
  refine pop_then_exit ?_
  refine pop_then_exit ?_
  refine pop_block_hit ?_
  refine pop_then ?_
  refine hS.regS [0] [] fun _ => seg [(2, vb true)] [] [] trivial fun ac wd hS => ?_
  refine wp_ret ?_
  refine St.retC 0 hS (vb true) [] trivial fun hw => ?_
  refine ⟨true, retd rfl, ?_, hw.fr0⟩
  all_goals (first | rfl | (intro h_; exact absurd h_ (by decide)) | exact fun _ => ⟨by omega, fun i_ hi_ => i3 i_ (by omega) hi_⟩)

set_option maxRecDepth 100000 in
set_option maxHeartbeats 1000000 in
theorem law04_do0 (b : Nat) (F : Nat → Prop) (m : AM) (wb : Nat) (qd : Int) (qa : Int) (qf : Int) (qn : Int) (qx : Int) (qs : ByteArray) (o_ : Int) (z : Int) (g : Nat) (u : Nat) (cp : Nat) (rf : Int) (S : Nat → ByteArray) (w : World) (hr : (arR b F m).R w) (hm : HE.holds w wb (.cells [pt b 0, pt b 0, vi o_, vi z, sc g u 0 cp, vi rf, vi 0, vi 0] 117)) (hh0 : HE.holds w g (.fn u (u + 0) (strs S u))) (hf0 : ¬ F g) (hfs : ¬ F wb) (hu0 : ¬ K.one wb g) (ho : 0 ≤ o_ ∧ 0 ≤ z ∧ o_ + z ≤ 4294967296) (hd : 1 < qd % 10) (hr : (0 ≤ qd ∧ qd ≤ 255) ∧ (-9223372036854775808 ≤ qa ∧ qa ≤ 9223372036854775807) ∧ (-9223372036854775808 ≤ qf ∧ qf ≤ 9223372036854775807) ∧ (-9223372036854775808 ≤ qn ∧ qn ≤ 9223372036854775807) ∧ (0 ≤ qx ∧ qx ≤ 18446744073709551615) ∧ qs.size ≤ 6000) :
    Calls Tryd.prog 59 #[pt wb 0, .agg #[v8 qd, vi qa, vi qf, vi qn, vu qx, .string qs]] w fun e w' => ∃ (m2 : AM) (r2 : Bool) (F' : Nat → Prop), e = .returned (vb r2) ∧ (∀ m0 : AM, VA m0 o_ z m → VA m0 o_ z m2) ∧ (arR b F' m2).R w' ∧ Wins w F F' ∧ HE.holds w' wb (.cells [pt b 0, pt b 0, vi o_, vi z, sc g u 0 cp, vi rf, vi 0, vi 0] 117) ∧ Fr w w' (orF F (K.one wb)) no := by
 obtain ⟨hr1, hr2, hr3, hr4, hr5, hr6⟩ := hr
 refine enter (args := [pt wb 0, .agg #[v8 qd, vi qa, vi qf, vi qn, vu qx, .string qs]]) (D := (orF F (K.one wb))) (A := [arR b F m]) Tryd.func59 rfl 367 rfl [(g, .fn u (u + 0) (strs S u)), (wb, .cells [pt b 0, pt b 0, vi o_, vi z, sc g u 0 cp, vi rf, vi 0, vi 0] 117)] (WS.startAM (H := [(g, .fn u (u + 0) (strs S u))]) (r := arR b F m) hr hm ⟨⟨rfl, hh0⟩, trivial⟩ ⟨hu0, trivial⟩ ⟨hf0, trivial⟩ hfs) fun ac hS => ?_
 refine hS.regS [0, 0] [0] fun ν1 => seg [(3, pt (ν1 0) 0)] [(0, none), (1, none), (2, some ((ν1 0), .cells [v8 qd, vi qa, vi qf, vi qn, vu qx, .string qs] 62))] [] trivial fun ac wd hS => ?_
 refine hS.regS [0, 0] [0, 3] fun _ => seg [(5, vi 0), (6, vi 0)] [(0, none), (1, none), (2, none)] [] trivial fun ac wd hS => ?_
 refine wp_seq ?_
 refine hS.regS [0, 200, 20] [0, 3, 5, 6] fun _ => seg [(22, v8 (qd % 10))] [(0, none), (1, none), (2, none)] [.p ((10 : Int) ≠ 0 ∧ Int.tmod qd 10 = qd % 10), .e (ν1 0)] ⟨rem2 (by omega) (by omega), trivial⟩ fun ac wd hS => ?_
 refine wp_block ?_
 refine hS.regS [0, 0] [0, 3, 5, 6, 22] fun _ => seg [(61, vb (((qd % 10) : Int) == 0))] [(0, none), (1, none), (2, none)] [] trivial fun ac wd hS => ?_
 refine hS.condK (((qd % 10) : Int) == 0) false (by exact beq_eq_false_iff_ne.2 (by omega)) ?_
 show Code.wp _ _ _ _ _
 refine hS.regS [0, 0] [0, 3, 22] fun _ => seg [(127, vb (((qd % 10) : Int) == 1))] [(0, none), (1, none), (2, none)] [] trivial fun ac wd hS => ?_
 refine hS.condK (((qd % 10) : Int) == 1) false (by exact beq_eq_false_iff_ne.2 (by omega)) ?_
 show Code.wp _ _ _ _ _
 refine hS.regS [0, 0] [0, 3, 22] fun _ => seg [(154, vb (((qd % 10) : Int) == 3))] [(0, none), (1, none), (2, none)] [] trivial fun ac wd hS => ?_
 refine hS.condC (((qd % 10) : Int) == 3) (fun hb1o hb1 => ?_) (fun hb1o hb1 => ?_)
 ·
  refine St.ordBeginS [(0, 1), (1, 1), (2, 1), (3, 1), (4, 1), (5, 1), (6, 1), (7, 1), (8, 0), (9, 1), (10, 1), (11, 1), (12, 1), (13, 1)] [(g, .fn u (u + 0) (strs S u)), (wb, .cells [pt b 0, pt b 0, vi o_, vi z, sc g u 0 cp, vi rf, vi 0, vi 0] 117), ((ν1 0), .cells [v8 qd, vi qa, vi qf, vi qn, vu qx, .string qs] 62)] [0, 1, 2] hS fun wd hS => ?_
  have hap := hS.mem.pairs (Hf := [(g, .fn u (u + 0) (strs S u)), (wb, .cells [pt b 0, pt b 0, vi o_, vi z, sc g u 0 cp, vi rf, vi 0, vi 0] 117), ((ν1 0), .cells [v8 qd, vi qa, vi qf, vi qn, vu qx, .string qs] 62)]) (l := [0, 1, 2])
  refine St.ordF [0, 0, 0, 100, 0, 200, 0, 200] [0, 1, 2, 3, 4, 5, 6, 7] [0, 3] (rest := [(8, 0), (9, 1), (10, 1), (11, 1), (12, 1), (13, 1)]) hS hap <| segF [(160, .agg #[pt b 0, vi o_, vi z]), (162, vi qa), (164, vi qn)] [.e (ν1 0), .e (ν1 0), .e wb, .e wb, .e wb] trivial fun ac hS => ?_
  refine hS.ordC 8 132 #[.agg #[pt b 0, vi o_, vi z], vi qa, vi qn] (vw_Load b F m o_ z qa qn _ (hS.mem.res 0) (by first | assumption | omega | (simp_all; done) | (simp_all; omega))) ?_
  rintro _ wd ⟨rfl, hF⟩
  refine ⟨.tuple #[vu (vldV m o_ z qa qn), vi (vldE m o_ z qa qn)], rfl, ?_⟩
  replace hS := (hS.to (hS.mem.keep0 hF)).put (d := 165) (v := .tuple #[vu (vldV m o_ z qa qn), vi (vldE m o_ z qa qn)]) (by decide)
  clear hF
  refine hS.ordV (l := [0, 1, 2]) ?_
  refine St.ordF [0, 0, 0, 0, 0] [9, 10, 11, 12, 13] [0, 3] (rest := []) hS hap <| segF [(11, vu (vldV m o_ z qa qn)), (12, vi (vldE m o_ z qa qn))] [] trivial fun ac hS => ?_
  refine ord_nil ?_
  refine St.ordBeginS [(0, 1), (1, 1), (2, 1), (3, 1), (4, 1), (5, 1), (6, 1), (7, 1), (8, 1), (9, 1), (10, 1), (11, 1), (12, 0), (13, 1), (14, 1), (15, 1), (16, 1), (17, 1)] [(g, .fn u (u + 0) (strs S u)), (wb, .cells [pt b 0, pt b 0, vi o_, vi z, sc g u 0 cp, vi rf, vi 0, vi 0] 117), ((ν1 0), .cells [v8 qd, vi qa, vi qf, vi qn, vu qx, .string qs] 62)] [0, 1, 2] hS fun wd hS => ?_
  have hap := hS.mem.pairs (Hf := [(g, .fn u (u + 0) (strs S u)), (wb, .cells [pt b 0, pt b 0, vi o_, vi z, sc g u 0 cp, vi rf, vi 0, vi 0] 117), ((ν1 0), .cells [v8 qd, vi qa, vi qf, vi qn, vu qx, .string qs] 62)]) (l := [0, 1, 2])
  refine St.ordF [0, 0, 0, 100, 0, 0, 0, 100, 0, 200, 0, 200] [0, 1, 2, 3, 4, 5, 6, 7, 8, 9, 10, 11] [11, 12] (rest := [(12, 0), (13, 1), (14, 1), (15, 1), (16, 1), (17, 1)]) hS hap <| segF [(172, .agg #[sc g u 0 cp, vi rf]), (176, .agg #[vi 0, vi 0]), (178, vi qa), (180, vi qn)] [.e (ν1 0), .e (ν1 0), .e wb, .e wb, .e wb, .e wb] trivial fun ac hS => ?_
  refine hS.ordC 12 143 #[.agg #[sc g u 0 cp, vi rf], .agg #[vi 0, vi 0], vi qa, vi qn] (ref04_Load0 g u cp rf qa qn S _ (hS.mem.get 0 g (.fn u (u + 0) (strs S u))) ) ?_
  rintro _ wd ⟨x22, e23, rfl, hF⟩
  refine ⟨.tuple #[vu x22, vi e23], rfl, ?_⟩
  replace hS := (hS.to (hS.mem.keep0 hF)).put (d := 181) (v := .tuple #[vu x22, vi e23]) (by decide)
  clear hF
  refine hS.ordV (l := [0, 1, 2]) ?_
  refine St.ordF [0, 0, 0, 0, 0] [13, 14, 15, 16, 17] [11, 12] (rest := []) hS hap <| segF [(13, vu x22), (14, vi e23)] [] trivial fun ac hS => ?_
  refine ord_nil ?_
  refine hS.regS [0, 0, 0, 0, 3, 3, 3, 80, 0] [] fun _ => seg [(4, vb ((((vldV m o_ z qa qn) : Int) == x22) && (((vldE m o_ z qa qn) : Int) == e23)))] [(1, none)] [] trivial fun ac wd hS => ?_
  refine wp_ret ?_
  refine pop_block_ret ?_
  refine pop_then_ret ?_
  refine St.retC 0 hS (vb ((((vldV m o_ z qa qn) : Int) == x22) && (((vldE m o_ z qa qn) : Int) == e23))) [] trivial fun hw => ?_
  refine ⟨m, ((((vldV m o_ z qa qn) : Int) == x22) && (((vldE m o_ z qa qn) : Int) == e23)), F, retd rfl, ?_, (hw.res 0), (hw.wins 0 (show _ = some (wb, .cells [pt b 0, pt b 0, vi o_, vi z, sc g u 0 cp, vi rf, vi 0, vi 0] 117) by as_aux_lemma => kernel_rfl)), (hw.get 0 wb (.cells [pt b 0, pt b 0, vi o_, vi z, sc g u 0 cp, vi rf, vi 0, vi 0] 117)), hw.fr0⟩
  all_goals (first | rfl | exact fun _ h_ => h_ | exact fun _ h_ => h_.vst ho.1 _ _ _ | exact fun _ h_ => h_.vpt ho.1 _ _ | exact fun _ h_ => h_.vfi ho.1 _ _ _ | exact fun _ h_ => h_.vcp ho.1 _ _ _)
 ·
  refine hS.regS [0, 0] [0, 3, 22] fun _ => seg [(192, vb (((qd % 10) : Int) == 4))] [(0, none), (1, none), (2, none)] [] trivial fun ac wd hS => ?_
  refine hS.condC (((qd % 10) : Int) == 4) (fun hb4o hb4 => ?_) (fun hb4o hb4 => ?_)
  ·
   refine St.ordBeginS [(0, 1), (1, 1), (2, 1), (3, 1), (4, 1), (5, 1), (6, 1), (7, 1), (8, 1), (9, 1), (10, 0), (11, 1)] [(g, .fn u (u + 0) (strs S u)), (wb, .cells [pt b 0, pt b 0, vi o_, vi z, sc g u 0 cp, vi rf, vi 0, vi 0] 117), ((ν1 0), .cells [v8 qd, vi qa, vi qf, vi qn, vu qx, .string qs] 62)] [0, 1, 2] hS fun wd hS => ?_
   have hap := hS.mem.pairs (Hf := [(g, .fn u (u + 0) (strs S u)), (wb, .cells [pt b 0, pt b 0, vi o_, vi z, sc g u 0 cp, vi rf, vi 0, vi 0] 117), ((ν1 0), .cells [v8 qd, vi qa, vi qf, vi qn, vu qx, .string qs] 62)]) (l := [0, 1, 2])
   refine St.ordF [0, 0, 0, 100, 0, 200, 0, 200, 0, 200] [0, 1, 2, 3, 4, 5, 6, 7, 8, 9] [0, 3] (rest := [(10, 0), (11, 1)]) hS hap <| segF [(197, .agg #[pt b 0, vi o_, vi z]), (199, vi qa), (201, vi qn), (203, vu qx)] [.e (ν1 0), .e (ν1 0), .e (ν1 0), .e wb, .e wb, .e wb] trivial fun ac hS => ?_
   refine hS.ordC 10 119 #[.agg #[pt b 0, vi o_, vi z], vi qa, vi qn, vu qx] (vw_Store b F m o_ z qa qn qx _ (hS.mem.res 0) (by first | assumption | omega | (simp_all; done) | (simp_all; omega))) ?_
   rintro _ wd ⟨F5, rfl, hA, hF⟩
   refine ⟨vi (vstE m o_ z qa qn), rfl, ?_⟩
   replace hS := (hS.to (hS.mem.stepA 0 rfl hA hF)).put (d := 204) (v := vi (vstE m o_ z qa qn)) (by decide)
   clear hF
   refine hS.ordV (l := [0, 1, 2]) ?_
   refine St.ordF [0] [11] [0, 3] (rest := []) hS hap <| segF [(5, vi (vstE m o_ z qa qn))] [] trivial fun ac hS => ?_
   refine ord_nil ?_
   refine St.ordBegin [(0, 1), (1, 1), (2, 1), (3, 1), (4, 1), (5, 1), (6, 1), (7, 1), (8, 1), (9, 1), (10, 1), (11, 1), (12, 1), (13, 1), (14, 1), (15, 0), (16, 1), (17, 1), (18, 1), (19, 1), (20, 1), (21, 0), (22, 1)] [(g, .fn u (u + 0) (strs S u)), (wb, .cells [pt b 0, pt b 0, vi o_, vi z, sc g u 0 cp, vi rf, vi 0, vi 0] 117), ((ν1 0), .cells [v8 qd, vi qa, vi qf, vi qn, vu qx, .string qs] 62)] [0, 1, 2] hS fun wd hS => ?_
   have hap := hS.mem.pairs (Hf := [(g, .fn u (u + 0) (strs S u)), (wb, .cells [pt b 0, pt b 0, vi o_, vi z, sc g u 0 cp, vi rf, vi 0, vi 0] 117), ((ν1 0), .cells [v8 qd, vi qa, vi qf, vi qn, vu qx, .string qs] 62)]) (l := [0, 1, 2])
   refine St.ordF [0, 0, 0, 0, 100, 0, 0, 0, 100, 0, 200, 0, 200, 0, 200] [0, 1, 2, 3, 4, 5, 6, 7, 8, 9, 10, 11, 12, 13, 14] [5] (rest := [(15, 0), (16, 1), (17, 1), (18, 1), (19, 1), (20, 1), (21, 0), (22, 1)]) hS hap <| segF [(206, pt wb 0), (210, .agg #[sc g u 0 cp, vi rf]), (214, .agg #[vi 0, vi 0]), (216, vi qa), (218, vi qn), (220, vu qx)] [.e (ν1 0), .e (ν1 0), .e (ν1 0), .e wb, .e wb, .e wb, .e wb] trivial fun ac hS => ?_
   refine hS.ordC 15 144 #[.agg #[sc g u 0 cp, vi rf], .agg #[vi 0, vi 0], vi qa, vi qn, vu qx] (ref04_Store0 g u cp rf qa qn qx S _ (hS.mem.get 0 g (.fn u (u + 0) (strs S u))) (by omega) (by omega)) ?_
   rintro _ wd ⟨e26, rfl, hF⟩
   refine ⟨.tuple #[.agg #[sc g u 0 cp, vi rf], vi e26], rfl, ?_⟩
   replace hS := (hS.to (hS.mem.keep0 hF)).put (d := 221) (v := .tuple #[.agg #[sc g u 0 cp, vi rf], vi e26]) (by decide)
   clear hF
   refine hS.ordV (l := [0, 1, 2]) ?_
   refine St.ordF [0, 0, 0, 0, 0] [16, 17, 18, 19, 20] [5] (rest := [(21, 0), (22, 1)]) hS hap <| segF [(222, .agg #[sc g u 0 cp, vi rf]), (223, vi e26), (225, pt wb 4)] [] trivial fun ac hS => ?_
   refine St.ord1 21 [100] [5, 223] [0, 1, 2] hS rfl fun _ => seg [] [(0, none), (1, none), (2, none)] [.e wb, .e wb] trivial ⟨by as_aux_lemma => kernel_rfl, fun ac wd hS => ?_⟩
   refine St.ordF [0] [22] [5] (rest := []) hS hap <| segF [(6, vi e26)] [] trivial fun ac hS => ?_
   refine ord_nil ?_
   refine pop_block ?_
   refine pop_then ?_
   refine hS.regS [0, 0, 0, 0] [] fun _ => seg [(4, vb (((vstE m o_ z qa qn) : Int) == e26))] [(1, none)] [] trivial fun ac wd hS => ?_
   refine wp_ret ?_
   refine St.retC 0 hS (vb (((vstE m o_ z qa qn) : Int) == e26)) [] trivial fun hw => ?_
   refine ⟨(vstM m o_ z qa qn qx), (((vstE m o_ z qa qn) : Int) == e26), F5, retd rfl, ?_, (hw.res 0), (hw.wins 0 (show _ = some (wb, .cells [pt b 0, pt b 0, vi o_, vi z, sc g u 0 cp, vi rf, vi 0, vi 0] 117) by as_aux_lemma => kernel_rfl)), (hw.get 0 wb (.cells [pt b 0, pt b 0, vi o_, vi z, sc g u 0 cp, vi rf, vi 0, vi 0] 117)), hw.fr0⟩
   all_goals (first | rfl | exact fun _ h_ => h_ | exact fun _ h_ => h_.vst ho.1 _ _ _ | exact fun _ h_ => h_.vpt ho.1 _ _ | exact fun _ h_ => h_.vfi ho.1 _ _ _ | exact fun _ h_ => h_.vcp ho.1 _ _ _)
  ·
   refine hS.regS [0, 0] [0, 3, 22] fun _ => seg [(226, vb (((qd % 10) : Int) == 5))] [(0, none), (1, none), (2, none)] [] trivial fun ac wd hS => ?_
   refine hS.condC (((qd % 10) : Int) == 5) (fun hb7o hb7 => ?_) (fun hb7o hb7 => ?_)
   ·
    refine St.ordBeginS [(0, 1), (1, 1), (2, 1), (3, 1), (4, 1), (5, 1), (6, 1), (7, 1), (8, 0), (9, 1), (10, 1), (11, 1), (12, 1), (13, 1)] [(g, .fn u (u + 0) (strs S u)), (wb, .cells [pt b 0, pt b 0, vi o_, vi z, sc g u 0 cp, vi rf, vi 0, vi 0] 117), ((ν1 0), .cells [v8 qd, vi qa, vi qf, vi qn, vu qx, .string qs] 62)] [0, 1, 2] hS fun wd hS => ?_
    have hap := hS.mem.pairs (Hf := [(g, .fn u (u + 0) (strs S u)), (wb, .cells [pt b 0, pt b 0, vi o_, vi z, sc g u 0 cp, vi rf, vi 0, vi 0] 117), ((ν1 0), .cells [v8 qd, vi qa, vi qf, vi qn, vu qx, .string qs] 62)]) (l := [0, 1, 2])
    refine St.ordF [0, 0, 0, 100, 0, 200, 0, 200] [0, 1, 2, 3, 4, 5, 6, 7] [0, 3] (rest := [(8, 0), (9, 1), (10, 1), (11, 1), (12, 1), (13, 1)]) hS hap <| segF [(232, .agg #[pt b 0, vi o_, vi z]), (234, vi qa), (236, vi qn)] [.e (ν1 0), .e (ν1 0), .e wb, .e wb, .e wb] trivial fun ac hS => ?_
    refine hS.ordC 8 145 #[.agg #[pt b 0, vi o_, vi z], vi qa, vi qn] (vw_Bytes b F m o_ z qa qn _ (hS.mem.res 0) (by first | assumption | omega | (simp_all; done) | (simp_all; omega))) ?_
    rintro _ wd ⟨rfl, hF⟩
    refine ⟨.tuple #[.string (vbyS m o_ z qa qn), vi (vbyE m o_ z qa qn)], rfl, ?_⟩
    replace hS := (hS.to (hS.mem.keep0 hF)).put (d := 237) (v := .tuple #[.string (vbyS m o_ z qa qn), vi (vbyE m o_ z qa qn)]) (by decide)
    clear hF
    refine hS.ordV (l := [0, 1, 2]) ?_
    refine St.ordF [0, 0, 0, 0, 0] [9, 10, 11, 12, 13] [0, 3] (rest := []) hS hap <| segF [(15, .string (vbyS m o_ z qa qn)), (16, vi (vbyE m o_ z qa qn))] [] trivial fun ac hS => ?_
    refine ord_nil ?_
    refine St.ordBeginS [(0, 1), (1, 1), (2, 1), (3, 1), (4, 1), (5, 1), (6, 1), (7, 1), (8, 1), (9, 1), (10, 1), (11, 1), (12, 0), (13, 1), (14, 1), (15, 1), (16, 1), (17, 1)] [(g, .fn u (u + 0) (strs S u)), (wb, .cells [pt b 0, pt b 0, vi o_, vi z, sc g u 0 cp, vi rf, vi 0, vi 0] 117), ((ν1 0), .cells [v8 qd, vi qa, vi qf, vi qn, vu qx, .string qs] 62)] [0, 1, 2] hS fun wd hS => ?_
    have hap := hS.mem.pairs (Hf := [(g, .fn u (u + 0) (strs S u)), (wb, .cells [pt b 0, pt b 0, vi o_, vi z, sc g u 0 cp, vi rf, vi 0, vi 0] 117), ((ν1 0), .cells [v8 qd, vi qa, vi qf, vi qn, vu qx, .string qs] 62)]) (l := [0, 1, 2])
    refine St.ordF [0, 0, 0, 100, 0, 0, 0, 100, 0, 200, 0, 200] [0, 1, 2, 3, 4, 5, 6, 7, 8, 9, 10, 11] [15, 16] (rest := [(12, 0), (13, 1), (14, 1), (15, 1), (16, 1), (17, 1)]) hS hap <| segF [(244, .agg #[sc g u 0 cp, vi rf]), (248, .agg #[vi 0, vi 0]), (250, vi qa), (252, vi qn)] [.e (ν1 0), .e (ν1 0), .e wb, .e wb, .e wb, .e wb] trivial fun ac hS => ?_
    refine hS.ordC 12 146 #[.agg #[sc g u 0 cp, vi rf], .agg #[vi 0, vi 0], vi qa, vi qn] (ref04_Bytes0 g u cp rf qa qn S _ (hS.mem.get 0 g (.fn u (u + 0) (strs S u))) ) ?_
    rintro _ wd ⟨s28, e29, rfl, hF⟩
    refine ⟨.tuple #[.string s28, vi e29], rfl, ?_⟩
    replace hS := (hS.to (hS.mem.keep0 hF)).put (d := 253) (v := .tuple #[.string s28, vi e29]) (by decide)
    clear hF
    refine hS.ordV (l := [0, 1, 2]) ?_
    refine St.ordF [0, 0, 0, 0, 0] [13, 14, 15, 16, 17] [15, 16] (rest := []) hS hap <| segF [(17, .string s28), (18, vi e29)] [] trivial fun ac hS => ?_
    refine ord_nil ?_
    refine hS.regS [0, 0, 0, 0, 3, 3, 3, 80, 0] [] fun _ => seg [(4, vb ((ByteArray.toList (vbyS m o_ z qa qn) == ByteArray.toList s28) && (((vbyE m o_ z qa qn) : Int) == e29)))] [(1, none)] [] trivial fun ac wd hS => ?_
    refine wp_ret ?_
    refine pop_block_ret ?_
    refine pop_then_ret ?_
    refine St.retC 0 hS (vb ((ByteArray.toList (vbyS m o_ z qa qn) == ByteArray.toList s28) && (((vbyE m o_ z qa qn) : Int) == e29))) [] trivial fun hw => ?_
    refine ⟨m, ((ByteArray.toList (vbyS m o_ z qa qn) == ByteArray.toList s28) && (((vbyE m o_ z qa qn) : Int) == e29)), F, retd rfl, ?_, (hw.res 0), (hw.wins 0 (show _ = some (wb, .cells [pt b 0, pt b 0, vi o_, vi z, sc g u 0 cp, vi rf, vi 0, vi 0] 117) by as_aux_lemma => kernel_rfl)), (hw.get 0 wb (.cells [pt b 0, pt b 0, vi o_, vi z, sc g u 0 cp, vi rf, vi 0, vi 0] 117)), hw.fr0⟩
    all_goals (first | rfl | exact fun _ h_ => h_ | exact fun _ h_ => h_.vst ho.1 _ _ _ | exact fun _ h_ => h_.vpt ho.1 _ _ | exact fun _ h_ => h_.vfi ho.1 _ _ _ | exact fun _ h_ => h_.vcp ho.1 _ _ _)
   ·
    refine hS.regS [0, 0] [0, 3, 22] fun _ => seg [(264, vb (((qd % 10) : Int) == 6))] [(0, none), (1, none), (2, none)] [] trivial fun ac wd hS => ?_
    refine hS.condC (((qd % 10) : Int) == 6) (fun hb10o hb10 => ?_) (fun hb10o hb10 => ?_)
    ·
     refine St.ordBeginS [(0, 1), (1, 1), (2, 1), (3, 1), (4, 1), (5, 1), (6, 1), (7, 1), (8, 0), (9, 1)] [(g, .fn u (u + 0) (strs S u)), (wb, .cells [pt b 0, pt b 0, vi o_, vi z, sc g u 0 cp, vi rf, vi 0, vi 0] 117), ((ν1 0), .cells [v8 qd, vi qa, vi qf, vi qn, vu qx, .string qs] 62)] [0, 1, 2] hS fun wd hS => ?_
     have hap := hS.mem.pairs (Hf := [(g, .fn u (u + 0) (strs S u)), (wb, .cells [pt b 0, pt b 0, vi o_, vi z, sc g u 0 cp, vi rf, vi 0, vi 0] 117), ((ν1 0), .cells [v8 qd, vi qa, vi qf, vi qn, vu qx, .string qs] 62)]) (l := [0, 1, 2])
     refine St.ordF [0, 0, 0, 100, 0, 200, 0, 200] [0, 1, 2, 3, 4, 5, 6, 7] [0, 3] (rest := [(8, 0), (9, 1)]) hS hap <| segF [(269, .agg #[pt b 0, vi o_, vi z]), (271, vi qa), (273, .string qs)] [.e (ν1 0), .e (ν1 0), .e wb, .e wb, .e wb] trivial fun ac hS => ?_
     refine hS.ordC 8 147 #[.agg #[pt b 0, vi o_, vi z], vi qa, .string qs] (vw_Put b F m o_ z qa qs _ (hS.mem.res 0) (by first | assumption | omega | (simp_all; done) | (simp_all; omega))) ?_
     rintro _ wd ⟨F11, rfl, hA, hF⟩
     refine ⟨vi (vptE m o_ z qa qs), rfl, ?_⟩
     replace hS := (hS.to (hS.mem.stepA 0 rfl hA hF)).put (d := 274) (v := vi (vptE m o_ z qa qs)) (by decide)
     clear hF
     refine hS.ordV (l := [0, 1, 2]) ?_
     refine St.ordF [0] [9] [0, 3] (rest := []) hS hap <| segF [(5, vi (vptE m o_ z qa qs))] [] trivial fun ac hS => ?_
     refine ord_nil ?_
     refine St.ordBegin [(0, 1), (1, 1), (2, 1), (3, 1), (4, 1), (5, 1), (6, 1), (7, 1), (8, 1), (9, 1), (10, 1), (11, 1), (12, 1), (13, 0), (14, 1), (15, 1), (16, 1), (17, 1), (18, 1), (19, 0), (20, 1)] [(g, .fn u (u + 0) (strs S u)), (wb, .cells [pt b 0, pt b 0, vi o_, vi z, sc g u 0 cp, vi rf, vi 0, vi 0] 117), ((ν1 0), .cells [v8 qd, vi qa, vi qf, vi qn, vu qx, .string qs] 62)] [0, 1, 2] hS fun wd hS => ?_
     have hap := hS.mem.pairs (Hf := [(g, .fn u (u + 0) (strs S u)), (wb, .cells [pt b 0, pt b 0, vi o_, vi z, sc g u 0 cp, vi rf, vi 0, vi 0] 117), ((ν1 0), .cells [v8 qd, vi qa, vi qf, vi qn, vu qx, .string qs] 62)]) (l := [0, 1, 2])
     refine St.ordF [0, 0, 0, 0, 100, 0, 0, 0, 100, 0, 200, 0, 200] [0, 1, 2, 3, 4, 5, 6, 7, 8, 9, 10, 11, 12] [5] (rest := [(13, 0), (14, 1), (15, 1), (16, 1), (17, 1), (18, 1), (19, 0), (20, 1)]) hS hap <| segF [(276, pt wb 0), (280, .agg #[sc g u 0 cp, vi rf]), (284, .agg #[vi 0, vi 0]), (286, vi qa), (288, .string qs)] [.e (ν1 0), .e (ν1 0), .e wb, .e wb, .e wb, .e wb] trivial fun ac hS => ?_
     refine hS.ordC 13 148 #[.agg #[sc g u 0 cp, vi rf], .agg #[vi 0, vi 0], vi qa, .string qs] (ref04_Put0 g u cp rf qa qs S _ (hS.mem.get 0 g (.fn u (u + 0) (strs S u))) ) ?_
     rintro _ wd ⟨e212, rfl, hF⟩
     refine ⟨.tuple #[.agg #[sc g u 0 cp, vi rf], vi e212], rfl, ?_⟩
     replace hS := (hS.to (hS.mem.keep0 hF)).put (d := 289) (v := .tuple #[.agg #[sc g u 0 cp, vi rf], vi e212]) (by decide)
     clear hF
     refine hS.ordV (l := [0, 1, 2]) ?_
     refine St.ordF [0, 0, 0, 0, 0] [14, 15, 16, 17, 18] [5] (rest := [(19, 0), (20, 1)]) hS hap <| segF [(290, .agg #[sc g u 0 cp, vi rf]), (291, vi e212), (293, pt wb 4)] [] trivial fun ac hS => ?_
     refine St.ord1 19 [100] [5, 291] [0, 1, 2] hS rfl fun _ => seg [] [(0, none), (1, none), (2, none)] [.e wb, .e wb] trivial ⟨by as_aux_lemma => kernel_rfl, fun ac wd hS => ?_⟩
     refine St.ordF [0] [20] [5] (rest := []) hS hap <| segF [(6, vi e212)] [] trivial fun ac hS => ?_
     refine ord_nil ?_
     refine pop_block ?_
     refine pop_then ?_
     refine hS.regS [0, 0, 0, 0] [] fun _ => seg [(4, vb (((vptE m o_ z qa qs) : Int) == e212))] [(1, none)] [] trivial fun ac wd hS => ?_
     refine wp_ret ?_
     refine St.retC 0 hS (vb (((vptE m o_ z qa qs) : Int) == e212)) [] trivial fun hw => ?_
     refine ⟨(vptM m o_ z qa qs), (((vptE m o_ z qa qs) : Int) == e212), F11, retd rfl, ?_, (hw.res 0), (hw.wins 0 (show _ = some (wb, .cells [pt b 0, pt b 0, vi o_, vi z, sc g u 0 cp, vi rf, vi 0, vi 0] 117) by as_aux_lemma => kernel_rfl)), (hw.get 0 wb (.cells [pt b 0, pt b 0, vi o_, vi z, sc g u 0 cp, vi rf, vi 0, vi 0] 117)), hw.fr0⟩
     all_goals (first | rfl | exact fun _ h_ => h_ | exact fun _ h_ => h_.vst ho.1 _ _ _ | exact fun _ h_ => h_.vpt ho.1 _ _ | exact fun _ h_ => h_.vfi ho.1 _ _ _ | exact fun _ h_ => h_.vcp ho.1 _ _ _)
    ·
     refine hS.regS [0, 0] [0, 3, 22] fun _ => seg [(294, vb (((qd % 10) : Int) == 7))] [(0, none), (1, none), (2, none)] [] trivial fun ac wd hS => ?_
     refine hS.condC (((qd % 10) : Int) == 7) (fun hb13o hb13 => ?_) (fun hb13o hb13 => ?_)
     ·
      refine St.ordBeginS [(0, 1), (1, 1), (2, 1), (3, 1), (4, 1), (5, 1), (6, 1), (7, 1), (8, 1), (9, 1), (10, 1), (11, 0), (12, 1)] [(g, .fn u (u + 0) (strs S u)), (wb, .cells [pt b 0, pt b 0, vi o_, vi z, sc g u 0 cp, vi rf, vi 0, vi 0] 117), ((ν1 0), .cells [v8 qd, vi qa, vi qf, vi qn, vu qx, .string qs] 62)] [0, 1, 2] hS fun wd hS => ?_
      have hap := hS.mem.pairs (Hf := [(g, .fn u (u + 0) (strs S u)), (wb, .cells [pt b 0, pt b 0, vi o_, vi z, sc g u 0 cp, vi rf, vi 0, vi 0] 117), ((ν1 0), .cells [v8 qd, vi qa, vi qf, vi qn, vu qx, .string qs] 62)]) (l := [0, 1, 2])
      refine St.ordF [0, 0, 0, 100, 0, 200, 0, 200, 0, 200, 0] [0, 1, 2, 3, 4, 5, 6, 7, 8, 9, 10] [0, 3] (rest := [(11, 0), (12, 1)]) hS hap <| segF [(299, .agg #[pt b 0, vi o_, vi z]), (301, vi qa), (303, vi qn), (306, v8 (IntKind.wrap .u8 qx))] [.e (ν1 0), .e (ν1 0), .e (ν1 0), .e wb, .e wb, .e wb] trivial fun ac hS => ?_
      refine hS.ordC 11 149 #[.agg #[pt b 0, vi o_, vi z], vi qa, vi qn, v8 (IntKind.wrap .u8 qx)] (vw_Fill b F m o_ z qa qn (IntKind.wrap .u8 qx) _ (hS.mem.res 0) (by first | assumption | omega | (simp_all; done) | (simp_all; omega)) (by exact wrap_u8 _)) ?_
      rintro _ wd ⟨F14, rfl, hA, hF⟩
      refine ⟨vi (vbyE m o_ z qa qn), rfl, ?_⟩
      replace hS := (hS.to (hS.mem.stepA 0 rfl hA hF)).put (d := 307) (v := vi (vbyE m o_ z qa qn)) (by decide)
      clear hF
      refine hS.ordV (l := [0, 1, 2]) ?_
      refine St.ordF [0] [12] [0, 3] (rest := []) hS hap <| segF [(5, vi (vbyE m o_ z qa qn))] [] trivial fun ac hS => ?_
      refine ord_nil ?_
      refine St.ordBegin [(0, 1), (1, 1), (2, 1), (3, 1), (4, 1), (5, 1), (6, 1), (7, 1), (8, 1), (9, 1), (10, 1), (11, 1), (12, 1), (13, 1), (14, 1), (15, 1), (16, 0), (17, 1), (18, 1), (19, 1), (20, 1), (21, 1), (22, 0), (23, 1)] [(g, .fn u (u + 0) (strs S u)), (wb, .cells [pt b 0, pt b 0, vi o_, vi z, sc g u 0 cp, vi rf, vi 0, vi 0] 117), ((ν1 0), .cells [v8 qd, vi qa, vi qf, vi qn, vu qx, .string qs] 62)] [0, 1, 2] hS fun wd hS => ?_
      have hap := hS.mem.pairs (Hf := [(g, .fn u (u + 0) (strs S u)), (wb, .cells [pt b 0, pt b 0, vi o_, vi z, sc g u 0 cp, vi rf, vi 0, vi 0] 117), ((ν1 0), .cells [v8 qd, vi qa, vi qf, vi qn, vu qx, .string qs] 62)]) (l := [0, 1, 2])
      refine St.ordF [0, 0, 0, 0, 100, 0, 0, 0, 100, 0, 200, 0, 200, 0, 200, 0] [0, 1, 2, 3, 4, 5, 6, 7, 8, 9, 10, 11, 12, 13, 14, 15] [5] (rest := [(16, 0), (17, 1), (18, 1), (19, 1), (20, 1), (21, 1), (22, 0), (23, 1)]) hS hap <| segF [(309, pt wb 0), (313, .agg #[sc g u 0 cp, vi rf]), (317, .agg #[vi 0, vi 0]), (319, vi qa), (321, vi qn), (324, v8 (IntKind.wrap .u8 qx))] [.e (ν1 0), .e (ν1 0), .e (ν1 0), .e wb, .e wb, .e wb, .e wb] trivial fun ac hS => ?_
      refine hS.ordC 16 150 #[.agg #[sc g u 0 cp, vi rf], .agg #[vi 0, vi 0], vi qa, vi qn, v8 (IntKind.wrap .u8 qx)] (ref04_Fill0 g u cp rf qa qn (IntKind.wrap .u8 qx) S _ (hS.mem.get 0 g (.fn u (u + 0) (strs S u))) ) ?_
      rintro _ wd ⟨e215, rfl, hF⟩
      refine ⟨.tuple #[.agg #[sc g u 0 cp, vi rf], vi e215], rfl, ?_⟩
      replace hS := (hS.to (hS.mem.keep0 hF)).put (d := 325) (v := .tuple #[.agg #[sc g u 0 cp, vi rf], vi e215]) (by decide)
      clear hF
      refine hS.ordV (l := [0, 1, 2]) ?_
      refine St.ordF [0, 0, 0, 0, 0] [17, 18, 19, 20, 21] [5] (rest := [(22, 0), (23, 1)]) hS hap <| segF [(326, .agg #[sc g u 0 cp, vi rf]), (327, vi e215), (329, pt wb 4)] [] trivial fun ac hS => ?_
      refine St.ord1 22 [100] [5, 327] [0, 1, 2] hS rfl fun _ => seg [] [(0, none), (1, none), (2, none)] [.e wb, .e wb] trivial ⟨by as_aux_lemma => kernel_rfl, fun ac wd hS => ?_⟩
      refine St.ordF [0] [23] [5] (rest := []) hS hap <| segF [(6, vi e215)] [] trivial fun ac hS => ?_
      refine ord_nil ?_
      refine pop_block ?_
      refine pop_then ?_
      refine hS.regS [0, 0, 0, 0] [] fun _ => seg [(4, vb (((vbyE m o_ z qa qn) : Int) == e215))] [(1, none)] [] trivial fun ac wd hS => ?_
      refine wp_ret ?_
      refine St.retC 0 hS (vb (((vbyE m o_ z qa qn) : Int) == e215)) [] trivial fun hw => ?_
      refine ⟨(vfiM m o_ z qa qn (u8 (IntKind.wrap .u8 qx))), (((vbyE m o_ z qa qn) : Int) == e215), F14, retd rfl, ?_, (hw.res 0), (hw.wins 0 (show _ = some (wb, .cells [pt b 0, pt b 0, vi o_, vi z, sc g u 0 cp, vi rf, vi 0, vi 0] 117) by as_aux_lemma => kernel_rfl)), (hw.get 0 wb (.cells [pt b 0, pt b 0, vi o_, vi z, sc g u 0 cp, vi rf, vi 0, vi 0] 117)), hw.fr0⟩
      all_goals (first | rfl | exact fun _ h_ => h_ | exact fun _ h_ => h_.vst ho.1 _ _ _ | exact fun _ h_ => h_.vpt ho.1 _ _ | exact fun _ h_ => h_.vfi ho.1 _ _ _ | exact fun _ h_ => h_.vcp ho.1 _ _ _)
     ·
      refine hS.regS [0, 0] [0, 3] fun _ => seg [(330, vb (((qd % 10) : Int) == 8))] [(0, none), (1, none), (2, none)] [] trivial fun ac wd hS => ?_
      refine hS.condC (((qd % 10) : Int) == 8) (fun hb16o hb16 => ?_) (fun hb16o hb16 => ?_)
      ·
       refine St.ordBeginS [(0, 1), (1, 1), (2, 1), (3, 1), (4, 1), (5, 1), (6, 1), (7, 1), (8, 1), (9, 1), (10, 0), (11, 1)] [(g, .fn u (u + 0) (strs S u)), (wb, .cells [pt b 0, pt b 0, vi o_, vi z, sc g u 0 cp, vi rf, vi 0, vi 0] 117), ((ν1 0), .cells [v8 qd, vi qa, vi qf, vi qn, vu qx, .string qs] 62)] [0, 1, 2] hS fun wd hS => ?_
       have hap := hS.mem.pairs (Hf := [(g, .fn u (u + 0) (strs S u)), (wb, .cells [pt b 0, pt b 0, vi o_, vi z, sc g u 0 cp, vi rf, vi 0, vi 0] 117), ((ν1 0), .cells [v8 qd, vi qa, vi qf, vi qn, vu qx, .string qs] 62)]) (l := [0, 1, 2])
       refine St.ordF [0, 0, 0, 100, 0, 200, 0, 200, 0, 200] [0, 1, 2, 3, 4, 5, 6, 7, 8, 9] [0, 3] (rest := [(10, 0), (11, 1)]) hS hap <| segF [(335, .agg #[pt b 0, vi o_, vi z]), (337, vi qa), (339, vi qf), (341, vi qn)] [.e (ν1 0), .e (ν1 0), .e (ν1 0), .e wb, .e wb, .e wb] trivial fun ac hS => ?_
       refine hS.ordC 10 151 #[.agg #[pt b 0, vi o_, vi z], vi qa, vi qf, vi qn] (vw_Copy b F m o_ z qa qf qn _ (hS.mem.res 0) (by first | assumption | omega | (simp_all; done) | (simp_all; omega))) ?_
       rintro _ wd ⟨F17, rfl, hA, hF⟩
       refine ⟨vi (vcpE m o_ z qa qf qn), rfl, ?_⟩
       replace hS := (hS.to (hS.mem.stepA 0 rfl hA hF)).put (d := 342) (v := vi (vcpE m o_ z qa qf qn)) (by decide)
       clear hF
       refine hS.ordV (l := [0, 1, 2]) ?_
       refine St.ordF [0] [11] [0, 3] (rest := []) hS hap <| segF [(5, vi (vcpE m o_ z qa qf qn))] [] trivial fun ac hS => ?_
       refine ord_nil ?_
       refine St.ordBegin [(0, 1), (1, 1), (2, 1), (3, 1), (4, 1), (5, 1), (6, 1), (7, 1), (8, 1), (9, 1), (10, 1), (11, 1), (12, 1), (13, 1), (14, 1), (15, 0), (16, 1), (17, 1), (18, 1), (19, 1), (20, 1), (21, 0), (22, 1)] [(g, .fn u (u + 0) (strs S u)), (wb, .cells [pt b 0, pt b 0, vi o_, vi z, sc g u 0 cp, vi rf, vi 0, vi 0] 117), ((ν1 0), .cells [v8 qd, vi qa, vi qf, vi qn, vu qx, .string qs] 62)] [0, 1, 2] hS fun wd hS => ?_
       have hap := hS.mem.pairs (Hf := [(g, .fn u (u + 0) (strs S u)), (wb, .cells [pt b 0, pt b 0, vi o_, vi z, sc g u 0 cp, vi rf, vi 0, vi 0] 117), ((ν1 0), .cells [v8 qd, vi qa, vi qf, vi qn, vu qx, .string qs] 62)]) (l := [0, 1, 2])
       refine St.ordF [0, 0, 0, 0, 100, 0, 0, 0, 100, 0, 200, 0, 200, 0, 200] [0, 1, 2, 3, 4, 5, 6, 7, 8, 9, 10, 11, 12, 13, 14] [5] (rest := [(15, 0), (16, 1), (17, 1), (18, 1), (19, 1), (20, 1), (21, 0), (22, 1)]) hS hap <| segF [(344, pt wb 0), (348, .agg #[sc g u 0 cp, vi rf]), (352, .agg #[vi 0, vi 0]), (354, vi qa), (356, vi qf), (358, vi qn)] [.e (ν1 0), .e (ν1 0), .e (ν1 0), .e wb, .e wb, .e wb, .e wb] trivial fun ac hS => ?_
       refine hS.ordC 15 152 #[.agg #[sc g u 0 cp, vi rf], .agg #[vi 0, vi 0], vi qa, vi qf, vi qn] (ref04_Copy0 g u cp rf qa qf qn S _ (hS.mem.get 0 g (.fn u (u + 0) (strs S u))) ) ?_
       rintro _ wd ⟨e218, rfl, hF⟩
       refine ⟨.tuple #[.agg #[sc g u 0 cp, vi rf], vi e218], rfl, ?_⟩
       replace hS := (hS.to (hS.mem.keep0 hF)).put (d := 359) (v := .tuple #[.agg #[sc g u 0 cp, vi rf], vi e218]) (by decide)
       clear hF
       refine hS.ordV (l := [0, 1, 2]) ?_
       refine St.ordF [0, 0, 0, 0, 0] [16, 17, 18, 19, 20] [5] (rest := [(21, 0), (22, 1)]) hS hap <| segF [(360, .agg #[sc g u 0 cp, vi rf]), (361, vi e218), (363, pt wb 4)] [] trivial fun ac hS => ?_
       refine St.ord1 21 [100] [5, 361] [0, 1, 2] hS rfl fun _ => seg [] [(0, none), (1, none), (2, none)] [.e wb, .e wb] trivial ⟨by as_aux_lemma => kernel_rfl, fun ac wd hS => ?_⟩
       refine St.ordF [0] [22] [5] (rest := []) hS hap <| segF [(6, vi e218)] [] trivial fun ac hS => ?_
       refine ord_nil ?_
       refine pop_block ?_
       refine pop_then ?_
       refine hS.regS [0, 0, 0, 0] [] fun _ => seg [(4, vb (((vcpE m o_ z qa qf qn) : Int) == e218))] [(1, none)] [] trivial fun ac wd hS => ?_
       refine wp_ret ?_
       refine St.retC 0 hS (vb (((vcpE m o_ z qa qf qn) : Int) == e218)) [] trivial fun hw => ?_
       refine ⟨(vcpM m o_ z qa qf qn), (((vcpE m o_ z qa qf qn) : Int) == e218), F17, retd rfl, ?_, (hw.res 0), (hw.wins 0 (show _ = some (wb, .cells [pt b 0, pt b 0, vi o_, vi z, sc g u 0 cp, vi rf, vi 0, vi 0] 117) by as_aux_lemma => kernel_rfl)), (hw.get 0 wb (.cells [pt b 0, pt b 0, vi o_, vi z, sc g u 0 cp, vi rf, vi 0, vi 0] 117)), hw.fr0⟩
       all_goals (first | rfl | exact fun _ h_ => h_ | exact fun _ h_ => h_.vst ho.1 _ _ _ | exact fun _ h_ => h_.vpt ho.1 _ _ | exact fun _ h_ => h_.vfi ho.1 _ _ _ | exact fun _ h_ => h_.vcp ho.1 _ _ _)
      ·
       refine hS.regS [0, 200, 0, 200, 0, 0, 0, 0] [0, 3] fun _ => seg [(19, vi (imax 0 (imin qn ((ByteArray.size qs : Nat) : Int))))] [(0, none), (1, none), (2, none)] [.e (ν1 0), .e (ν1 0)] trivial fun ac wd hS => ?_
       obtain ⟨kk, kk_e⟩ : ∃ q_ : Int, q_ = (imax 0 (imin qn ((ByteArray.size qs : Nat) : Int))) := ⟨_, rfl⟩
       replace hS := hS.fix 19 (vi kk) (show (vi (imax 0 (imin qn ((ByteArray.size qs : Nat) : Int))) : Value) = vi kk by rw [kk_e])
       have hkk : 0 ≤ kk ∧ kk ≤ ((qs.size : Nat) : Int) := by rw [kk_e]; unfold imax imin; split <;> split <;> omega
       clear kk_e
       refine St.ordBeginS [(0, 1), (1, 1), (2, 1), (3, 1), (4, 1), (5, 1), (6, 1), (7, 1), (8, 1), (9, 1), (10, 1), (11, 1), (12, 0), (13, 0), (14, 1)] [(g, .fn u (u + 0) (strs S u)), (wb, .cells [pt b 0, pt b 0, vi o_, vi z, sc g u 0 cp, vi rf, vi 0, vi 0] 117), ((ν1 0), .cells [v8 qd, vi qa, vi qf, vi qn, vu qx, .string qs] 62)] [0, 1, 2] hS fun wd hS => ?_
       have hap := hS.mem.pairs (Hf := [(g, .fn u (u + 0) (strs S u)), (wb, .cells [pt b 0, pt b 0, vi o_, vi z, sc g u 0 cp, vi rf, vi 0, vi 0] 117), ((ν1 0), .cells [v8 qd, vi qa, vi qf, vi qn, vu qx, .string qs] 62)]) (l := [0, 1, 2])
       refine St.ordF [0, 0, 0, 100, 0, 200, 0, 10, 0, 200, 0, 10] [0, 1, 2, 3, 4, 5, 6, 7, 8, 9, 10, 11] [0, 3] (rest := [(12, 0), (13, 0), (14, 1)]) hS hap <| segF [(33, .agg #[pt b 0, vi o_, vi z]), (37, .string (ByteArray.extract qs (Int.toNat (0 : Int)) (Int.toNat kk))), (41, .string (ByteArray.extract qs (Int.toNat kk) (Int.toNat ((ByteArray.size qs : Nat) : Int))))] [.p (0 ≤ kk ∧ kk ≤ ((ByteArray.size qs : Nat) : Int) ∧ ((ByteArray.size qs : Nat) : Int) ≤ (ByteArray.size qs : Int)), .e (ν1 0), .p (0 ≤ (0 : Int) ∧ (0 : Int) ≤ kk ∧ kk ≤ (ByteArray.size qs : Int)), .e (ν1 0), .e wb, .e wb, .e wb] ⟨(by omega), (by omega), trivial⟩ fun ac hS => ?_
       refine St.ord1 12 [0] [0, 3, 33] [0, 1, 2] hS rfl fun ν23 => seg [(42, sc (ν23 0) 0 2 2)] [(0, none), (1, none), (2, none), (3, some ((ν23 0), .cells [.string (ByteArray.extract qs (Int.toNat (0 : Int)) (Int.toNat kk)), .string (ByteArray.extract qs (Int.toNat kk) (Int.toNat ((ByteArray.size qs : Nat) : Int)))] 9))] [] trivial ⟨by as_aux_lemma => kernel_rfl, fun ac wd hS => ?_⟩
       refine hS.ordC 13 153 #[.agg #[pt b 0, vi o_, vi z], sc (ν23 0) 0 2 2] (vw_Texts b F m o_ z (some ⟨(ν23 0), 0, none⟩) 2 (ν23 0) 0 ([(ByteArray.extract qs (Int.toNat (0 : Int)) (Int.toNat kk)), (ByteArray.extract qs (Int.toNat kk) (Int.toNat ((ByteArray.size qs : Nat) : Int)))]) _ (hS.mem.res 0) (HE.of_cells (hS.mem.get 3 (ν23 0) (.cells [.string (ByteArray.extract qs (Int.toNat (0 : Int)) (Int.toNat kk)), .string (ByteArray.extract qs (Int.toNat kk) (Int.toNat ((ByteArray.size qs : Nat) : Int)))] 9)) (by intro o_ ho_; (rcases o_ with _ | _ | o_; rfl; rfl; exact absurd ho_ (by simp)))) (hS.mem.nF (g := (ν23 0)) (r := arR b F m) 3 0) (by first | assumption | omega | (simp_all; done) | (simp_all; omega)) (.inr rfl) (by simp) (by exact Nat.le_refl 2) (by (rw [joinS_two, ByteArray.size_extract, ByteArray.size_extract]; omega))) ?_
       rintro _ wd ⟨F19, rfl, hA, hF⟩
       refine ⟨vi (vptE m o_ z 0 (joinS ([(ByteArray.extract qs (Int.toNat (0 : Int)) (Int.toNat kk)), (ByteArray.extract qs (Int.toNat kk) (Int.toNat ((ByteArray.size qs : Nat) : Int)))]))), rfl, ?_⟩
       replace hS := (hS.to (hS.mem.stepA 0 rfl hA hF)).put (d := 43) (v := vi (vptE m o_ z 0 (joinS ([(ByteArray.extract qs (Int.toNat (0 : Int)) (Int.toNat kk)), (ByteArray.extract qs (Int.toNat kk) (Int.toNat ((ByteArray.size qs : Nat) : Int)))])))) (by decide)
       clear hF
       refine hS.ordV (l := [0, 1, 2]) ?_
       refine St.ordF [0] [14] [0, 3] (rest := []) hS hap <| segF [(5, vi (vptE m o_ z 0 (joinS ([(ByteArray.extract qs (Int.toNat (0 : Int)) (Int.toNat kk)), (ByteArray.extract qs (Int.toNat kk) (Int.toNat ((ByteArray.size qs : Nat) : Int)))]))))] [] trivial fun ac hS => ?_
       refine ord_nil ?_
       refine St.ordBegin [(0, 1), (1, 1), (2, 1), (3, 1), (4, 1), (5, 1), (6, 1), (7, 1), (8, 1), (9, 1), (10, 1), (11, 0), (12, 1), (13, 1), (14, 1), (15, 1), (16, 1), (17, 0), (18, 1)] [(g, .fn u (u + 0) (strs S u)), (wb, .cells [pt b 0, pt b 0, vi o_, vi z, sc g u 0 cp, vi rf, vi 0, vi 0] 117), ((ν1 0), .cells [v8 qd, vi qa, vi qf, vi qn, vu qx, .string qs] 62), ((ν23 0), .cells [.string (ByteArray.extract qs (Int.toNat (0 : Int)) (Int.toNat kk)), .string (ByteArray.extract qs (Int.toNat kk) (Int.toNat ((ByteArray.size qs : Nat) : Int)))] 9)] [0, 1, 2, 3] hS fun wd hS => ?_
       have hap := hS.mem.pairs (Hf := [(g, .fn u (u + 0) (strs S u)), (wb, .cells [pt b 0, pt b 0, vi o_, vi z, sc g u 0 cp, vi rf, vi 0, vi 0] 117), ((ν1 0), .cells [v8 qd, vi qa, vi qf, vi qn, vu qx, .string qs] 62), ((ν23 0), .cells [.string (ByteArray.extract qs (Int.toNat (0 : Int)) (Int.toNat kk)), .string (ByteArray.extract qs (Int.toNat kk) (Int.toNat ((ByteArray.size qs : Nat) : Int)))] 9)]) (l := [0, 1, 2, 3])
       refine St.ordF [0, 0, 0, 0, 100, 0, 0, 0, 100, 0, 200] [0, 1, 2, 3, 4, 5, 6, 7, 8, 9, 10] [5] (rest := [(11, 0), (12, 1), (13, 1), (14, 1), (15, 1), (16, 1), (17, 0), (18, 1)]) hS hap <| segF [(45, pt wb 0), (49, .agg #[sc g u 0 cp, vi rf]), (53, .agg #[vi 0, vi 0]), (55, .string qs)] [.e (ν1 0), .e wb, .e wb, .e wb, .e wb] trivial fun ac hS => ?_
       refine hS.ordC 11 148 #[.agg #[sc g u 0 cp, vi rf], .agg #[vi 0, vi 0], vi 0, .string qs] (ref04_Put0 g u cp rf 0 qs S _ (hS.mem.get 0 g (.fn u (u + 0) (strs S u))) ) ?_
       rintro _ wd ⟨e220, rfl, hF⟩
       refine ⟨.tuple #[.agg #[sc g u 0 cp, vi rf], vi e220], rfl, ?_⟩
       replace hS := (hS.to (hS.mem.keep0 hF)).put (d := 56) (v := .tuple #[.agg #[sc g u 0 cp, vi rf], vi e220]) (by decide)
       clear hF
       refine hS.ordV (l := [0, 1, 2, 3]) ?_
       refine St.ordF [0, 0, 0, 0, 0] [12, 13, 14, 15, 16] [5] (rest := [(17, 0), (18, 1)]) hS hap <| segF [(57, .agg #[sc g u 0 cp, vi rf]), (58, vi e220), (60, pt wb 4)] [] trivial fun ac hS => ?_
       refine St.ord1 17 [100] [5, 58] [0, 1, 2, 3] hS rfl fun _ => seg [] [(0, none), (1, none), (2, none), (3, none)] [.e wb, .e wb] trivial ⟨by as_aux_lemma => kernel_rfl, fun ac wd hS => ?_⟩
       refine St.ordF [0] [18] [5] (rest := []) hS hap <| segF [(6, vi e220)] [] trivial fun ac hS => ?_
       refine ord_nil ?_
       refine pop_block ?_
       refine pop_then ?_
       refine hS.regS [0, 0, 0, 0] [] fun _ => seg [(4, vb (((vptE m o_ z 0 (joinS ([(ByteArray.extract qs (Int.toNat (0 : Int)) (Int.toNat kk)), (ByteArray.extract qs (Int.toNat kk) (Int.toNat ((ByteArray.size qs : Nat) : Int)))]))) : Int) == e220))] [(1, none)] [] trivial fun ac wd hS => ?_
       refine wp_ret ?_
       refine St.retC 0 hS (vb (((vptE m o_ z 0 (joinS ([(ByteArray.extract qs (Int.toNat (0 : Int)) (Int.toNat kk)), (ByteArray.extract qs (Int.toNat kk) (Int.toNat ((ByteArray.size qs : Nat) : Int)))]))) : Int) == e220)) [] trivial fun hw => ?_
       refine ⟨(vptM m o_ z 0 (joinS ([(ByteArray.extract qs (Int.toNat (0 : Int)) (Int.toNat kk)), (ByteArray.extract qs (Int.toNat kk) (Int.toNat ((ByteArray.size qs : Nat) : Int)))]))), (((vptE m o_ z 0 (joinS ([(ByteArray.extract qs (Int.toNat (0 : Int)) (Int.toNat kk)), (ByteArray.extract qs (Int.toNat kk) (Int.toNat ((ByteArray.size qs : Nat) : Int)))]))) : Int) == e220), F19, retd rfl, ?_, (hw.res 0), (hw.wins 0 (show _ = some (wb, .cells [pt b 0, pt b 0, vi o_, vi z, sc g u 0 cp, vi rf, vi 0, vi 0] 117) by as_aux_lemma => kernel_rfl)), (hw.get 0 wb (.cells [pt b 0, pt b 0, vi o_, vi z, sc g u 0 cp, vi rf, vi 0, vi 0] 117)), hw.fr0⟩
       all_goals (first | rfl | exact fun _ h_ => h_ | exact fun _ h_ => h_.vst ho.1 _ _ _ | exact fun _ h_ => h_.vpt ho.1 _ _ | exact fun _ h_ => h_.vfi ho.1 _ _ _ | exact fun _ h_ => h_.vcp ho.1 _ _ _)

set_option maxRecDepth 100000 in
set_option maxHeartbeats 1000000 in
theorem law04_ViewApart_a (pa : Int) (pz : Int) (s : ByteArray) (ao9 : Option Addr) (c9 : Nat) (g9 : Nat) (o9 : Nat) (l : List (Int × Int × Int × Int × Int × ByteArray)) (w : World) (hh0 : HE.holds w 0 (.fn 0 64 dbT)) (hh1 : HE.holds w g9 (.fn o9 (o9 + l.length * 6) (a3V (gtD l) o9))) (hv9 : (l.length = 0 ∨ ao9 = some ⟨g9, o9, none⟩)) (hAl : ∀ i, i < l.length → rg_a3V (gtD l i)) (hv : thr (putM (comM (AM.new 4) 0 4) 0 s) pa pz = false) :
    Calls Tryd.prog 8 #[vi pa, vi pz, .string s, .slice ao9 l.length c9] w fun e w' => e = .returned (vb true) ∧ Fr w w' no no := by
 refine enter (args := [vi pa, vi pz, .string s, .slice ao9 l.length c9]) (D := no) (A := []) Tryd.func8 rfl 102 rfl [(0, .fn 0 64 dbT), (g9, .fn o9 (o9 + l.length * 6) (a3V (gtD l) o9))] (WS.startL ⟨⟨rfl, hh0⟩, ⟨rfl, hh1⟩, trivial⟩) fun ac hS => ?_
 refine hS.regS [0] [0, 1, 2, 3] fun _ => seg [] [(0, none), (1, none)] [] trivial fun ac wd hS => ?_
 refine wp_seq ?_
 refine wp_region_seq ?_
 refine hS.call0 55 #[] 19 (law04_awake  _ (hS.mem.get 0 0 (.fn 0 64 dbT)) ) fun ac wd hS => ?_
 refine hS.opsC 1 [0] [0, 1, 2, 3] fun _ => seg [(20, vb false)] [(0, none), (1, none)] [] trivial fun ac wd hS => ?_
 refine list_nil_seq ?_
 refine hS.condF ?_
 refine wp_skip ?_
 refine pop_then ?_
 refine wp_seq ?_
 refine wp_region_seq ?_
 refine hS.opsC 1 [0] [0, 1, 2, 3] fun _ => seg [(21, .slice ao9 l.length c9)] [(0, none), (1, none)] [] trivial fun ac wd hS => ?_
 refine hS.callC 25 #[.slice ao9 l.length c9] (law03_LightR ao9 c9 g9 o9 l _ (hS.mem.get 1 g9 (.fn o9 (o9 + l.length * 6) (a3V (gtD l) o9))) hv9) ?_
 rintro _ wd ⟨r21, rfl, hL2, hF⟩
 refine ⟨vb r21, rfl, ?_⟩
 replace hS := (hS.to (hS.mem.keep0 hF)).put (d := 22) (v := vb r21) (by decide)
 clear hF
 refine hS.opsC 6 [0, 0, 3, 3, 3, 80] [0, 1, 2, 3] fun _ => seg [(28, vb ((!r21) || (decide ((16384 : Int) < ((ByteArray.size s : Nat) : Int)))))] [(0, none), (1, none)] [] trivial fun ac wd hS => ?_
 refine list_nil_seq ?_
 refine hS.condC ((!r21) || (decide ((16384 : Int) < ((ByteArray.size s : Nat) : Int)))) (fun hb3o hb3 => ?_) (fun hb3o hb3 => ?_)
 ·
  refine hS.regS [0] [] fun _ => seg [(8, vb true)] [(0, none)] [] trivial fun ac wd hS => ?_
  refine wp_ret ?_
  refine pop_then_ret ?_
  refine St.retC 0 hS (vb true) [] trivial fun hw => ?_
  refine ⟨retd rfl, hw.fr0⟩
 ·
  refine wp_skip ?_
  refine pop_then ?_
  refine wp_region_seq ?_
  refine hS.callC 26 #[vi 4] (ar_New 4 _  ) ?_
  rintro _ wd ⟨b'4, F5, rfl, hN, hF⟩
  refine ⟨pt b'4 0, rfl, ?_⟩
  replace hS := (hS.to (hS.mem.newA hN hF)).put (d := 29) (v := pt b'4 0) (by decide)
  clear hF
  refine hS.opsC 1 [0] [0, 1, 2, 3] fun _ => seg [(9, pt b'4 0)] [(0, none), (1, none)] [] trivial fun ac wd hS => ?_
  refine list_nil_seq ?_
  refine wp_seq ?_
  refine wp_region_seq ?_
  refine hS.opsC 1 [0] [0, 1, 2, 3, 9] fun _ => seg [(30, pt b'4 0)] [(0, none), (1, none)] [] trivial fun ac wd hS => ?_
  refine hS.callC 56 #[pt b'4 0, vi 0, vi 4] (ar_Commit b'4 F5 (AM.new 4) 0 4 _ (hS.mem.res 0) ) ?_
  rintro _ wd ⟨F6, rfl, hA, hF⟩
  refine ⟨vi (comE (AM.new 4) 0 4), rfl, ?_⟩
  replace hS := (hS.to (hS.mem.stepA 0 rfl hA hF)).put (d := 31) (v := vi (comE (AM.new 4) 0 4)) (by decide)
  clear hF
  refine hS.opsC 2 [0, 0] [0, 1, 2, 3, 9] fun _ => seg [(33, vb (((comE (AM.new 4) 0 4) : Int) != 0))] [(0, none), (1, none)] [] trivial fun ac wd hS => ?_
  have hg7o : (((comE (AM.new 4) 0 4) : Int) != 0) = false := by decide +kernel
  replace hS := hS.fix 33 (vb false) (congrArg Value.bool hg7o)
  refine hS.opsC 2 [1, 1] [0, 1, 3, 9, 33] fun _ => seg [(34, pt b'4 0), (35, .string s)] [(0, none), (1, none)] [.t false, .t false] trivial fun ac wd hS => ?_
  refine hS.callG false 57 #[pt b'4 0, vi 0, .string s] (ar_Put b'4 F6 (comM (AM.new 4) 0 4) 0 s _ (hS.mem.res 0) ) ?_
  rintro _ wd ⟨F8, rfl, hA, hF⟩
  refine ⟨vi (chkE (comM (AM.new 4) 0 4) 0 (((ByteArray.size s) : Nat) : Int)), rfl, ?_⟩
  replace hS := (hS.to (hS.mem.stepA 0 rfl hA hF)).put (d := 36) (v := vi (chkE (comM (AM.new 4) 0 4) 0 (((ByteArray.size s) : Nat) : Int))) (by decide)
  clear hF
  refine hS.opsC 2 [1, 60] [0, 1, 3, 9] fun _ => seg [(38, vb (((chkE (comM (AM.new 4) 0 4) 0 (((ByteArray.size s) : Nat) : Int)) : Int) != 0))] [(0, none), (1, none)] [.t false, .t false] trivial fun ac wd hS => ?_
  refine list_nil_seq ?_
  refine hS.condK (((chkE (comM (AM.new 4) 0 4) 0 (((ByteArray.size s) : Nat) : Int)) : Int) != 0) false (by (rw [chk_thr (p4_thr (by omega))]; rfl)) ?_
  show Code.wp _ _ _ _ _
  refine wp_skip ?_
  refine pop_then ?_
  obtain ⟨M, M_e⟩ : ∃ q_ : AM, q_ = (putM (comM (AM.new 4) 0 4) 0 s) := ⟨_, rfl⟩
  replace hS := hS.to (hS.mem.arTell (b := b'4) (F := F8) (m := (putM (comM (AM.new 4) 0 4) 0 s)) (m' := M) 0 M_e.symm)
  have hmc : M.cap = 4 := by rw [M_e]; exact (putM_com _ _ _).1.trans (by decide +kernel)
  have hM0 : thr M 0 16384 = true := by rw [M_e, p4_put]; exact p4_thr (by decide)
  rw [← M_e] at hv
  clear M_e
  refine wp_region_seq ?_
  refine hS.opsC 3 [0, 0, 0] [0, 1, 3, 9] fun _ => seg [(40, pt b'4 0), (41, vi pa), (42, vi pz)] [(0, none), (1, none)] [] trivial fun ac wd hS => ?_
  refine hS.call0 52 #[pt b'4 0, vi pa, vi pz] 43 (vw_Of_x b'4 F8 M pa pz _ (hS.mem.res 0) (by exact hv)) fun ac wd hS => ?_
  refine hS.opsC 6 [0, 0, 0, 0, 200, 0] [0, 1, 3, 9] fun ν12 => seg [(10, pt (ν12 0) 0), (11, vi 3)] [(0, none), (1, none), (2, some ((ν12 0), .cells [pnil, vi 0, vi 0] 72))] [.e (ν12 0), .e (ν12 0), .e (ν12 0)] trivial fun ac wd hS => ?_
  refine list_nil_seq ?_
  refine wp_seq ?_
  refine hS.regS [0, 0] [0, 1, 3, 9, 10] fun _ => seg [(47, vb true)] [(0, none), (1, none), (2, none)] [] trivial fun ac wd hS => ?_
  refine hS.condT ?_
  refine hS.regS [0] [] fun _ => seg [(8, vb true)] [(0, none)] [] trivial fun ac wd hS => ?_
  refine wp_ret ?_
  refine pop_then_ret ?_
  refine St.retC 0 hS (vb true) [] trivial fun hw => ?_
  refine ⟨retd rfl, hw.fr0⟩

set_option maxRecDepth 100000 in
set_option maxHeartbeats 1000000 in
theorem law04_ViewApart_b (pa : Int) (pz : Int) (s : ByteArray) (ao9 : Option Addr) (c9 : Nat) (g9 : Nat) (o9 : Nat) (l : List (Int × Int × Int × Int × Int × ByteArray)) (w : World) (hh0 : HE.holds w 0 (.fn 0 64 dbT)) (hh1 : HE.holds w g9 (.fn o9 (o9 + l.length * 6) (a3V (gtD l) o9))) (hv9 : (l.length = 0 ∨ ao9 = some ⟨g9, o9, none⟩)) (hAl : ∀ i, i < l.length → rg_a3V (gtD l i)) (hv : thr (putM (comM (AM.new 4) 0 4) 0 s) pa pz = true) :
    Calls Tryd.prog 8 #[vi pa, vi pz, .string s, .slice ao9 l.length c9] w fun e w' => e = .returned (vb true) ∧ Fr w w' no no := by
 refine enter (args := [vi pa, vi pz, .string s, .slice ao9 l.length c9]) (D := no) (A := []) Tryd.func8 rfl 102 rfl [(0, .fn 0 64 dbT), (g9, .fn o9 (o9 + l.length * 6) (a3V (gtD l) o9))] (WS.startL ⟨⟨rfl, hh0⟩, ⟨rfl, hh1⟩, trivial⟩) fun ac hS => ?_
 refine hS.regS [0] [0, 1, 2, 3] fun _ => seg [] [(0, none), (1, none)] [] trivial fun ac wd hS => ?_
 refine wp_seq ?_
 refine wp_region_seq ?_
 refine hS.call0 55 #[] 19 (law04_awake  _ (hS.mem.get 0 0 (.fn 0 64 dbT)) ) fun ac wd hS => ?_
 refine hS.opsC 1 [0] [0, 1, 2, 3] fun _ => seg [(20, vb false)] [(0, none), (1, none)] [] trivial fun ac wd hS => ?_
 refine list_nil_seq ?_
 refine hS.condF ?_
 refine wp_skip ?_
 refine pop_then ?_
 refine wp_seq ?_
 refine wp_region_seq ?_
 refine hS.opsC 1 [0] [0, 1, 2, 3] fun _ => seg [(21, .slice ao9 l.length c9)] [(0, none), (1, none)] [] trivial fun ac wd hS => ?_
 refine hS.callC 25 #[.slice ao9 l.length c9] (law03_LightR ao9 c9 g9 o9 l _ (hS.mem.get 1 g9 (.fn o9 (o9 + l.length * 6) (a3V (gtD l) o9))) hv9) ?_
 rintro _ wd ⟨r21, rfl, hL2, hF⟩
 refine ⟨vb r21, rfl, ?_⟩
 replace hS := (hS.to (hS.mem.keep0 hF)).put (d := 22) (v := vb r21) (by decide)
 clear hF
 have hLg0 := hL2
 refine hS.opsC 6 [0, 0, 3, 3, 3, 80] [0, 1, 2, 3] fun _ => seg [(28, vb ((!r21) || (decide ((16384 : Int) < ((ByteArray.size s : Nat) : Int)))))] [(0, none), (1, none)] [] trivial fun ac wd hS => ?_
 refine list_nil_seq ?_
 refine hS.condC ((!r21) || (decide ((16384 : Int) < ((ByteArray.size s : Nat) : Int)))) (fun hb3o hb3 => ?_) (fun hb3o hb3 => ?_)
 ·
  refine hS.regS [0] [] fun _ => seg [(8, vb true)] [(0, none)] [] trivial fun ac wd hS => ?_
  refine wp_ret ?_
  refine pop_then_ret ?_
  refine St.retC 0 hS (vb true) [] trivial fun hw => ?_
  refine ⟨retd rfl, hw.fr0⟩
 ·
  have hLg := hLg0 (by first | exact (hb3).1 | (have h9_ := hb3; simp at h9_; exact h9_.1))
  refine wp_skip ?_
  refine pop_then ?_
  refine wp_region_seq ?_
  refine hS.callC 26 #[vi 4] (ar_New 4 _  ) ?_
  rintro _ wd ⟨b'4, F5, rfl, hN, hF⟩
  refine ⟨pt b'4 0, rfl, ?_⟩
  replace hS := (hS.to (hS.mem.newA hN hF)).put (d := 29) (v := pt b'4 0) (by decide)
  clear hF
  refine hS.opsC 1 [0] [0, 1, 2, 3] fun _ => seg [(9, pt b'4 0)] [(0, none), (1, none)] [] trivial fun ac wd hS => ?_
  refine list_nil_seq ?_
  refine wp_seq ?_
  refine wp_region_seq ?_
  refine hS.opsC 1 [0] [0, 1, 2, 3, 9] fun _ => seg [(30, pt b'4 0)] [(0, none), (1, none)] [] trivial fun ac wd hS => ?_
  refine hS.callC 56 #[pt b'4 0, vi 0, vi 4] (ar_Commit b'4 F5 (AM.new 4) 0 4 _ (hS.mem.res 0) ) ?_
  rintro _ wd ⟨F6, rfl, hA, hF⟩
  refine ⟨vi (comE (AM.new 4) 0 4), rfl, ?_⟩
  replace hS := (hS.to (hS.mem.stepA 0 rfl hA hF)).put (d := 31) (v := vi (comE (AM.new 4) 0 4)) (by decide)
  clear hF
  refine hS.opsC 2 [0, 0] [0, 1, 2, 3, 9] fun _ => seg [(33, vb (((comE (AM.new 4) 0 4) : Int) != 0))] [(0, none), (1, none)] [] trivial fun ac wd hS => ?_
  have hg7o : (((comE (AM.new 4) 0 4) : Int) != 0) = false := by decide +kernel
  replace hS := hS.fix 33 (vb false) (congrArg Value.bool hg7o)
  refine hS.opsC 2 [1, 1] [0, 1, 3, 9, 33] fun _ => seg [(34, pt b'4 0), (35, .string s)] [(0, none), (1, none)] [.t false, .t false] trivial fun ac wd hS => ?_
  refine hS.callG false 57 #[pt b'4 0, vi 0, .string s] (ar_Put b'4 F6 (comM (AM.new 4) 0 4) 0 s _ (hS.mem.res 0) ) ?_
  rintro _ wd ⟨F8, rfl, hA, hF⟩
  refine ⟨vi (chkE (comM (AM.new 4) 0 4) 0 (((ByteArray.size s) : Nat) : Int)), rfl, ?_⟩
  replace hS := (hS.to (hS.mem.stepA 0 rfl hA hF)).put (d := 36) (v := vi (chkE (comM (AM.new 4) 0 4) 0 (((ByteArray.size s) : Nat) : Int))) (by decide)
  clear hF
  refine hS.opsC 2 [1, 60] [0, 1, 3, 9] fun _ => seg [(38, vb (((chkE (comM (AM.new 4) 0 4) 0 (((ByteArray.size s) : Nat) : Int)) : Int) != 0))] [(0, none), (1, none)] [.t false, .t false] trivial fun ac wd hS => ?_
  refine list_nil_seq ?_
  refine hS.condK (((chkE (comM (AM.new 4) 0 4) 0 (((ByteArray.size s) : Nat) : Int)) : Int) != 0) false (by (rw [chk_thr (p4_thr (by omega))]; rfl)) ?_
  show Code.wp _ _ _ _ _
  refine wp_skip ?_
  refine pop_then ?_
  obtain ⟨M, M_e⟩ : ∃ q_ : AM, q_ = (putM (comM (AM.new 4) 0 4) 0 s) := ⟨_, rfl⟩
  replace hS := hS.to (hS.mem.arTell (b := b'4) (F := F8) (m := (putM (comM (AM.new 4) 0 4) 0 s)) (m' := M) 0 M_e.symm)
  have hmc : M.cap = 4 := by rw [M_e]; exact (putM_com _ _ _).1.trans (by decide +kernel)
  have hM0 : thr M 0 16384 = true := by rw [M_e, p4_put]; exact p4_thr (by decide)
  rw [← M_e] at hv
  clear M_e
  obtain ⟨hi1, hi2, hi3, hi4⟩ := inB_facts (thr_in hv)
  refine wp_region_seq ?_
  refine hS.opsC 3 [0, 0, 0] [0, 1, 3, 9] fun _ => seg [(40, pt b'4 0), (41, vi pa), (42, vi pz)] [(0, none), (1, none)] [] trivial fun ac wd hS => ?_
  refine hS.call0 52 #[pt b'4 0, vi pa, vi pz] 43 (vw_Of b'4 F8 M pa pz _ (hS.mem.res 0) (by exact hv)) fun ac wd hS => ?_
  refine hS.opsC 6 [0, 0, 0, 0, 200, 0] [0, 1, 3, 9] fun ν12 => seg [(10, pt (ν12 0) 0), (11, vi 0)] [(0, none), (1, none), (2, some ((ν12 0), .cells [pt b'4 0, vi pa, vi pz] 72))] [.e (ν12 0), .e (ν12 0), .e (ν12 0)] trivial fun ac wd hS => ?_
  refine list_nil_seq ?_
  refine wp_seq ?_
  refine hS.regS [0, 0] [0, 1, 3, 9, 10] fun _ => seg [(47, vb false)] [(0, none), (1, none), (2, none)] [] trivial fun ac wd hS => ?_
  refine hS.condF ?_
  refine wp_skip ?_
  refine pop_then ?_
  refine wp_region_seq ?_
  refine hS.opsC 1 [0] [0, 1, 3, 9, 10] fun _ => seg [(49, pt b'4 0)] [(0, none), (1, none), (2, none)] [] trivial fun ac wd hS => ?_
  refine hS.call0 58 #[pt b'4 0, vi 0, vi 16384] 50 (ar_Bytes b'4 F8 M 0 16384 _ (hS.mem.res 0) ) fun ac wd hS => ?_
  refine hS.opsC 5 [0, 0, 0, 0, 0] [0, 1, 3, 9, 10] fun _ => seg [(12, .string (bytS M 0 16384))] [(0, none), (1, none), (2, none)] [] trivial fun ac wd hS => ?_
  refine list_nil_seq ?_
  refine St.ordBeginS [(0, 1), (1, 1), (3, 1), (2, 0), (4, 1), (5, 0), (6, 1)] [(0, .fn 0 64 dbT), (g9, .fn o9 (o9 + l.length * 6) (a3V (gtD l) o9)), ((ν12 0), .cells [pt b'4 0, vi pa, vi pz] 72)] [0, 1, 2] hS fun wd hS => ?_
  have hap := hS.mem.pairs (Hf := [(0, .fn 0 64 dbT), (g9, .fn o9 (o9 + l.length * 6) (a3V (gtD l) o9)), ((ν12 0), .cells [pt b'4 0, vi pa, vi pz] 72)]) (l := [0, 1, 2])
  refine St.ordF [0, 200, 0] [0, 1, 3] [0, 1, 3, 9, 12] (rest := [(2, 0), (4, 1), (5, 0), (6, 1)]) hS hap <| segF [(53, pt b'4 0), (54, .agg #[pt b'4 0, vi pa, vi pz]), (56, .agg #[vi 0, vi 0])] [.e (ν12 0), .e (ν12 0), .e (ν12 0)] trivial fun ac hS => ?_
  refine hS.ordC 2 27 #[vi 0] (ref03_New 0 _  ) ?_
  rintro _ wd ⟨g29, rfl, hog0, hoh0, hF⟩
  have ho10 : w.heap.size ≤ g29 := Nat.le_trans hS.mem.fr.size hog0
  refine ⟨.agg #[sc g29 0 0 0, vi (-1)], rfl, ?_⟩
  replace hS := (hS.to (hS.mem.outs hF [(g29, .fn 0 0 (strs (fun _ => ⟨#[]⟩) 0))] ⟨⟨rfl, hoh0, .inr hog0⟩, trivial⟩)).put (d := 55) (v := .agg #[sc g29 0 0 0, vi (-1)]) (by decide)
  clear hF
  refine hS.ordV (l := [0, 1, 2]) ?_
  refine St.ordF [0] [4] [0, 1, 3, 9, 12] (rest := [(5, 0), (6, 1)]) hS hap <| segF [(57, .agg #[pt b'4 0, pt b'4 0, vi pa, vi pz, sc g29 0 0 0, vi (-1), vi 0, vi 0])] [] trivial fun ac hS => ?_
  refine St.ord1 5 [0] [0, 1, 3, 9, 12] [0, 1, 2] hS rfl fun ν16 => seg [(58, pt (ν16 0) 0)] [(0, none), (1, none), (2, none), (3, none), (4, some ((ν16 0), .cells [pt b'4 0, pt b'4 0, vi pa, vi pz, sc g29 0 0 0, vi (-1), vi 0, vi 0] 117))] [] trivial ⟨by as_aux_lemma => kernel_rfl, fun ac wd hS => ?_⟩
  refine St.ordF [0] [6] [0, 1, 3, 9, 12] (rest := []) hS hap <| segF [(14, pt (ν16 0) 0)] [] trivial fun ac hS => ?_
  refine ord_nil ?_
  refine wp_seq ?_
  refine hS.regS [0, 0, 0] [0, 1, 9, 12, 14] fun _ => seg [(59, .slice ao9 l.length c9), (60, vi ((l.length : Nat) : Int)), (61, vi 0)] [(0, none), (1, none), (3, none), (4, none)] [] trivial fun ac wd hS => ?_
  refine wp_block ?_
  refine St.loopC (σ := Int × (Nat → Prop) × AM) (fun (x : Int × (Nat → Prop) × AM) => match x with | (x61, Fx, mx) => ⟨[(0, [], vi pa), (1, [], vi pz), (9, [], pt b'4 0), (12, [], .string (bytS M 0 16384)), (14, [], pt (ν16 0) 0), (59, [], .slice ao9 l.length c9), (60, [], vi ((l.length : Nat) : Int)), (61, [], vi x61)], [(0, .fn 0 64 dbT), (g9, .fn o9 (o9 + l.length * 6) (a3V (gtD l) o9)), (g29, .fn 0 0 (strs (fun _ => ⟨#[]⟩) 0)), ((ν16 0), .cells [pt b'4 0, pt b'4 0, vi pa, vi pz, sc g29 0 0 0, vi (-1), vi 0, vi 0] 117)], [arR b'4 Fx mx], (0 ≤ x61 ∧ x61 ≤ ((l.length : Nat) : Int)) ∧ (VA M pa pz mx) ∧ True, l.length - Int.toNat x61⟩) (0, F8, M) ⟨(by omega), (by exact VA.refl), trivial⟩ hS ?_
  clear hS
  rintro ⟨x61, Fx, mx⟩ ⟨i0, i1, -⟩ ac wd hS
  replace i0 : 0 ≤ x61 ∧ x61 ≤ ((l.length : Nat) : Int) := i0
  replace i1 : VA M pa pz mx := i1
  refine hS.regS [0] [0, 1, 9, 12, 14, 59, 60, 61] fun _ => seg [(62, vb (decide ((x61 : Int) < ((l.length : Nat) : Int))))] [(0, none), (1, none), (2, none), (3, none)] [] trivial fun ac wd hS => ?_
  refine wp_seq ?_
  refine hS.condC (decide ((x61 : Int) < ((l.length : Nat) : Int))) (fun hb11o hb11 => ?_) (fun hb11o hb11 => ?_)
  ·
   refine wp_skip ?_
   refine pop_then ?_
   refine wp_seq ?_
   refine wp_block ?_
   obtain rfl : ao9 = some ⟨g9, o9, none⟩ := Or.resolve_left hv9 (by omega)
   refine hS.regS [20, fx 100 (.agg #[v8 (((gtD l) (Int.toNat x61)).1), vi (((gtD l) (Int.toNat x61)).2.1), vi (((gtD l) (Int.toNat x61)).2.2.1), vi (((gtD l) (Int.toNat x61)).2.2.2.1), vu (((gtD l) (Int.toNat x61)).2.2.2.2.1), .string (((gtD l) (Int.toNat x61)).2.2.2.2.2)]), 0, 400] [0, 1, 9, 12, 14, 59, 60, 61] fun ν19 => seg [(16, pt (ν19 0) 0)] [(0, none), (1, none), (2, none), (3, none), (4, some ((ν19 0), .cells [v8 (((gtD l) (Int.toNat x61)).1), vi (((gtD l) (Int.toNat x61)).2.1), vi (((gtD l) (Int.toNat x61)).2.2.1), vi (((gtD l) (Int.toNat x61)).2.2.2.1), vu (((gtD l) (Int.toNat x61)).2.2.2.2.1), .string (((gtD l) (Int.toNat x61)).2.2.2.2.2)] 62))] [.e (ν19 0), .e (ν19 0), .e (ν19 0), .e (ν19 0), .e (ν19 0), .e (ν19 0), .p ((.agg #[((a3V (gtD l) o9) (o9 + Int.toNat x61 * 6)), ((a3V (gtD l) o9) (o9 + Int.toNat x61 * 6 + 1)), ((a3V (gtD l) o9) (o9 + Int.toNat x61 * 6 + 2)), ((a3V (gtD l) o9) (o9 + Int.toNat x61 * 6 + 3)), ((a3V (gtD l) o9) (o9 + Int.toNat x61 * 6 + 4)), ((a3V (gtD l) o9) (o9 + Int.toNat x61 * 6 + 5))] : Value) = .agg #[v8 (((gtD l) (Int.toNat x61)).1), vi (((gtD l) (Int.toNat x61)).2.1), vi (((gtD l) (Int.toNat x61)).2.2.1), vi (((gtD l) (Int.toNat x61)).2.2.2.1), vu (((gtD l) (Int.toNat x61)).2.2.2.2.1), .string (((gtD l) (Int.toNat x61)).2.2.2.2.2)]), .e g9, .p (o9 ≤ o9 + Int.toNat x61 * 6 + 5 ∧ o9 + Int.toNat x61 * 6 + 5 < (o9 + l.length * 6)), .e g9, .p (o9 ≤ o9 + Int.toNat x61 * 6 + 4 ∧ o9 + Int.toNat x61 * 6 + 4 < (o9 + l.length * 6)), .e g9, .p (o9 ≤ o9 + Int.toNat x61 * 6 + 3 ∧ o9 + Int.toNat x61 * 6 + 3 < (o9 + l.length * 6)), .e g9, .p (o9 ≤ o9 + Int.toNat x61 * 6 + 2 ∧ o9 + Int.toNat x61 * 6 + 2 < (o9 + l.length * 6)), .e g9, .p (o9 ≤ o9 + Int.toNat x61 * 6 + 1 ∧ o9 + Int.toNat x61 * 6 + 1 < (o9 + l.length * 6)), .e g9, .p (o9 ≤ o9 + Int.toNat x61 * 6 ∧ o9 + Int.toNat x61 * 6 < (o9 + l.length * 6)), .p ((0 : Int) ≤ x61 ∧ (x61 : Int) < ((l.length : Nat) : Int))] ⟨(agg6 (a3V_0 (gtD l) o9 (Int.toNat x61)) (a3V_1 (gtD l) o9 (Int.toNat x61)) (a3V_2 (gtD l) o9 (Int.toNat x61)) (a3V_3 (gtD l) o9 (Int.toNat x61)) (a3V_4 (gtD l) o9 (Int.toNat x61)) (a3V_5 (gtD l) o9 (Int.toNat x61))), (by omega), (by omega), (by omega), (by omega), (by omega), (by omega), (by omega), trivial⟩ fun ac wd hS => ?_
   obtain ⟨kd, kd_e⟩ : ∃ q_ : Int, q_ = ((gtD l) (Int.toNat x61)).1 := ⟨_, rfl⟩
   obtain ⟨ka, ka_e⟩ : ∃ q_ : Int, q_ = ((gtD l) (Int.toNat x61)).2.1 := ⟨_, rfl⟩
   obtain ⟨kf, kf_e⟩ : ∃ q_ : Int, q_ = ((gtD l) (Int.toNat x61)).2.2.1 := ⟨_, rfl⟩
   obtain ⟨kn, kn_e⟩ : ∃ q_ : Int, q_ = ((gtD l) (Int.toNat x61)).2.2.2.1 := ⟨_, rfl⟩
   obtain ⟨kx, kx_e⟩ : ∃ q_ : Int, q_ = ((gtD l) (Int.toNat x61)).2.2.2.2.1 := ⟨_, rfl⟩
   obtain ⟨ks, ks_e⟩ : ∃ q_ : ByteArray, q_ = ((gtD l) (Int.toNat x61)).2.2.2.2.2 := ⟨_, rfl⟩
   replace hS := hS.to (hS.mem.tell 4 (b := (ν19 0)) (x := (.cells [v8 (((gtD l) (Int.toNat x61)).1), vi (((gtD l) (Int.toNat x61)).2.1), vi (((gtD l) (Int.toNat x61)).2.2.1), vi (((gtD l) (Int.toNat x61)).2.2.2.1), vu (((gtD l) (Int.toNat x61)).2.2.2.2.1), .string (((gtD l) (Int.toNat x61)).2.2.2.2.2)] 62)) (.cells [v8 kd, vi ka, vi kf, vi kn, vu kx, .string ks] 62) (hh := fun h_ => by rw [kd_e, ka_e, kf_e, kn_e, kx_e, ks_e]; exact h_))
   have hac := hAl _ (show Int.toNat x61 < l.length by omega)
   have hsz6 := hLg.2 _ (show Int.toNat x61 < l.length by omega)
   unfold rg_a3V at hac
   rw [← kd_e, ← ka_e, ← kf_e, ← kn_e, ← kx_e] at hac
   rw [← ks_e] at hsz6
   clear kd_e ka_e kf_e kn_e kx_e ks_e
   obtain ⟨hac1, hac2, hac3, hac4, hac5, _⟩ := hac
   refine hS.regS [0, 400, 20, 0] [0, 1, 9, 12, 14, 16, 59, 60, 61] fun _ => seg [(68, vb (decide ((1 : Int) < (kd % 10))))] [(0, none), (1, none), (2, none), (3, none), (4, none)] [.p ((10 : Int) ≠ 0 ∧ Int.tmod kd 10 = kd % 10), .e (ν19 0)] ⟨rem2 (by omega) (by omega), trivial⟩ fun ac wd hS => ?_
   refine hS.condC (decide ((1 : Int) < (kd % 10))) (fun hb12o hb12 => ?_) (fun hb12o hb12 => ?_)
   ·
    refine wp_region_lit ?_
    refine hS.opsC 2 [0, 400] [0, 1, 9, 12, 14, 59, 60, 61] fun _ => seg [(69, pt (ν16 0) 0), (70, .agg #[v8 kd, vi ka, vi kf, vi kn, vu kx, .string ks])] [(0, none), (1, none), (2, none), (3, none)] [.e (ν19 0), .e (ν19 0), .e (ν19 0), .e (ν19 0), .e (ν19 0), .e (ν19 0)] trivial fun ac wd hS => ?_
    refine hS.callC 59 #[pt (ν16 0) 0, .agg #[v8 kd, vi ka, vi kf, vi kn, vu kx, .string ks]] (law04_do0 b'4 Fx mx (ν16 0) kd ka kf kn kx ks pa pz g29 0 0 (-1) (fun _ => ⟨#[]⟩) _ (hS.mem.res 0) (hS.mem.get 3 (ν16 0) (.cells [pt b'4 0, pt b'4 0, vi pa, vi pz, sc g29 0 0 0, vi (-1), vi 0, vi 0] 117)) (hS.mem.get 2 g29 (.fn 0 0 (strs (fun _ => ⟨#[]⟩) 0))) (hS.mem.nF (g := g29) (r := arR b'4 Fx mx) 2 0) (hS.mem.nF (g := (ν16 0)) (r := arR b'4 Fx mx) 3 0) (hS.mem.neq 2 3) (by omega) (by omega) (by exact ⟨hac1, hac2, hac3, hac4, hac5, hsz6⟩)) ?_
    rintro _ wd ⟨m213, r214, F15, rfl, hV16, hA, hWn, hM, hF⟩
    refine ⟨vb r214, rfl, ?_⟩
    replace hS := (hS.to (hS.mem.stepAM 0 3 rfl hA (show _ = some ((ν16 0), .cells [pt b'4 0, pt b'4 0, vi pa, vi pz, sc g29 0 0 0, vi (-1), vi 0, vi 0] 117) by as_aux_lemma => kernel_rfl) rfl rfl hM hWn hF)).put (d := 71) (v := vb r214) (by decide)
    clear hF
    refine list_nil ?_
    refine pop_block ?_
    refine pop_then ?_
    refine hS.regC [20, 0] [0, 1, 9, 12, 14, 59, 60] fun _ => seg [(61, vi (x61 + 1))] [(0, none), (1, none), (2, none), (3, none)] [.p (fit .i64 (x61 + 1))] ⟨fit_i64 (by omega), trivial⟩ fun ac wd hS => ?_
    exact pop_then (hS.next ((x61 + 1), F15, m213) ⟨(by first | omega | assumption | (simp; done) | (simp; omega)), (by first | exact i1 | (apply_assumption; exact i1)), trivial⟩ (by dsimp only; omega))
   ·
    refine wp_skip ?_
    refine pop_block ?_
    refine pop_then ?_
    refine hS.regC [20, 0] [0, 1, 9, 12, 14, 59, 60] fun _ => seg [(61, vi (x61 + 1))] [(0, none), (1, none), (2, none), (3, none)] [.p (fit .i64 (x61 + 1))] ⟨fit_i64 (by omega), trivial⟩ fun ac wd hS => ?_
    exact pop_then (hS.next ((x61 + 1), Fx, mx) ⟨(by first | omega | assumption | (simp; done) | (simp; omega)), (by first | exact i1 | (apply_assumption; exact i1)), trivial⟩ (by dsimp only; omega))
  ·
   refine wp_exit ?_
   refine pop_then_exit ?_
   refine pop_then_exit ?_
   refine pop_block_hit ?_
   refine pop_then ?_
   refine wp_region_seq ?_
   refine hS.opsC 1 [0] [0, 1, 12] fun _ => seg [(74, pt b'4 0)] [(0, none)] [] trivial fun ac wd hS => ?_
   refine hS.call0 58 #[pt b'4 0, vi 0, vi 16384] 75 (ar_Bytes b'4 Fx mx 0 16384 _ (hS.mem.res 0) ) fun ac wd hS => ?_
   refine hS.opsC 5 [0, 0, 0, 0, 0] [0, 1, 12] fun _ => seg [(17, .string (bytS mx 0 16384)), (18, vi (chkE mx 0 16384))] [(0, none)] [] trivial fun ac wd hS => ?_
   refine list_nil_seq ?_
   obtain ⟨hz1, hz2, hz3, hz4, hz5⟩ := i1.cut2 hM0 (by omega)
   refine hS.drawS [0, fx 0 (vb true), 0, 1, 1, 11, 1, 1, 11, fx 1 (vb true), 70, 0, 1, 1, 1, 21, 11, 1, 1, 1, 21, 11, fx 1 (vb true), 70, 0] [] <| seg [(8, vb true)] [(0, none)] [.t true, .t true, .p ((vb (ByteArray.toList (ByteArray.extract (bytS mx 0 16384) (Int.toNat (pa + pz)) (Int.toNat ((ByteArray.size (bytS mx 0 16384) : Nat) : Int))) == ByteArray.toList (ByteArray.extract (bytS M 0 16384) (Int.toNat (pa + pz)) (Int.toNat ((ByteArray.size (bytS M 0 16384) : Nat) : Int)))) : Value) = vb true), .t true, .p (0 ≤ (pa + pz) ∧ (pa + pz) ≤ ((ByteArray.size (bytS M 0 16384) : Nat) : Int) ∧ ((ByteArray.size (bytS M 0 16384) : Nat) : Int) ≤ (ByteArray.size (bytS M 0 16384) : Int)), .t true, .p (fit .i64 (pa + pz)), .t true, .t true, .t true, .t true, .p (0 ≤ (pa + pz) ∧ (pa + pz) ≤ ((ByteArray.size (bytS mx 0 16384) : Nat) : Int) ∧ ((ByteArray.size (bytS mx 0 16384) : Nat) : Int) ≤ (ByteArray.size (bytS mx 0 16384) : Int)), .t true, .p (fit .i64 (pa + pz)), .t true, .t true, .t true, .t true, .t true, .p ((vb (ByteArray.toList (ByteArray.extract (bytS mx 0 16384) (Int.toNat (0 : Int)) (Int.toNat pa)) == ByteArray.toList (ByteArray.extract (bytS M 0 16384) (Int.toNat (0 : Int)) (Int.toNat pa))) : Value) = vb true), .t true, .p (0 ≤ (0 : Int) ∧ (0 : Int) ≤ pa ∧ pa ≤ (ByteArray.size (bytS M 0 16384) : Int)), .t true, .t true, .t true, .p (0 ≤ (0 : Int) ∧ (0 : Int) ≤ pa ∧ pa ≤ (ByteArray.size (bytS mx 0 16384) : Int)), .t true, .t true, .p ((vb (((chkE mx 0 16384) : Int) == 0) : Value) = vb true)] ⟨(congrArg Value.bool (by (first | (rw [hz5]; exact beq_self_eq_true _) | (rw [hz4]; exact beq_self_eq_true _)))), (by omega), fit_i64 (by omega), (by omega), fit_i64 (by omega), (congrArg Value.bool (by (first | (rw [hz4]; exact beq_self_eq_true _) | (rw [hz5]; exact beq_self_eq_true _)))), (by omega), (by omega), (congrArg Value.bool (by (rw [hz3]; rfl))), trivial⟩ fun ac wd hS => ?_
   refine wp_ret ?_
   refine St.retC 0 hS (vb true) [] trivial fun hw => ?_
   refine ⟨retd rfl, hw.fr0⟩

theorem law04_ViewApart (pa : Int) (pz : Int) (s : ByteArray) (ao9 : Option Addr) (c9 : Nat) (g9 : Nat) (o9 : Nat) (l : List (Int × Int × Int × Int × Int × ByteArray)) (w : World) (hh0 : HE.holds w 0 (.fn 0 64 dbT)) (hh1 : HE.holds w g9 (.fn o9 (o9 + l.length * 6) (a3V (gtD l) o9))) (hv9 : (l.length = 0 ∨ ao9 = some ⟨g9, o9, none⟩)) (hAl : ∀ i, i < l.length → rg_a3V (gtD l i)) :
    Calls Tryd.prog 8 #[vi pa, vi pz, .string s, .slice ao9 l.length c9] w fun e w' => e = .returned (vb true) ∧ Fr w w' no no := by
 cases hv : thr (putM (comM (AM.new 4) 0 4) 0 s) pa pz with
 | false => exact law04_ViewApart_a pa pz s ao9 c9 g9 o9 l w hh0 hh1 hv9 hAl hv
 | true => exact law04_ViewApart_b pa pz s ao9 c9 g9 o9 l w hh0 hh1 hv9 hAl hv

end Go.Proofs.YtnbkafnikpbmbaaDoor.K
