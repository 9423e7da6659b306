/-
  Walks, printed by w2.py.
-/
import Derived.Test.YtdjhdcaanmkblaaDoorPj
import Derived.Test.YtdjhdcaanmkblaaDoorPw
import Derived.Test.YtdjhdcaanmkblaaDoorPy
import Derived.Test.YtdjhdcaanmkblaaDoorYf
import Derived.Test.YtdjhdcaanmkblaaDoorTb
import Derived.Test.YtdjhdcaanmkblaaDoorPu
import Derived.Test.YtdjhdcaanmkblaaDoorProg
namespace Go.Proofs.YtdjhdcaanmkblaaDoor.K
set_option linter.unusedVariables false
set_option linter.unusedSimpArgs false

set_option maxRecDepth 100000 in
set_option maxHeartbeats 1000000 in
theorem law03_do (b : Nat) (F : Nat → Prop) (m : AM) (wb : Nat) (qd : Int) (qa : Int) (qf : Int) (qn : Int) (qx : Int) (qs : ByteArray) (g : Nat) (u : Nat) (n : Nat) (cp : Nat) (w : World) (hr : (arR b F m).R w) (hm : HE.holds w wb (.cells [pt b 0, sc g u n cp, vi (rfA m)] 33)) (hh0 : HE.holds w g (.fn u (u + n) (strs (pgS m) u))) (hf0 : ¬ F g) (hfs : ¬ F wb) (hu0 : ¬ K.one wb g) (hcap : m.cap = n) (hn : n ≤ 1048576) (hr_ : (0 ≤ qd ∧ qd ≤ 255) ∧ (-9223372036854775808 ≤ qa ∧ qa ≤ 9223372036854775807) ∧ (-9223372036854775808 ≤ qf ∧ qf ≤ 9223372036854775807) ∧ (-9223372036854775808 ≤ qn ∧ qn ≤ 9223372036854775807) ∧ (0 ≤ qx ∧ qx ≤ 18446744073709551615) ∧ qs.size ≤ 6000) :
    Calls Tryd.prog 11 #[pt wb 0, .agg #[v8 qd, vi qa, vi qf, vi qn, vu qx, .string qs]] w fun e w' => ∃ (b2 : Nat) (m2 : AM) (g2 : Nat) (u2 : Nat) (cp2 : Nat) (F' : Nat → Prop), e = .returned (vb true) ∧ (m2.cap = m.cap) ∧ (arR b2 F' m2).R w' ∧ Wins w F F' ∧ HE.holds w' wb (.cells [pt b2 0, sc g2 u2 n cp2, vi (rfA m2)] 33) ∧ (g2 = g ∨ w.heap.size ≤ g2) ∧ HE.holds w' g2 (.fn u2 (u2 + n) (strs (pgS m2) u2)) ∧ ¬ F' g2 ∧ Fr w w' (orF F (K.one wb)) no := by
 obtain ⟨hr1, hr2, hr3, hr4, hr5, hr6⟩ := hr_
 have hrfb : rfA m ≤ 9223372036854775807 := by obtain ⟨d, hd⟩ := id hr; have h9_ : m.refuse < 9223372036854775808 := hd.refuseLe; unfold rfA; split <;> omega
 refine enter (args := [pt wb 0, .agg #[v8 qd, vi qa, vi qf, vi qn, vu qx, .string qs]]) (D := (orF F (K.one wb))) (A := [arR b F m]) Tryd.func11 rfl 294 rfl [(g, .fn u (u + n) (strs (pgS m) u)), (wb, .cells [pt b 0, sc g u n cp, vi (rfA m)] 33)] (WS.startAM (H := [(g, .fn u (u + n) (strs (pgS m) u))]) (r := arR b F m) hr hm ⟨⟨rfl, hh0⟩, trivial⟩ ⟨hu0, trivial⟩ ⟨hf0, trivial⟩ hfs) fun ac hS => ?_
 refine hS.regS [0, 0] [0] fun ν1 => seg [(3, pt (ν1 0) 0)] [(0, none), (1, none), (2, some ((ν1 0), .cells [v8 qd, vi qa, vi qf, vi qn, vu qx, .string qs] 36))] [] trivial fun ac wd hS => ?_
 refine hS.regS [0, 0] [0, 3] fun _ => seg [(5, vi 0), (6, vi 0)] [(0, none), (1, none), (2, none)] [] trivial fun ac wd hS => ?_
 refine wp_seq ?_
 refine hS.regS [0, 200, 20] [0, 3, 5, 6] fun _ => seg [(18, v8 (qd % 10))] [(0, none), (1, none), (2, none)] [.p ((10 : Int) ≠ 0 ∧ Int.tmod qd 10 = qd % 10), .e (ν1 0)] ⟨rem2 (by omega) (by omega), trivial⟩ fun ac wd hS => ?_
 refine wp_block ?_
 refine hS.regS [0, 0] [0, 3, 5, 6, 18] fun _ => seg [(37, vb (((qd % 10) : Int) == 0))] [(0, none), (1, none), (2, none)] [] trivial fun ac wd hS => ?_
 refine hS.condC (((qd % 10) : Int) == 0) (fun hb1o hb1 => ?_) (fun hb1o hb1 => ?_)
 ·
  refine St.ordBeginS [(0, 1), (1, 1), (2, 1), (3, 1), (4, 1), (5, 1), (6, 1), (7, 1), (8, 0), (9, 1)] [(g, .fn u (u + n) (strs (pgS m) u)), (wb, .cells [pt b 0, sc g u n cp, vi (rfA m)] 33), ((ν1 0), .cells [v8 qd, vi qa, vi qf, vi qn, vu qx, .string qs] 36)] [0, 1, 2] hS fun wd hS => ?_
  have hap := hS.mem.pairs (Hf := [(g, .fn u (u + n) (strs (pgS m) u)), (wb, .cells [pt b 0, sc g u n cp, vi (rfA m)] 33), ((ν1 0), .cells [v8 qd, vi qa, vi qf, vi qn, vu qx, .string qs] 36)]) (l := [0, 1, 2])
  refine St.ordF [0, 0, 0, 100, 0, 200, 0, 200] [0, 1, 2, 3, 4, 5, 6, 7] [0, 3, 5] (rest := [(8, 0), (9, 1)]) hS hap <| segF [(42, pt b 0), (44, vi qa), (46, vi qn)] [.e (ν1 0), .e (ν1 0), .e wb] trivial fun ac hS => ?_
  refine hS.ordC 8 21 #[pt b 0, vi qa, vi qn] (ar_Commit b F m qa qn _ (hS.mem.res 0) ) ?_
  rintro _ wd ⟨F2, rfl, hA, hF⟩
  refine ⟨vi (comE m qa qn), rfl, ?_⟩
  replace hS := (hS.to (hS.mem.stepA 0 rfl hA hF)).put (d := 47) (v := vi (comE m qa qn)) (by decide)
  clear hF
  refine hS.ordV (l := [0, 1, 2]) ?_
  refine St.ordF [0] [9] [0, 3] (rest := []) hS hap <| segF [(5, vi (comE m qa qn))] [] trivial fun ac hS => ?_
  refine ord_nil ?_
  refine St.ordBegin [(0, 1), (1, 1), (2, 1), (3, 1), (5, 1), (6, 1), (7, 1), (8, 1), (4, 0), (9, 0), (10, 1), (11, 1), (12, 1), (13, 1), (14, 1), (15, 0), (16, 1)] [(g, .fn u (u + n) (strs (pgS m) u)), ((ν1 0), .cells [v8 qd, vi qa, vi qf, vi qn, vu qx, .string qs] 36)] [0, 2] hS fun wd hS => ?_
  have hap := hS.mem.pairs (Hf := [(g, .fn u (u + n) (strs (pgS m) u)), ((ν1 0), .cells [v8 qd, vi qa, vi qf, vi qn, vu qx, .string qs] 36)]) (l := [0, 2])
  refine St.ordF [0, 0, 0, 0, 0, 100, 0, 100] [0, 1, 2, 3, 5, 6, 7, 8] [5] (rest := [(4, 0), (9, 0), (10, 1), (11, 1), (12, 1), (13, 1), (14, 1), (15, 0), (16, 1)]) hS hap <| segF [(49, pt wb 0), (52, pt wb 1), (55, vi qa), (57, vi qn)] [.e (ν1 0), .e (ν1 0)] trivial fun ac hS => ?_
  refine St.ord1 4 [100] [5, 49, 55, 57] [0, 2] hS rfl fun _ => seg [(53, .agg #[sc g u n cp, vi (rfA m)])] [(0, none), (1, none), (2, none)] [.e wb, .e wb] trivial ⟨by as_aux_lemma => kernel_rfl, fun ac wd hS => ?_⟩
  refine hS.ordC 9 22 #[.agg #[sc g u n cp, vi (rfA m)], vi qa, vi qn] (ref03_CommitM g u n cp (rfA m) qa qn m _ (hS.mem.get 0 g (.fn u (u + n) (strs (pgS m) u))) (by first | assumption | omega | (simp_all; done) | (simp_all; omega)) (by first | assumption | omega | (simp_all; done) | (simp_all; omega)) (by first | assumption | omega | (simp_all; done) | (simp_all; omega)) (by first | assumption | omega | (simp_all; done) | (simp_all; omega))) ?_
  rintro _ wd ⟨g23, u24, cp25, rfl, hog0, hoh0, hF⟩
  have ho6 : g23 = g ∨ w.heap.size ≤ g23 := by rcases hog0 with hx | hx; rw [hx]; exact (.inl rfl); exact .inr (Nat.le_trans hS.mem.fr.size hx)
  refine ⟨.tuple #[.agg #[sc g23 u24 n cp25, vi (rfA (comM m qa qn))], vi (comE m qa qn)], rfl, ?_⟩
  replace hS := (hS.to (hS.mem.outs hF [(g23, .fn u24 (u24 + n) (strs (pgS (comM m qa qn)) u24))] ⟨⟨rfl, hoh0, hog0.imp (fun e => ⟨0, .fn u (u + n) (strs (pgS m) u), by rw [e]; rfl, rfl⟩) id⟩, trivial⟩)).put (d := 58) (v := .tuple #[.agg #[sc g23 u24 n cp25, vi (rfA (comM m qa qn))], vi (comE m qa qn)]) (by decide)
  clear hF
  refine hS.ordV (l := [0, 2]) ?_
  refine St.ordF [0, 0, 0, 0, 0] [10, 11, 12, 13, 14] [5] (rest := [(15, 0), (16, 1)]) hS hap <| segF [(59, .agg #[sc g23 u24 n cp25, vi (rfA (comM m qa qn))]), (60, vi (comE m qa qn)), (62, pt wb 1)] [] trivial fun ac hS => ?_
  refine St.ord1 15 [100] [5, 60] [0, 2] hS rfl fun _ => seg [] [(0, none), (1, some (wb, .cells [pt b 0, sc g23 u24 n cp25, vi (rfA (comM m qa qn))] 33)), (2, none), (3, none)] [.e wb, .e wb] trivial ⟨by as_aux_lemma => kernel_rfl, fun ac wd hS => ?_⟩
  refine St.ordF [0] [16] [5] (rest := []) hS hap <| segF [(6, vi (comE m qa qn))] [] trivial fun ac hS => ?_
  refine ord_nil ?_
  refine pop_block ?_
  refine pop_then ?_
  refine hS.regS [0, 0, fx 0 (vb true), 0] [] fun _ => seg [(4, vb true)] [(1, none), (3, none)] [.p ((vb (((comE m qa qn) : Int) == (comE m qa qn)) : Value) = vb true)] ⟨(congrArg Value.bool (beq_self_eq_true _)), trivial⟩ fun ac wd hS => ?_
  refine wp_ret ?_
  refine St.retC 0 hS (vb true) [] trivial fun hw => ?_
  refine ⟨b, (comM m qa qn), g23, u24, cp25, F2, retd rfl, ?_, (hw.res 0), (hw.wins 0 (show _ = some (wb, .cells [pt b 0, sc g23 u24 n cp25, vi (rfA (comM m qa qn))] 33) by as_aux_lemma => kernel_rfl)), (hw.get 0 wb (.cells [pt b 0, sc g23 u24 n cp25, vi (rfA (comM m qa qn))] 33)), ho6, (hw.get 1 g23 (.fn u24 (u24 + n) (strs (pgS (comM m qa qn)) u24))), (fun q_ => hw.free (g23, .fn u24 (u24 + n) (strs (pgS (comM m qa qn)) u24)) (List.mem_of_getElem? (i := 1) (by as_aux_lemma => kernel_rfl)) (.inl q_)), hw.fr0⟩
  all_goals (first | rfl | exact decM_cap _ _ _ | exact comM_cap _ _ _ | exact (putM_com _ _ _).1 | exact (filM_com _ _ _ _).1 | exact (cpyM_com _ _ _ _).1 | exact (stM_com _ _ _ _).1 | (rw [rfA_dec]) | (rw [rfA_put]) | (rw [rfA_fil]) | (rw [rfA_cpy]) | (rw [rfA_st]) | (rw [rfA_refI m qn]) | exact beq_self_eq_true _)
 ·
  refine hS.regS [0, 0] [0, 3, 5, 6, 18] fun _ => seg [(63, vb (((qd % 10) : Int) == 1))] [(0, none), (1, none), (2, none)] [] trivial fun ac wd hS => ?_
  refine hS.condC (((qd % 10) : Int) == 1) (fun hb7o hb7 => ?_) (fun hb7o hb7 => ?_)
  ·
   refine St.ordBeginS [(0, 1), (1, 1), (2, 1), (3, 1), (4, 1), (5, 1), (6, 1), (7, 1), (8, 0), (9, 1)] [(g, .fn u (u + n) (strs (pgS m) u)), (wb, .cells [pt b 0, sc g u n cp, vi (rfA m)] 33), ((ν1 0), .cells [v8 qd, vi qa, vi qf, vi qn, vu qx, .string qs] 36)] [0, 1, 2] hS fun wd hS => ?_
   have hap := hS.mem.pairs (Hf := [(g, .fn u (u + n) (strs (pgS m) u)), (wb, .cells [pt b 0, sc g u n cp, vi (rfA m)] 33), ((ν1 0), .cells [v8 qd, vi qa, vi qf, vi qn, vu qx, .string qs] 36)]) (l := [0, 1, 2])
   refine St.ordF [0, 0, 0, 100, 0, 200, 0, 200] [0, 1, 2, 3, 4, 5, 6, 7] [0, 3, 5] (rest := [(8, 0), (9, 1)]) hS hap <| segF [(68, pt b 0), (70, vi qa), (72, vi qn)] [.e (ν1 0), .e (ν1 0), .e wb] trivial fun ac hS => ?_
   refine hS.ordC 8 50 #[pt b 0, vi qa, vi qn] (ar_Decommit b F m qa qn _ (hS.mem.res 0) ) ?_
   rintro _ wd ⟨F8, rfl, hA, hF⟩
   refine ⟨vi (decE m qa qn), rfl, ?_⟩
   replace hS := (hS.to (hS.mem.stepA 0 rfl hA hF)).put (d := 73) (v := vi (decE m qa qn)) (by decide)
   clear hF
   refine hS.ordV (l := [0, 1, 2]) ?_
   refine St.ordF [0] [9] [0, 3] (rest := []) hS hap <| segF [(5, vi (decE m qa qn))] [] trivial fun ac hS => ?_
   refine ord_nil ?_
   refine St.ordBegin [(0, 1), (1, 1), (2, 1), (3, 1), (5, 1), (6, 1), (7, 1), (8, 1), (4, 0), (9, 0), (10, 1), (11, 1), (12, 1), (13, 1), (14, 1), (15, 0), (16, 1)] [(g, .fn u (u + n) (strs (pgS m) u)), ((ν1 0), .cells [v8 qd, vi qa, vi qf, vi qn, vu qx, .string qs] 36)] [0, 2] hS fun wd hS => ?_
   have hap := hS.mem.pairs (Hf := [(g, .fn u (u + n) (strs (pgS m) u)), ((ν1 0), .cells [v8 qd, vi qa, vi qf, vi qn, vu qx, .string qs] 36)]) (l := [0, 2])
   refine St.ordF [0, 0, 0, 0, 0, 100, 0, 100] [0, 1, 2, 3, 5, 6, 7, 8] [5] (rest := [(4, 0), (9, 0), (10, 1), (11, 1), (12, 1), (13, 1), (14, 1), (15, 0), (16, 1)]) hS hap <| segF [(75, pt wb 0), (78, pt wb 1), (81, vi qa), (83, vi qn)] [.e (ν1 0), .e (ν1 0)] trivial fun ac hS => ?_
   refine St.ord1 4 [100] [5, 75, 81, 83] [0, 2] hS rfl fun _ => seg [(79, .agg #[sc g u n cp, vi (rfA m)])] [(0, none), (1, none), (2, none)] [.e wb, .e wb] trivial ⟨by as_aux_lemma => kernel_rfl, fun ac wd hS => ?_⟩
   refine hS.ordC 9 51 #[.agg #[sc g u n cp, vi (rfA m)], vi qa, vi qn] (ref03_DecommitM g u n cp (rfA m) qa qn m _ (hS.mem.get 0 g (.fn u (u + n) (strs (pgS m) u))) (by first | assumption | omega | (simp_all; done) | (simp_all; omega)) (by first | assumption | omega | (simp_all; done) | (simp_all; omega))) ?_
   rintro _ wd ⟨g29, u210, cp211, rfl, hog0, hoh0, hF⟩
   have ho12 : g29 = g ∨ w.heap.size ≤ g29 := by rcases hog0 with hx | hx; rw [hx]; exact (.inl rfl); exact .inr (Nat.le_trans hS.mem.fr.size hx)
   refine ⟨.tuple #[.agg #[sc g29 u210 n cp211, vi (rfA m)], vi (decE m qa qn)], rfl, ?_⟩
   replace hS := (hS.to (hS.mem.outs hF [(g29, .fn u210 (u210 + n) (strs (pgS (decM m qa qn)) u210))] ⟨⟨rfl, hoh0, hog0.imp (fun e => ⟨0, .fn u (u + n) (strs (pgS m) u), by rw [e]; rfl, rfl⟩) id⟩, trivial⟩)).put (d := 84) (v := .tuple #[.agg #[sc g29 u210 n cp211, vi (rfA m)], vi (decE m qa qn)]) (by decide)
   clear hF
   refine hS.ordV (l := [0, 2]) ?_
   refine St.ordF [0, 0, 0, 0, 0] [10, 11, 12, 13, 14] [5] (rest := [(15, 0), (16, 1)]) hS hap <| segF [(85, .agg #[sc g29 u210 n cp211, vi (rfA m)]), (86, vi (decE m qa qn)), (88, pt wb 1)] [] trivial fun ac hS => ?_
   refine St.ord1 15 [100] [5, 86] [0, 2] hS rfl fun _ => seg [] [(0, none), (1, some (wb, .cells [pt b 0, sc g29 u210 n cp211, vi (rfA m)] 33)), (2, none), (3, none)] [.e wb, .e wb] trivial ⟨by as_aux_lemma => kernel_rfl, fun ac wd hS => ?_⟩
   refine St.ordF [0] [16] [5] (rest := []) hS hap <| segF [(6, vi (decE m qa qn))] [] trivial fun ac hS => ?_
   refine ord_nil ?_
   refine pop_block ?_
   refine pop_then ?_
   refine hS.regS [0, 0, fx 0 (vb true), 0] [] fun _ => seg [(4, vb true)] [(1, none), (3, none)] [.p ((vb (((decE m qa qn) : Int) == (decE m qa qn)) : Value) = vb true)] ⟨(congrArg Value.bool (beq_self_eq_true _)), trivial⟩ fun ac wd hS => ?_
   refine wp_ret ?_
   refine St.retC 0 hS (vb true) [] trivial fun hw => ?_
   refine ⟨b, (decM m qa qn), g29, u210, cp211, F8, retd rfl, ?_, (hw.res 0), (hw.wins 0 (show _ = some (wb, .cells [pt b 0, sc g29 u210 n cp211, vi (rfA m)] 33) by as_aux_lemma => kernel_rfl)), (HE.cells_eq (hw.get 0 wb (.cells [pt b 0, sc g29 u210 n cp211, vi (rfA m)] 33)) ?_), ho12, (hw.get 1 g29 (.fn u210 (u210 + n) (strs (pgS (decM m qa qn)) u210))), (fun q_ => hw.free (g29, .fn u210 (u210 + n) (strs (pgS (decM m qa qn)) u210)) (List.mem_of_getElem? (i := 1) (by as_aux_lemma => kernel_rfl)) (.inl q_)), hw.fr0⟩
   all_goals (first | rfl | exact decM_cap _ _ _ | exact comM_cap _ _ _ | exact (putM_com _ _ _).1 | exact (filM_com _ _ _ _).1 | exact (cpyM_com _ _ _ _).1 | exact (stM_com _ _ _ _).1 | (rw [rfA_dec]) | (rw [rfA_put]) | (rw [rfA_fil]) | (rw [rfA_cpy]) | (rw [rfA_st]) | (rw [rfA_refI m qn]) | exact beq_self_eq_true _)
  ·
   refine hS.regS [0, 0] [0, 3, 5, 6, 18] fun _ => seg [(89, vb (((qd % 10) : Int) == 2))] [(0, none), (1, none), (2, none)] [] trivial fun ac wd hS => ?_
   refine hS.condC (((qd % 10) : Int) == 2) (fun hb13o hb13 => ?_) (fun hb13o hb13 => ?_)
   ·
    refine St.ordBeginS [(0, 1), (1, 1), (2, 1), (3, 1), (4, 1), (5, 1), (6, 0)] [(g, .fn u (u + n) (strs (pgS m) u)), (wb, .cells [pt b 0, sc g u n cp, vi (rfA m)] 33), ((ν1 0), .cells [v8 qd, vi qa, vi qf, vi qn, vu qx, .string qs] 36)] [0, 1, 2] hS fun wd hS => ?_
    have hap := hS.mem.pairs (Hf := [(g, .fn u (u + n) (strs (pgS m) u)), (wb, .cells [pt b 0, sc g u n cp, vi (rfA m)] 33), ((ν1 0), .cells [v8 qd, vi qa, vi qf, vi qn, vu qx, .string qs] 36)]) (l := [0, 1, 2])
    refine St.ordF [0, 0, 0, 100, 0, 200] [0, 1, 2, 3, 4, 5] [0, 3, 5, 6] (rest := [(6, 0)]) hS hap <| segF [(94, pt b 0), (96, vi qn)] [.e (ν1 0), .e wb] trivial fun ac hS => ?_
    refine hS.ordC 6 52 #[pt b 0, vi qn] (ar_Refuse b F m qn _ (hS.mem.res 0) (by first | assumption | omega | (simp_all; done) | (simp_all; omega))) ?_
    rintro _ wd ⟨F14, rfl, hA, hF⟩
    refine ⟨.tuple #[], rfl, ?_⟩
    replace hS := (hS.to (hS.mem.stepA 0 rfl hA hF)).put (d := 97) (v := .tuple #[]) (by decide)
    clear hF
    refine hS.ordV (l := [0, 1, 2]) ?_
    refine ord_nil ?_
    refine hS.regC [0, 0, 200, 0, 0, 0, 0, 100] [5, 6] fun _ => seg [] [(0, none), (1, some (wb, .cells [pt b 0, sc g u n cp, vi (imax qn 0)] 33))] [.e wb, .e (ν1 0)] trivial fun ac wd hS => ?_
    refine pop_block ?_
    refine pop_then ?_
    refine hS.regS [0, 0, 0, 0] [] fun _ => seg [(4, vb true)] [(0, none), (1, none)] [] trivial fun ac wd hS => ?_
    refine wp_ret ?_
    refine St.retC 0 hS (vb true) [] trivial fun hw => ?_
    refine ⟨b, (refM m qn), g, u, cp, F14, retd rfl, ?_, (hw.res 0), (hw.wins 1 (show _ = some (wb, .cells [pt b 0, sc g u n cp, vi (imax qn 0)] 33) by as_aux_lemma => kernel_rfl)), (HE.cells_eq (hw.get 1 wb (.cells [pt b 0, sc g u n cp, vi (imax qn 0)] 33)) ?_), (.inl rfl), (hw.get 0 g (.fn u (u + n) (strs (pgS m) u))), (fun q_ => hw.free (g, .fn u (u + n) (strs (pgS m) u)) (List.mem_of_getElem? (i := 0) (by as_aux_lemma => kernel_rfl)) (.inl q_)), hw.fr0⟩
    all_goals (first | rfl | exact decM_cap _ _ _ | exact comM_cap _ _ _ | exact (putM_com _ _ _).1 | exact (filM_com _ _ _ _).1 | exact (cpyM_com _ _ _ _).1 | exact (stM_com _ _ _ _).1 | (rw [rfA_dec]) | (rw [rfA_put]) | (rw [rfA_fil]) | (rw [rfA_cpy]) | (rw [rfA_st]) | (rw [rfA_refI m qn]) | exact beq_self_eq_true _)
   ·
    refine hS.regS [0, 0] [0, 3, 5, 6, 18] fun _ => seg [(105, vb (((qd % 10) : Int) == 3))] [(0, none), (1, none), (2, none)] [] trivial fun ac wd hS => ?_
    refine hS.condC (((qd % 10) : Int) == 3) (fun hb15o hb15 => ?_) (fun hb15o hb15 => ?_)
    ·
     refine St.ordBeginS [(0, 1), (1, 1), (2, 1), (3, 1), (4, 1), (5, 1), (6, 1), (7, 1), (8, 0), (9, 1), (10, 1), (11, 1), (12, 1), (13, 1)] [(g, .fn u (u + n) (strs (pgS m) u)), (wb, .cells [pt b 0, sc g u n cp, vi (rfA m)] 33), ((ν1 0), .cells [v8 qd, vi qa, vi qf, vi qn, vu qx, .string qs] 36)] [0, 1, 2] hS fun wd hS => ?_
     have hap := hS.mem.pairs (Hf := [(g, .fn u (u + n) (strs (pgS m) u)), (wb, .cells [pt b 0, sc g u n cp, vi (rfA m)] 33), ((ν1 0), .cells [v8 qd, vi qa, vi qf, vi qn, vu qx, .string qs] 36)]) (l := [0, 1, 2])
     refine St.ordF [0, 0, 0, 100, 0, 200, 0, 200] [0, 1, 2, 3, 4, 5, 6, 7] [0, 3] (rest := [(8, 0), (9, 1), (10, 1), (11, 1), (12, 1), (13, 1)]) hS hap <| segF [(111, pt b 0), (113, vi qa), (115, vi qn)] [.e (ν1 0), .e (ν1 0), .e wb] trivial fun ac hS => ?_
     refine hS.ordC 8 48 #[pt b 0, vi qa, vi qn] (ar_Load b F m qa qn _ (hS.mem.res 0) ) ?_
     rintro _ wd ⟨rfl, hF⟩
     refine ⟨.tuple #[vu (ldV m qa qn), vi (ldE m qa qn)], rfl, ?_⟩
     replace hS := (hS.to (hS.mem.keep0 hF)).put (d := 116) (v := .tuple #[vu (ldV m qa qn), vi (ldE m qa qn)]) (by decide)
     clear hF
     refine hS.ordV (l := [0, 1, 2]) ?_
     refine St.ordF [0, 0, 0, 0, 0] [9, 10, 11, 12, 13] [0, 3] (rest := []) hS hap <| segF [(7, vu (ldV m qa qn)), (8, vi (ldE m qa qn))] [] trivial fun ac hS => ?_
     refine ord_nil ?_
     refine St.ordBeginS [(0, 1), (1, 1), (2, 1), (3, 1), (4, 1), (5, 1), (6, 1), (7, 1), (8, 0), (9, 1), (10, 1), (11, 1), (12, 1), (13, 1)] [(g, .fn u (u + n) (strs (pgS m) u)), (wb, .cells [pt b 0, sc g u n cp, vi (rfA m)] 33), ((ν1 0), .cells [v8 qd, vi qa, vi qf, vi qn, vu qx, .string qs] 36)] [0, 1, 2] hS fun wd hS => ?_
     have hap := hS.mem.pairs (Hf := [(g, .fn u (u + n) (strs (pgS m) u)), (wb, .cells [pt b 0, sc g u n cp, vi (rfA m)] 33), ((ν1 0), .cells [v8 qd, vi qa, vi qf, vi qn, vu qx, .string qs] 36)]) (l := [0, 1, 2])
     refine St.ordF [0, 0, 0, 100, 0, 200, 0, 200] [0, 1, 2, 3, 4, 5, 6, 7] [7, 8] (rest := [(8, 0), (9, 1), (10, 1), (11, 1), (12, 1), (13, 1)]) hS hap <| segF [(123, .agg #[sc g u n cp, vi (rfA m)]), (125, vi qa), (127, vi qn)] [.e (ν1 0), .e (ν1 0), .e wb, .e wb] trivial fun ac hS => ?_
     refine hS.ordC 8 53 #[.agg #[sc g u n cp, vi (rfA m)], vi qa, vi qn] (ref03_LoadM g u n cp (rfA m) qa qn m _ (hS.mem.get 0 g (.fn u (u + n) (strs (pgS m) u))) (by first | assumption | omega | (simp_all; done) | (simp_all; omega)) (by first | assumption | omega | (simp_all; done) | (simp_all; omega))) ?_
     rintro _ wd ⟨rfl, hF⟩
     refine ⟨.tuple #[vu (ldV m qa qn), vi (ldE m qa qn)], rfl, ?_⟩
     replace hS := (hS.to (hS.mem.keep0 hF)).put (d := 128) (v := .tuple #[vu (ldV m qa qn), vi (ldE m qa qn)]) (by decide)
     clear hF
     refine hS.ordV (l := [0, 1, 2]) ?_
     refine St.ordF [0, 0, 0, 0, 0] [9, 10, 11, 12, 13] [7, 8] (rest := []) hS hap <| segF [(9, vu (ldV m qa qn)), (10, vi (ldE m qa qn))] [] trivial fun ac hS => ?_
     refine ord_nil ?_
     refine hS.regS [0, 0, fx 0 (vb true), 0, 1, 1, fx 1 (vb true), 70, 0] [] fun _ => seg [(4, vb true)] [(0, none), (1, none)] [.t true, .t true, .p ((vb (((ldE m qa qn) : Int) == (ldE m qa qn)) : Value) = vb true), .t true, .t true, .p ((vb (((ldV m qa qn) : Int) == (ldV m qa qn)) : Value) = vb true)] ⟨(congrArg Value.bool (beq_self_eq_true _)), (congrArg Value.bool (beq_self_eq_true _)), trivial⟩ fun ac wd hS => ?_
     refine wp_ret ?_
     refine pop_block_ret ?_
     refine pop_then_ret ?_
     refine St.retC 0 hS (vb true) [] trivial fun hw => ?_
     refine ⟨b, m, g, u, cp, F, retd rfl, ?_, (hw.res 0), (hw.wins 1 (show _ = some (wb, .cells [pt b 0, sc g u n cp, vi (rfA m)] 33) by as_aux_lemma => kernel_rfl)), (hw.get 1 wb (.cells [pt b 0, sc g u n cp, vi (rfA m)] 33)), (.inl rfl), (hw.get 0 g (.fn u (u + n) (strs (pgS m) u))), (fun q_ => hw.free (g, .fn u (u + n) (strs (pgS m) u)) (List.mem_of_getElem? (i := 0) (by as_aux_lemma => kernel_rfl)) (.inl q_)), hw.fr0⟩
     all_goals (first | rfl | exact decM_cap _ _ _ | exact comM_cap _ _ _ | exact (putM_com _ _ _).1 | exact (filM_com _ _ _ _).1 | exact (cpyM_com _ _ _ _).1 | exact (stM_com _ _ _ _).1 | (rw [rfA_dec]) | (rw [rfA_put]) | (rw [rfA_fil]) | (rw [rfA_cpy]) | (rw [rfA_st]) | (rw [rfA_refI m qn]) | exact beq_self_eq_true _)
    ·
     refine hS.regS [0, 0] [0, 3, 5, 6, 18] fun _ => seg [(139, vb (((qd % 10) : Int) == 4))] [(0, none), (1, none), (2, none)] [] trivial fun ac wd hS => ?_
     refine hS.condC (((qd % 10) : Int) == 4) (fun hb16o hb16 => ?_) (fun hb16o hb16 => ?_)
     ·
      refine St.ordBeginS [(0, 1), (1, 1), (2, 1), (3, 1), (4, 1), (5, 1), (6, 1), (7, 1), (8, 1), (9, 1), (10, 0), (11, 1)] [(g, .fn u (u + n) (strs (pgS m) u)), (wb, .cells [pt b 0, sc g u n cp, vi (rfA m)] 33), ((ν1 0), .cells [v8 qd, vi qa, vi qf, vi qn, vu qx, .string qs] 36)] [0, 1, 2] hS fun wd hS => ?_
      have hap := hS.mem.pairs (Hf := [(g, .fn u (u + n) (strs (pgS m) u)), (wb, .cells [pt b 0, sc g u n cp, vi (rfA m)] 33), ((ν1 0), .cells [v8 qd, vi qa, vi qf, vi qn, vu qx, .string qs] 36)]) (l := [0, 1, 2])
      refine St.ordF [0, 0, 0, 100, 0, 200, 0, 200, 0, 200] [0, 1, 2, 3, 4, 5, 6, 7, 8, 9] [0, 3, 5] (rest := [(10, 0), (11, 1)]) hS hap <| segF [(144, pt b 0), (146, vi qa), (148, vi qn), (150, vu qx)] [.e (ν1 0), .e (ν1 0), .e (ν1 0), .e wb] trivial fun ac hS => ?_
      refine hS.ordC 10 46 #[pt b 0, vi qa, vi qn, vu qx] (ar_Store b F m qa qn qx _ (hS.mem.res 0) ) ?_
      rintro _ wd ⟨F17, rfl, hA, hF⟩
      refine ⟨vi (stE m qa qn), rfl, ?_⟩
      replace hS := (hS.to (hS.mem.stepA 0 rfl hA hF)).put (d := 151) (v := vi (stE m qa qn)) (by decide)
      clear hF
      refine hS.ordV (l := [0, 1, 2]) ?_
      refine St.ordF [0] [11] [0, 3] (rest := []) hS hap <| segF [(5, vi (stE m qa qn))] [] trivial fun ac hS => ?_
      refine ord_nil ?_
      refine St.ordBegin [(0, 1), (1, 1), (2, 1), (3, 1), (5, 1), (6, 1), (7, 1), (8, 1), (9, 1), (10, 1), (4, 0), (11, 0), (12, 1), (13, 1), (14, 1), (15, 1), (16, 1), (17, 0), (18, 1)] [(g, .fn u (u + n) (strs (pgS m) u)), ((ν1 0), .cells [v8 qd, vi qa, vi qf, vi qn, vu qx, .string qs] 36)] [0, 2] hS fun wd hS => ?_
      have hap := hS.mem.pairs (Hf := [(g, .fn u (u + n) (strs (pgS m) u)), ((ν1 0), .cells [v8 qd, vi qa, vi qf, vi qn, vu qx, .string qs] 36)]) (l := [0, 2])
      refine St.ordF [0, 0, 0, 0, 0, 100, 0, 100, 0, 100] [0, 1, 2, 3, 5, 6, 7, 8, 9, 10] [5] (rest := [(4, 0), (11, 0), (12, 1), (13, 1), (14, 1), (15, 1), (16, 1), (17, 0), (18, 1)]) hS hap <| segF [(153, pt wb 0), (156, pt wb 1), (159, vi qa), (161, vi qn), (163, vu qx)] [.e (ν1 0), .e (ν1 0), .e (ν1 0)] trivial fun ac hS => ?_
      refine St.ord1 4 [100] [5, 153, 159, 161, 163] [0, 2] hS rfl fun _ => seg [(157, .agg #[sc g u n cp, vi (rfA m)])] [(0, none), (1, none), (2, none)] [.e wb, .e wb] trivial ⟨by as_aux_lemma => kernel_rfl, fun ac wd hS => ?_⟩
      refine hS.ordC 11 54 #[.agg #[sc g u n cp, vi (rfA m)], vi qa, vi qn, vu qx] (ref03_StoreM g u n cp (rfA m) qa qn qx m _ (hS.mem.get 0 g (.fn u (u + n) (strs (pgS m) u))) (by first | assumption | omega | (simp_all; done) | (simp_all; omega)) (by first | assumption | omega | (simp_all; done) | (simp_all; omega)) (by first | assumption | omega | (simp_all; done) | (simp_all; omega))) ?_
      rintro _ wd ⟨g218, u219, cp220, rfl, hog0, hoh0, hF⟩
      have ho21 : g218 = g ∨ w.heap.size ≤ g218 := by rcases hog0 with hx | hx; rw [hx]; exact (.inl rfl); exact .inr (Nat.le_trans hS.mem.fr.size hx)
      refine ⟨.tuple #[.agg #[sc g218 u219 n cp220, vi (rfA m)], vi (stE m qa qn)], rfl, ?_⟩
      replace hS := (hS.to (hS.mem.outs hF [(g218, .fn u219 (u219 + n) (strs (pgS (stM m qa qn qx)) u219))] ⟨⟨rfl, hoh0, hog0.imp (fun e => ⟨0, .fn u (u + n) (strs (pgS m) u), by rw [e]; rfl, rfl⟩) id⟩, trivial⟩)).put (d := 164) (v := .tuple #[.agg #[sc g218 u219 n cp220, vi (rfA m)], vi (stE m qa qn)]) (by decide)
      clear hF
      refine hS.ordV (l := [0, 2]) ?_
      refine St.ordF [0, 0, 0, 0, 0] [12, 13, 14, 15, 16] [5] (rest := [(17, 0), (18, 1)]) hS hap <| segF [(165, .agg #[sc g218 u219 n cp220, vi (rfA m)]), (166, vi (stE m qa qn)), (168, pt wb 1)] [] trivial fun ac hS => ?_
      refine St.ord1 17 [100] [5, 166] [0, 2] hS rfl fun _ => seg [] [(0, none), (1, some (wb, .cells [pt b 0, sc g218 u219 n cp220, vi (rfA m)] 33)), (2, none), (3, none)] [.e wb, .e wb] trivial ⟨by as_aux_lemma => kernel_rfl, fun ac wd hS => ?_⟩
      refine St.ordF [0] [18] [5] (rest := []) hS hap <| segF [(6, vi (stE m qa qn))] [] trivial fun ac hS => ?_
      refine ord_nil ?_
      refine pop_block ?_
      refine pop_then ?_
      refine hS.regS [0, 0, fx 0 (vb true), 0] [] fun _ => seg [(4, vb true)] [(1, none), (3, none)] [.p ((vb (((stE m qa qn) : Int) == (stE m qa qn)) : Value) = vb true)] ⟨(congrArg Value.bool (beq_self_eq_true _)), trivial⟩ fun ac wd hS => ?_
      refine wp_ret ?_
      refine St.retC 0 hS (vb true) [] trivial fun hw => ?_
      refine ⟨b, (stM m qa qn qx), g218, u219, cp220, F17, retd rfl, ?_, (hw.res 0), (hw.wins 0 (show _ = some (wb, .cells [pt b 0, sc g218 u219 n cp220, vi (rfA m)] 33) by as_aux_lemma => kernel_rfl)), (HE.cells_eq (hw.get 0 wb (.cells [pt b 0, sc g218 u219 n cp220, vi (rfA m)] 33)) ?_), ho21, (hw.get 1 g218 (.fn u219 (u219 + n) (strs (pgS (stM m qa qn qx)) u219))), (fun q_ => hw.free (g218, .fn u219 (u219 + n) (strs (pgS (stM m qa qn qx)) u219)) (List.mem_of_getElem? (i := 1) (by as_aux_lemma => kernel_rfl)) (.inl q_)), hw.fr0⟩
      all_goals (first | rfl | exact decM_cap _ _ _ | exact comM_cap _ _ _ | exact (putM_com _ _ _).1 | exact (filM_com _ _ _ _).1 | exact (cpyM_com _ _ _ _).1 | exact (stM_com _ _ _ _).1 | (rw [rfA_dec]) | (rw [rfA_put]) | (rw [rfA_fil]) | (rw [rfA_cpy]) | (rw [rfA_st]) | (rw [rfA_refI m qn]) | exact beq_self_eq_true _)
     ·
      refine hS.regS [0, 0] [0, 3, 5, 6, 18] fun _ => seg [(169, vb (((qd % 10) : Int) == 5))] [(0, none), (1, none), (2, none)] [] trivial fun ac wd hS => ?_
      refine hS.condC (((qd % 10) : Int) == 5) (fun hb22o hb22 => ?_) (fun hb22o hb22 => ?_)
      ·
       refine St.ordBeginS [(0, 1), (1, 1), (2, 1), (3, 1), (4, 1), (5, 1), (6, 1), (7, 1), (8, 0), (9, 1), (10, 1), (11, 1), (12, 1), (13, 1)] [(g, .fn u (u + n) (strs (pgS m) u)), (wb, .cells [pt b 0, sc g u n cp, vi (rfA m)] 33), ((ν1 0), .cells [v8 qd, vi qa, vi qf, vi qn, vu qx, .string qs] 36)] [0, 1, 2] hS fun wd hS => ?_
       have hap := hS.mem.pairs (Hf := [(g, .fn u (u + n) (strs (pgS m) u)), (wb, .cells [pt b 0, sc g u n cp, vi (rfA m)] 33), ((ν1 0), .cells [v8 qd, vi qa, vi qf, vi qn, vu qx, .string qs] 36)]) (l := [0, 1, 2])
       refine St.ordF [0, 0, 0, 100, 0, 200, 0, 200] [0, 1, 2, 3, 4, 5, 6, 7] [0, 3] (rest := [(8, 0), (9, 1), (10, 1), (11, 1), (12, 1), (13, 1)]) hS hap <| segF [(175, pt b 0), (177, vi qa), (179, vi qn)] [.e (ν1 0), .e (ν1 0), .e wb] trivial fun ac hS => ?_
       refine hS.ordC 8 47 #[pt b 0, vi qa, vi qn] (ar_Bytes b F m qa qn _ (hS.mem.res 0) ) ?_
       rintro _ wd ⟨rfl, hF⟩
       refine ⟨.tuple #[.string (bytS m qa qn), vi (chkE m qa qn)], rfl, ?_⟩
       replace hS := (hS.to (hS.mem.keep0 hF)).put (d := 180) (v := .tuple #[.string (bytS m qa qn), vi (chkE m qa qn)]) (by decide)
       clear hF
       refine hS.ordV (l := [0, 1, 2]) ?_
       refine St.ordF [0, 0, 0, 0, 0] [9, 10, 11, 12, 13] [0, 3] (rest := []) hS hap <| segF [(11, .string (bytS m qa qn)), (12, vi (chkE m qa qn))] [] trivial fun ac hS => ?_
       refine ord_nil ?_
       refine St.ordBeginS [(0, 1), (1, 1), (2, 1), (3, 1), (4, 1), (5, 1), (6, 1), (7, 1), (8, 0), (9, 1), (10, 1), (11, 1), (12, 1), (13, 1)] [(g, .fn u (u + n) (strs (pgS m) u)), (wb, .cells [pt b 0, sc g u n cp, vi (rfA m)] 33), ((ν1 0), .cells [v8 qd, vi qa, vi qf, vi qn, vu qx, .string qs] 36)] [0, 1, 2] hS fun wd hS => ?_
       have hap := hS.mem.pairs (Hf := [(g, .fn u (u + n) (strs (pgS m) u)), (wb, .cells [pt b 0, sc g u n cp, vi (rfA m)] 33), ((ν1 0), .cells [v8 qd, vi qa, vi qf, vi qn, vu qx, .string qs] 36)]) (l := [0, 1, 2])
       refine St.ordF [0, 0, 0, 100, 0, 200, 0, 200] [0, 1, 2, 3, 4, 5, 6, 7] [11, 12] (rest := [(8, 0), (9, 1), (10, 1), (11, 1), (12, 1), (13, 1)]) hS hap <| segF [(187, .agg #[sc g u n cp, vi (rfA m)]), (189, vi qa), (191, vi qn)] [.e (ν1 0), .e (ν1 0), .e wb, .e wb] trivial fun ac hS => ?_
       refine hS.ordC 8 55 #[.agg #[sc g u n cp, vi (rfA m)], vi qa, vi qn] (ref03_BytesM g u n cp (rfA m) qa qn m _ (hS.mem.get 0 g (.fn u (u + n) (strs (pgS m) u))) (by first | assumption | omega | (simp_all; done) | (simp_all; omega)) (by first | assumption | omega | (simp_all; done) | (simp_all; omega))) ?_
       rintro _ wd ⟨rfl, hF⟩
       refine ⟨.tuple #[.string (bytS m qa qn), vi (chkE m qa qn)], rfl, ?_⟩
       replace hS := (hS.to (hS.mem.keep0 hF)).put (d := 192) (v := .tuple #[.string (bytS m qa qn), vi (chkE m qa qn)]) (by decide)
       clear hF
       refine hS.ordV (l := [0, 1, 2]) ?_
       refine St.ordF [0, 0, 0, 0, 0] [9, 10, 11, 12, 13] [11, 12] (rest := []) hS hap <| segF [(13, .string (bytS m qa qn)), (14, vi (chkE m qa qn))] [] trivial fun ac hS => ?_
       refine ord_nil ?_
       refine hS.regS [0, 0, fx 0 (vb true), 0, 1, 1, fx 1 (vb true), 70, 0] [] fun _ => seg [(4, vb true)] [(0, none), (1, none)] [.t true, .t true, .p ((vb (((chkE m qa qn) : Int) == (chkE m qa qn)) : Value) = vb true), .t true, .t true, .p ((vb (ByteArray.toList (bytS m qa qn) == ByteArray.toList (bytS m qa qn)) : Value) = vb true)] ⟨(congrArg Value.bool (beq_self_eq_true _)), (congrArg Value.bool (by simp)), trivial⟩ fun ac wd hS => ?_
       refine wp_ret ?_
       refine pop_block_ret ?_
       refine pop_then_ret ?_
       refine St.retC 0 hS (vb true) [] trivial fun hw => ?_
       refine ⟨b, m, g, u, cp, F, retd rfl, ?_, (hw.res 0), (hw.wins 1 (show _ = some (wb, .cells [pt b 0, sc g u n cp, vi (rfA m)] 33) by as_aux_lemma => kernel_rfl)), (hw.get 1 wb (.cells [pt b 0, sc g u n cp, vi (rfA m)] 33)), (.inl rfl), (hw.get 0 g (.fn u (u + n) (strs (pgS m) u))), (fun q_ => hw.free (g, .fn u (u + n) (strs (pgS m) u)) (List.mem_of_getElem? (i := 0) (by as_aux_lemma => kernel_rfl)) (.inl q_)), hw.fr0⟩
       all_goals (first | rfl | exact decM_cap _ _ _ | exact comM_cap _ _ _ | exact (putM_com _ _ _).1 | exact (filM_com _ _ _ _).1 | exact (cpyM_com _ _ _ _).1 | exact (stM_com _ _ _ _).1 | (rw [rfA_dec]) | (rw [rfA_put]) | (rw [rfA_fil]) | (rw [rfA_cpy]) | (rw [rfA_st]) | (rw [rfA_refI m qn]) | exact beq_self_eq_true _)
      ·
       refine hS.regS [0, 0] [0, 3, 5, 6, 18] fun _ => seg [(203, vb (((qd % 10) : Int) == 6))] [(0, none), (1, none), (2, none)] [] trivial fun ac wd hS => ?_
       refine hS.condC (((qd % 10) : Int) == 6) (fun hb23o hb23 => ?_) (fun hb23o hb23 => ?_)
       ·
        refine St.ordBeginS [(0, 1), (1, 1), (2, 1), (3, 1), (4, 1), (5, 1), (6, 1), (7, 1), (8, 0), (9, 1)] [(g, .fn u (u + n) (strs (pgS m) u)), (wb, .cells [pt b 0, sc g u n cp, vi (rfA m)] 33), ((ν1 0), .cells [v8 qd, vi qa, vi qf, vi qn, vu qx, .string qs] 36)] [0, 1, 2] hS fun wd hS => ?_
        have hap := hS.mem.pairs (Hf := [(g, .fn u (u + n) (strs (pgS m) u)), (wb, .cells [pt b 0, sc g u n cp, vi (rfA m)] 33), ((ν1 0), .cells [v8 qd, vi qa, vi qf, vi qn, vu qx, .string qs] 36)]) (l := [0, 1, 2])
        refine St.ordF [0, 0, 0, 100, 0, 200, 0, 200] [0, 1, 2, 3, 4, 5, 6, 7] [0, 3, 5] (rest := [(8, 0), (9, 1)]) hS hap <| segF [(208, pt b 0), (210, vi qa), (212, .string qs)] [.e (ν1 0), .e (ν1 0), .e wb] trivial fun ac hS => ?_
        refine hS.ordC 8 56 #[pt b 0, vi qa, .string qs] (ar_Put b F m qa qs _ (hS.mem.res 0) ) ?_
        rintro _ wd ⟨F24, rfl, hA, hF⟩
        refine ⟨vi (chkE m qa (((ByteArray.size qs) : Nat) : Int)), rfl, ?_⟩
        replace hS := (hS.to (hS.mem.stepA 0 rfl hA hF)).put (d := 213) (v := vi (chkE m qa (((ByteArray.size qs) : Nat) : Int))) (by decide)
        clear hF
        refine hS.ordV (l := [0, 1, 2]) ?_
        refine St.ordF [0] [9] [0, 3] (rest := []) hS hap <| segF [(5, vi (chkE m qa (((ByteArray.size qs) : Nat) : Int)))] [] trivial fun ac hS => ?_
        refine ord_nil ?_
        refine St.ordBegin [(0, 1), (1, 1), (2, 1), (3, 1), (5, 1), (6, 1), (7, 1), (8, 1), (4, 0), (9, 0), (10, 1), (11, 1), (12, 1), (13, 1), (14, 1), (15, 0), (16, 1)] [(g, .fn u (u + n) (strs (pgS m) u)), ((ν1 0), .cells [v8 qd, vi qa, vi qf, vi qn, vu qx, .string qs] 36)] [0, 2] hS fun wd hS => ?_
        have hap := hS.mem.pairs (Hf := [(g, .fn u (u + n) (strs (pgS m) u)), ((ν1 0), .cells [v8 qd, vi qa, vi qf, vi qn, vu qx, .string qs] 36)]) (l := [0, 2])
        refine St.ordF [0, 0, 0, 0, 0, 100, 0, 100] [0, 1, 2, 3, 5, 6, 7, 8] [5] (rest := [(4, 0), (9, 0), (10, 1), (11, 1), (12, 1), (13, 1), (14, 1), (15, 0), (16, 1)]) hS hap <| segF [(215, pt wb 0), (218, pt wb 1), (221, vi qa), (223, .string qs)] [.e (ν1 0), .e (ν1 0)] trivial fun ac hS => ?_
        refine St.ord1 4 [100] [5, 215, 221, 223] [0, 2] hS rfl fun _ => seg [(219, .agg #[sc g u n cp, vi (rfA m)])] [(0, none), (1, none), (2, none)] [.e wb, .e wb] trivial ⟨by as_aux_lemma => kernel_rfl, fun ac wd hS => ?_⟩
        refine hS.ordC 9 57 #[.agg #[sc g u n cp, vi (rfA m)], vi qa, .string qs] (ref03_PutM g u n cp (rfA m) qa qs m _ (hS.mem.get 0 g (.fn u (u + n) (strs (pgS m) u))) (by first | assumption | omega | (simp_all; done) | (simp_all; omega)) (by first | assumption | omega | (simp_all; done) | (simp_all; omega))) ?_
        rintro _ wd ⟨g225, u226, cp227, rfl, hog0, hoh0, hF⟩
        have ho28 : g225 = g ∨ w.heap.size ≤ g225 := by rcases hog0 with hx | hx; rw [hx]; exact (.inl rfl); exact .inr (Nat.le_trans hS.mem.fr.size hx)
        refine ⟨.tuple #[.agg #[sc g225 u226 n cp227, vi (rfA m)], vi (chkE m qa ((qs.size : Nat) : Int))], rfl, ?_⟩
        replace hS := (hS.to (hS.mem.outs hF [(g225, .fn u226 (u226 + n) (strs (pgS (putM m qa qs)) u226))] ⟨⟨rfl, hoh0, hog0.imp (fun e => ⟨0, .fn u (u + n) (strs (pgS m) u), by rw [e]; rfl, rfl⟩) id⟩, trivial⟩)).put (d := 224) (v := .tuple #[.agg #[sc g225 u226 n cp227, vi (rfA m)], vi (chkE m qa ((qs.size : Nat) : Int))]) (by decide)
        clear hF
        refine hS.ordV (l := [0, 2]) ?_
        refine St.ordF [0, 0, 0, 0, 0] [10, 11, 12, 13, 14] [5] (rest := [(15, 0), (16, 1)]) hS hap <| segF [(225, .agg #[sc g225 u226 n cp227, vi (rfA m)]), (226, vi (chkE m qa ((qs.size : Nat) : Int))), (228, pt wb 1)] [] trivial fun ac hS => ?_
        refine St.ord1 15 [100] [5, 226] [0, 2] hS rfl fun _ => seg [] [(0, none), (1, some (wb, .cells [pt b 0, sc g225 u226 n cp227, vi (rfA m)] 33)), (2, none), (3, none)] [.e wb, .e wb] trivial ⟨by as_aux_lemma => kernel_rfl, fun ac wd hS => ?_⟩
        refine St.ordF [0] [16] [5] (rest := []) hS hap <| segF [(6, vi (chkE m qa ((qs.size : Nat) : Int)))] [] trivial fun ac hS => ?_
        refine ord_nil ?_
        refine pop_block ?_
        refine pop_then ?_
        refine hS.regS [0, 0, 0, 0] [] fun _ => seg [(4, vb (((chkE m qa (((ByteArray.size qs) : Nat) : Int)) : Int) == (chkE m qa ((qs.size : Nat) : Int))))] [(1, none), (3, none)] [] trivial fun ac wd hS => ?_
        refine wp_ret ?_
        refine St.retC 0 hS (vb (((chkE m qa (((ByteArray.size qs) : Nat) : Int)) : Int) == (chkE m qa ((qs.size : Nat) : Int)))) [] trivial fun hw => ?_
        refine ⟨b, (putM m qa qs), g225, u226, cp227, F24, retd (vbool ?_), ?_, (hw.res 0), (hw.wins 0 (show _ = some (wb, .cells [pt b 0, sc g225 u226 n cp227, vi (rfA m)] 33) by as_aux_lemma => kernel_rfl)), (HE.cells_eq (hw.get 0 wb (.cells [pt b 0, sc g225 u226 n cp227, vi (rfA m)] 33)) ?_), ho28, (hw.get 1 g225 (.fn u226 (u226 + n) (strs (pgS (putM m qa qs)) u226))), (fun q_ => hw.free (g225, .fn u226 (u226 + n) (strs (pgS (putM m qa qs)) u226)) (List.mem_of_getElem? (i := 1) (by as_aux_lemma => kernel_rfl)) (.inl q_)), hw.fr0⟩
        all_goals (first | rfl | exact decM_cap _ _ _ | exact comM_cap _ _ _ | exact (putM_com _ _ _).1 | exact (filM_com _ _ _ _).1 | exact (cpyM_com _ _ _ _).1 | exact (stM_com _ _ _ _).1 | (rw [rfA_dec]) | (rw [rfA_put]) | (rw [rfA_fil]) | (rw [rfA_cpy]) | (rw [rfA_st]) | (rw [rfA_refI m qn]) | exact beq_self_eq_true _)
       ·
        refine hS.regS [0, 0] [0, 3, 5, 6, 18] fun _ => seg [(229, vb (((qd % 10) : Int) == 7))] [(0, none), (1, none), (2, none)] [] trivial fun ac wd hS => ?_
        refine hS.condC (((qd % 10) : Int) == 7) (fun hb29o hb29 => ?_) (fun hb29o hb29 => ?_)
        ·
         refine St.ordBeginS [(0, 1), (1, 1), (2, 1), (3, 1), (4, 1), (5, 1), (6, 1), (7, 1), (8, 1), (9, 1), (10, 1), (11, 0), (12, 1)] [(g, .fn u (u + n) (strs (pgS m) u)), (wb, .cells [pt b 0, sc g u n cp, vi (rfA m)] 33), ((ν1 0), .cells [v8 qd, vi qa, vi qf, vi qn, vu qx, .string qs] 36)] [0, 1, 2] hS fun wd hS => ?_
         have hap := hS.mem.pairs (Hf := [(g, .fn u (u + n) (strs (pgS m) u)), (wb, .cells [pt b 0, sc g u n cp, vi (rfA m)] 33), ((ν1 0), .cells [v8 qd, vi qa, vi qf, vi qn, vu qx, .string qs] 36)]) (l := [0, 1, 2])
         refine St.ordF [0, 0, 0, 100, 0, 200, 0, 200, 0, 200, 0] [0, 1, 2, 3, 4, 5, 6, 7, 8, 9, 10] [0, 3, 5] (rest := [(11, 0), (12, 1)]) hS hap <| segF [(234, pt b 0), (236, vi qa), (238, vi qn), (241, v8 (IntKind.wrap .u8 qx))] [.e (ν1 0), .e (ν1 0), .e (ν1 0), .e wb] trivial fun ac hS => ?_
         refine hS.ordC 11 58 #[pt b 0, vi qa, vi qn, v8 (IntKind.wrap .u8 qx)] (ar_Fill_k b F m qa qn (IntKind.wrap .u8 qx) _ (hS.mem.res 0) (by exact wrap_u8 _)) ?_
         rintro _ wd ⟨F30, rfl, hA, hF⟩
         refine ⟨vi (chkE m qa qn), rfl, ?_⟩
         replace hS := (hS.to (hS.mem.stepA 0 rfl hA hF)).put (d := 242) (v := vi (chkE m qa qn)) (by decide)
         clear hF
         refine hS.ordV (l := [0, 1, 2]) ?_
         refine St.ordF [0] [12] [0, 3] (rest := []) hS hap <| segF [(5, vi (chkE m qa qn))] [] trivial fun ac hS => ?_
         refine ord_nil ?_
         refine St.ordBegin [(0, 1), (1, 1), (2, 1), (3, 1), (5, 1), (6, 1), (7, 1), (8, 1), (9, 1), (10, 1), (11, 1), (4, 0), (12, 0), (13, 1), (14, 1), (15, 1), (16, 1), (17, 1), (18, 0), (19, 1)] [(g, .fn u (u + n) (strs (pgS m) u)), ((ν1 0), .cells [v8 qd, vi qa, vi qf, vi qn, vu qx, .string qs] 36)] [0, 2] hS fun wd hS => ?_
         have hap := hS.mem.pairs (Hf := [(g, .fn u (u + n) (strs (pgS m) u)), ((ν1 0), .cells [v8 qd, vi qa, vi qf, vi qn, vu qx, .string qs] 36)]) (l := [0, 2])
         refine St.ordF [0, 0, 0, 0, 0, 100, 0, 100, 0, 100, 0] [0, 1, 2, 3, 5, 6, 7, 8, 9, 10, 11] [5] (rest := [(4, 0), (12, 0), (13, 1), (14, 1), (15, 1), (16, 1), (17, 1), (18, 0), (19, 1)]) hS hap <| segF [(244, pt wb 0), (247, pt wb 1), (250, vi qa), (252, vi qn), (255, v8 (IntKind.wrap .u8 qx))] [.e (ν1 0), .e (ν1 0), .e (ν1 0)] trivial fun ac hS => ?_
         refine St.ord1 4 [100] [5, 244, 250, 252, 255] [0, 2] hS rfl fun _ => seg [(248, .agg #[sc g u n cp, vi (rfA m)])] [(0, none), (1, none), (2, none)] [.e wb, .e wb] trivial ⟨by as_aux_lemma => kernel_rfl, fun ac wd hS => ?_⟩
         refine hS.ordC 12 59 #[.agg #[sc g u n cp, vi (rfA m)], vi qa, vi qn, v8 (IntKind.wrap .u8 qx)] (ref03_FillM g u n cp (rfA m) qa qn (IntKind.wrap .u8 qx) m _ (hS.mem.get 0 g (.fn u (u + n) (strs (pgS m) u))) (by first | assumption | omega | (simp_all; done) | (simp_all; omega)) (by first | assumption | omega | (simp_all; done) | (simp_all; omega)) (by exact wrap_u8 _)) ?_
         rintro _ wd ⟨g231, u232, cp233, rfl, hog0, hoh0, hF⟩
         have ho34 : g231 = g ∨ w.heap.size ≤ g231 := by rcases hog0 with hx | hx; rw [hx]; exact (.inl rfl); exact .inr (Nat.le_trans hS.mem.fr.size hx)
         refine ⟨.tuple #[.agg #[sc g231 u232 n cp233, vi (rfA m)], vi (chkE m qa qn)], rfl, ?_⟩
         replace hS := (hS.to (hS.mem.outs hF [(g231, .fn u232 (u232 + n) (strs (pgS (filM m qa qn (u8 (IntKind.wrap .u8 qx)))) u232))] ⟨⟨rfl, hoh0, hog0.imp (fun e => ⟨0, .fn u (u + n) (strs (pgS m) u), by rw [e]; rfl, rfl⟩) id⟩, trivial⟩)).put (d := 256) (v := .tuple #[.agg #[sc g231 u232 n cp233, vi (rfA m)], vi (chkE m qa qn)]) (by decide)
         clear hF
         refine hS.ordV (l := [0, 2]) ?_
         refine St.ordF [0, 0, 0, 0, 0] [13, 14, 15, 16, 17] [5] (rest := [(18, 0), (19, 1)]) hS hap <| segF [(257, .agg #[sc g231 u232 n cp233, vi (rfA m)]), (258, vi (chkE m qa qn)), (260, pt wb 1)] [] trivial fun ac hS => ?_
         refine St.ord1 18 [100] [5, 258] [0, 2] hS rfl fun _ => seg [] [(0, none), (1, some (wb, .cells [pt b 0, sc g231 u232 n cp233, vi (rfA m)] 33)), (2, none), (3, none)] [.e wb, .e wb] trivial ⟨by as_aux_lemma => kernel_rfl, fun ac wd hS => ?_⟩
         refine St.ordF [0] [19] [5] (rest := []) hS hap <| segF [(6, vi (chkE m qa qn))] [] trivial fun ac hS => ?_
         refine ord_nil ?_
         refine pop_block ?_
         refine pop_then ?_
         refine hS.regS [0, 0, fx 0 (vb true), 0] [] fun _ => seg [(4, vb true)] [(1, none), (3, none)] [.p ((vb (((chkE m qa qn) : Int) == (chkE m qa qn)) : Value) = vb true)] ⟨(congrArg Value.bool (beq_self_eq_true _)), trivial⟩ fun ac wd hS => ?_
         refine wp_ret ?_
         refine St.retC 0 hS (vb true) [] trivial fun hw => ?_
         refine ⟨b, (filM m qa qn (u8 (IntKind.wrap .u8 qx))), g231, u232, cp233, F30, retd rfl, ?_, (hw.res 0), (hw.wins 0 (show _ = some (wb, .cells [pt b 0, sc g231 u232 n cp233, vi (rfA m)] 33) by as_aux_lemma => kernel_rfl)), (HE.cells_eq (hw.get 0 wb (.cells [pt b 0, sc g231 u232 n cp233, vi (rfA m)] 33)) ?_), ho34, (hw.get 1 g231 (.fn u232 (u232 + n) (strs (pgS (filM m qa qn (u8 (IntKind.wrap .u8 qx)))) u232))), (fun q_ => hw.free (g231, .fn u232 (u232 + n) (strs (pgS (filM m qa qn (u8 (IntKind.wrap .u8 qx)))) u232)) (List.mem_of_getElem? (i := 1) (by as_aux_lemma => kernel_rfl)) (.inl q_)), hw.fr0⟩
         all_goals (first | rfl | exact decM_cap _ _ _ | exact comM_cap _ _ _ | exact (putM_com _ _ _).1 | exact (filM_com _ _ _ _).1 | exact (cpyM_com _ _ _ _).1 | exact (stM_com _ _ _ _).1 | (rw [rfA_dec]) | (rw [rfA_put]) | (rw [rfA_fil]) | (rw [rfA_cpy]) | (rw [rfA_st]) | (rw [rfA_refI m qn]) | exact beq_self_eq_true _)
        ·
         refine hS.regS [0, 0] [0, 3, 5, 6] fun _ => seg [(261, vb (((qd % 10) : Int) == 8))] [(0, none), (1, none), (2, none)] [] trivial fun ac wd hS => ?_
         refine hS.condC (((qd % 10) : Int) == 8) (fun hb35o hb35 => ?_) (fun hb35o hb35 => ?_)
         ·
          refine St.ordBeginS [(0, 1), (1, 1), (2, 1), (3, 1), (4, 1), (5, 1), (6, 1), (7, 1), (8, 1), (9, 1), (10, 0), (11, 1)] [(g, .fn u (u + n) (strs (pgS m) u)), (wb, .cells [pt b 0, sc g u n cp, vi (rfA m)] 33), ((ν1 0), .cells [v8 qd, vi qa, vi qf, vi qn, vu qx, .string qs] 36)] [0, 1, 2] hS fun wd hS => ?_
          have hap := hS.mem.pairs (Hf := [(g, .fn u (u + n) (strs (pgS m) u)), (wb, .cells [pt b 0, sc g u n cp, vi (rfA m)] 33), ((ν1 0), .cells [v8 qd, vi qa, vi qf, vi qn, vu qx, .string qs] 36)]) (l := [0, 1, 2])
          refine St.ordF [0, 0, 0, 100, 0, 200, 0, 200, 0, 200] [0, 1, 2, 3, 4, 5, 6, 7, 8, 9] [0, 3, 5] (rest := [(10, 0), (11, 1)]) hS hap <| segF [(266, pt b 0), (268, vi qa), (270, vi qf), (272, vi qn)] [.e (ν1 0), .e (ν1 0), .e (ν1 0), .e wb] trivial fun ac hS => ?_
          refine hS.ordC 10 60 #[pt b 0, vi qa, vi qf, vi qn] (ar_Copy b F m qa qf qn _ (hS.mem.res 0) ) ?_
          rintro _ wd ⟨F36, rfl, hA, hF⟩
          refine ⟨vi (cpyE m qa qf qn), rfl, ?_⟩
          replace hS := (hS.to (hS.mem.stepA 0 rfl hA hF)).put (d := 273) (v := vi (cpyE m qa qf qn)) (by decide)
          clear hF
          refine hS.ordV (l := [0, 1, 2]) ?_
          refine St.ordF [0] [11] [0, 3] (rest := []) hS hap <| segF [(5, vi (cpyE m qa qf qn))] [] trivial fun ac hS => ?_
          refine ord_nil ?_
          refine St.ordBegin [(0, 1), (1, 1), (2, 1), (3, 1), (5, 1), (6, 1), (7, 1), (8, 1), (9, 1), (10, 1), (4, 0), (11, 0), (12, 1), (13, 1), (14, 1), (15, 1), (16, 1), (17, 0), (18, 1)] [(g, .fn u (u + n) (strs (pgS m) u)), ((ν1 0), .cells [v8 qd, vi qa, vi qf, vi qn, vu qx, .string qs] 36)] [0, 2] hS fun wd hS => ?_
          have hap := hS.mem.pairs (Hf := [(g, .fn u (u + n) (strs (pgS m) u)), ((ν1 0), .cells [v8 qd, vi qa, vi qf, vi qn, vu qx, .string qs] 36)]) (l := [0, 2])
          refine St.ordF [0, 0, 0, 0, 0, 100, 0, 100, 0, 100] [0, 1, 2, 3, 5, 6, 7, 8, 9, 10] [5] (rest := [(4, 0), (11, 0), (12, 1), (13, 1), (14, 1), (15, 1), (16, 1), (17, 0), (18, 1)]) hS hap <| segF [(275, pt wb 0), (278, pt wb 1), (281, vi qa), (283, vi qf), (285, vi qn)] [.e (ν1 0), .e (ν1 0), .e (ν1 0)] trivial fun ac hS => ?_
          refine St.ord1 4 [100] [5, 275, 281, 283, 285] [0, 2] hS rfl fun _ => seg [(279, .agg #[sc g u n cp, vi (rfA m)])] [(0, none), (1, none), (2, none)] [.e wb, .e wb] trivial ⟨by as_aux_lemma => kernel_rfl, fun ac wd hS => ?_⟩
          refine hS.ordC 11 61 #[.agg #[sc g u n cp, vi (rfA m)], vi qa, vi qf, vi qn] (ref03_CopyM g u n cp (rfA m) qa qf qn m _ (hS.mem.get 0 g (.fn u (u + n) (strs (pgS m) u))) (by first | assumption | omega | (simp_all; done) | (simp_all; omega)) (by first | assumption | omega | (simp_all; done) | (simp_all; omega))) ?_
          rintro _ wd ⟨g237, u238, cp239, rfl, hog0, hoh0, hF⟩
          have ho40 : g237 = g ∨ w.heap.size ≤ g237 := by rcases hog0 with hx | hx; rw [hx]; exact (.inl rfl); exact .inr (Nat.le_trans hS.mem.fr.size hx)
          refine ⟨.tuple #[.agg #[sc g237 u238 n cp239, vi (rfA m)], vi (cpyE m qa qf qn)], rfl, ?_⟩
          replace hS := (hS.to (hS.mem.outs hF [(g237, .fn u238 (u238 + n) (strs (pgS (cpyM m qa qf qn)) u238))] ⟨⟨rfl, hoh0, hog0.imp (fun e => ⟨0, .fn u (u + n) (strs (pgS m) u), by rw [e]; rfl, rfl⟩) id⟩, trivial⟩)).put (d := 286) (v := .tuple #[.agg #[sc g237 u238 n cp239, vi (rfA m)], vi (cpyE m qa qf qn)]) (by decide)
          clear hF
          refine hS.ordV (l := [0, 2]) ?_
          refine St.ordF [0, 0, 0, 0, 0] [12, 13, 14, 15, 16] [5] (rest := [(17, 0), (18, 1)]) hS hap <| segF [(287, .agg #[sc g237 u238 n cp239, vi (rfA m)]), (288, vi (cpyE m qa qf qn)), (290, pt wb 1)] [] trivial fun ac hS => ?_
          refine St.ord1 17 [100] [5, 288] [0, 2] hS rfl fun _ => seg [] [(0, none), (1, some (wb, .cells [pt b 0, sc g237 u238 n cp239, vi (rfA m)] 33)), (2, none), (3, none)] [.e wb, .e wb] trivial ⟨by as_aux_lemma => kernel_rfl, fun ac wd hS => ?_⟩
          refine St.ordF [0] [18] [5] (rest := []) hS hap <| segF [(6, vi (cpyE m qa qf qn))] [] trivial fun ac hS => ?_
          refine ord_nil ?_
          refine pop_block ?_
          refine pop_then ?_
          refine hS.regS [0, 0, fx 0 (vb true), 0] [] fun _ => seg [(4, vb true)] [(1, none), (3, none)] [.p ((vb (((cpyE m qa qf qn) : Int) == (cpyE m qa qf qn)) : Value) = vb true)] ⟨(congrArg Value.bool (beq_self_eq_true _)), trivial⟩ fun ac wd hS => ?_
          refine wp_ret ?_
          refine St.retC 0 hS (vb true) [] trivial fun hw => ?_
          refine ⟨b, (cpyM m qa qf qn), g237, u238, cp239, F36, retd rfl, ?_, (hw.res 0), (hw.wins 0 (show _ = some (wb, .cells [pt b 0, sc g237 u238 n cp239, vi (rfA m)] 33) by as_aux_lemma => kernel_rfl)), (HE.cells_eq (hw.get 0 wb (.cells [pt b 0, sc g237 u238 n cp239, vi (rfA m)] 33)) ?_), ho40, (hw.get 1 g237 (.fn u238 (u238 + n) (strs (pgS (cpyM m qa qf qn)) u238))), (fun q_ => hw.free (g237, .fn u238 (u238 + n) (strs (pgS (cpyM m qa qf qn)) u238)) (List.mem_of_getElem? (i := 1) (by as_aux_lemma => kernel_rfl)) (.inl q_)), hw.fr0⟩
          all_goals (first | rfl | exact decM_cap _ _ _ | exact comM_cap _ _ _ | exact (putM_com _ _ _).1 | exact (filM_com _ _ _ _).1 | exact (cpyM_com _ _ _ _).1 | exact (stM_com _ _ _ _).1 | (rw [rfA_dec]) | (rw [rfA_put]) | (rw [rfA_fil]) | (rw [rfA_cpy]) | (rw [rfA_st]) | (rw [rfA_refI m qn]) | exact beq_self_eq_true _)
         ·
          refine hS.regS [0, 0, 0, 100, 0] [0, 5, 6] fun _ => seg [(15, pt b 0)] [(0, none), (1, none)] [.e wb] trivial fun ac wd hS => ?_
          refine wp_region_seq ?_
          refine hS.opsC 5 [0, 0, 0, 0, 100] [5, 6, 15] fun _ => seg [(23, pt wb 0), (27, pt b 0)] [(0, none), (1, none)] [.e wb] trivial fun ac wd hS => ?_
          refine hS.callC 38 #[pt b 0] (ar_CloneT b F m _ (hS.mem.res 0) ) ?_
          rintro _ wd ⟨b'41, F42, rfl, hN, hF⟩
          refine ⟨pt b'41 0, rfl, ?_⟩
          replace hS := (hS.to (hS.mem.stepA 0 (r' := twR b F42 (b'41, m, m)) rfl hN hF)).put (d := 28) (v := pt b'41 0) (by decide)
          clear hF
          refine hS.opsC 3 [0, 0, 100] [5, 6, 15] fun _ => seg [] [(0, none), (1, some (wb, .cells [pt b'41 0, sc g u n cp, vi (rfA m)] 33))] [.e wb] trivial fun ac wd hS => ?_
          refine list_nil_seq ?_
          refine wp_region_seq ?_
          refine hS.opsC 1 [0] [5, 6, 15] fun _ => seg [(31, pt b 0)] [(0, none), (1, none)] [] trivial fun ac wd hS => ?_
          refine hS.callC 50 #[pt b 0, vi 0, vi 1] (tw_Decommit b F42 (b'41, m, m) 0 1 _ (hS.mem.res 0) ) ?_
          rintro _ wd ⟨F43, rfl, hA, hF⟩
          refine ⟨vi (decE (b'41, m, m).2.1 0 1), rfl, ?_⟩
          replace hS := (hS.to (hS.mem.stepA 0 rfl hA hF)).put (d := 32) (v := vi (decE (b'41, m, m).2.1 0 1)) (by decide)
          clear hF
          refine list_nil_seq ?_
          refine wp_region_lit ?_
          refine hS.opsC 2 [0, 0] [5, 6] fun _ => seg [(33, pt b 0), (34, pt b 0)] [(0, none), (1, none)] [] trivial fun ac wd hS => ?_
          refine hS.call0 19 #[pt b 0] 35 (tw_Cap b F43 ((b'41, m, m).1, decM (b'41, m, m).2.1 0 1, (b'41, m, m).2.2) _ (hS.mem.res 0) ) fun ac wd hS => ?_
          refine hS.callC 21 #[pt b 0, vi 0, vi ((((b'41, m, m).1, decM (b'41, m, m).2.1 0 1, (b'41, m, m).2.2).2.1.cap : Nat) : Int)] (tw_Commit b F43 ((b'41, m, m).1, decM (b'41, m, m).2.1 0 1, (b'41, m, m).2.2) 0 ((((b'41, m, m).1, decM (b'41, m, m).2.1 0 1, (b'41, m, m).2.2).2.1.cap : Nat) : Int) _ (hS.mem.res 0) ) ?_
          rintro _ wd ⟨F44, rfl, hA, hF⟩
          refine ⟨vi (comE ((b'41, m, m).1, decM (b'41, m, m).2.1 0 1, (b'41, m, m).2.2).2.1 0 ((((b'41, m, m).1, decM (b'41, m, m).2.1 0 1, (b'41, m, m).2.2).2.1.cap : Nat) : Int)), rfl, ?_⟩
          replace hS := (hS.to (hS.mem.stepA 0 rfl hA hF)).put (d := 36) (v := vi (comE ((b'41, m, m).1, decM (b'41, m, m).2.1 0 1, (b'41, m, m).2.2).2.1 0 ((((b'41, m, m).1, decM (b'41, m, m).2.1 0 1, (b'41, m, m).2.2).2.1.cap : Nat) : Int))) (by decide)
          clear hF
          refine list_nil ?_
          refine pop_block ?_
          refine pop_then ?_
          obtain ⟨F9, hS9⟩ : ∃ F2, WS _ _ [arR b'41 F2 m] _ := WS.twDrop hS.mem
          replace hS := hS.to hS9
          refine hS.regS [0, 0, 0, 0] [] fun _ => seg [(4, vb true)] [(0, none), (1, none)] [] trivial fun ac wd hS => ?_
          refine wp_ret ?_
          refine St.retC 0 hS (vb true) [] trivial fun hw => ?_
          refine ⟨b'41, m, g, u, cp, F9, retd rfl, ?_, (hw.res 0), (hw.wins 1 (show _ = some (wb, .cells [pt b'41 0, sc g u n cp, vi (rfA m)] 33) by as_aux_lemma => kernel_rfl)), (hw.get 1 wb (.cells [pt b'41 0, sc g u n cp, vi (rfA m)] 33)), (.inl rfl), (hw.get 0 g (.fn u (u + n) (strs (pgS m) u))), (fun q_ => hw.free (g, .fn u (u + n) (strs (pgS m) u)) (List.mem_of_getElem? (i := 0) (by as_aux_lemma => kernel_rfl)) (.inl q_)), hw.fr0⟩
          all_goals (first | rfl | exact decM_cap _ _ _ | exact comM_cap _ _ _ | exact (putM_com _ _ _).1 | exact (filM_com _ _ _ _).1 | exact (cpyM_com _ _ _ _).1 | exact (stM_com _ _ _ _).1 | (rw [rfA_dec]) | (rw [rfA_put]) | (rw [rfA_fil]) | (rw [rfA_cpy]) | (rw [rfA_st]) | (rw [rfA_refI m qn]) | exact beq_self_eq_true _)

end Go.Proofs.YtdjhdcaanmkblaaDoor.K
