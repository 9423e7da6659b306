/-
  Walks, printed by w2.py.
-/
import Derived.Test.YthgkiieenojcpaaDoorYf
import Derived.Test.YthgkiieenojcpaaDoorYg
import Derived.Test.YthgkiieenojcpaaDoorSj
import Derived.Test.YthgkiieenojcpaaDoorProg
namespace Go.Proofs.YthgkiieenojcpaaDoor.K
set_option linter.unusedVariables false
set_option linter.unusedSimpArgs false

theorem str_Join (ao1 : Option Addr) (c1 : Nat) (g1 : Nat) (o1 : Nat) (l : List (ByteArray)) (w : World) (hh0 : HE.holds w g1 (.fn o1 (o1 + l.length) (s1V (gtD l) o1))) (hv1 : (l.length = 0 ∨ ao1 = some ⟨g1, o1, none⟩)) (hln : l.length ≤ 4294967296) (hcp : l.length ≤ c1) (hJ : (joinS l).size ≤ 1048576) :
    Calls Tryd.prog 40 #[.slice ao1 l.length c1, .string (⟨#[]⟩ : ByteArray)] w fun e w' => e = .returned (.string (joinS l)) ∧ Fr w w' no no := by
 rcases Nat.eq_zero_or_pos l.length with h0 | h0
 · obtain rfl := List.eq_nil_of_length_eq_zero h0
   exact (Tryd.strings_Join_none ao1 c1 _ w).mono fun e w' h9 => ⟨h9.1, h9.2 ▸ Fr.refl w no⟩
 · obtain rfl := hv1.resolve_left (by omega)
   obtain ⟨hb, hc⟩ := s1V_cell hh0
   refine (Tryd.strings_Join g1 o1 c1 l _ w hc (hb h0) ?_ hcp ?_).mono fun e w' h9 => ⟨h9.1, Below_Fr h9.2⟩
   · have : l.length ≤ c1 := hcp
     exact Nat.le_trans hln (by decide)
   · have e9 : (joinS l).size = (Lib.join (l.map (·.data.toList)) []).length := by unfold joinS; show (List.toArray _).size = _; rw [List.size_toArray]
     have : (Lib.join (l.map (·.data.toList)) []).length ≤ 1048576 := e9 ▸ hJ
     exact Nat.le_trans this (by decide)

set_option maxRecDepth 100000 in
set_option maxHeartbeats 1000000 in
theorem vw_Texts (b : Nat) (F : Nat → Prop) (m : AM) (o_ : Int) (z : Int) (ao1 : Option Addr) (c1 : Nat) (g1 : Nat) (o1 : Nat) (l : List (ByteArray)) (w : World) (hr : (arR b F m).R w) (hh0 : HE.holds w g1 (.fn o1 (o1 + l.length) (s1V (gtD l) o1))) (hf0 : ¬ F g1) (ho : 0 ≤ o_ ∧ 0 ≤ z ∧ o_ + z ≤ 4294967296) (hv1 : (l.length = 0 ∨ ao1 = some ⟨g1, o1, none⟩)) (hln : l.length ≤ 4294967296) (hcp : l.length ≤ c1) (hJ : (joinS l).size ≤ 1048576) :
    Calls Tryd.prog 41 #[.agg #[pt b 0, vi o_, vi z], .slice ao1 l.length c1] w fun e w' => ∃ (F' : Nat → Prop), e = .returned (vi (vptE m o_ z 0 (joinS l))) ∧ (arR b F' (vptM m o_ z 0 (joinS l))).R w' ∧ Fr w w' F F' := by
 refine enter (args := [.agg #[pt b 0, vi o_, vi z], .slice ao1 l.length c1]) (D := F) (A := [arR b F m]) Tryd.func41 rfl 9 rfl [(g1, .fn o1 (o1 + l.length) (s1V (gtD l) o1))] (WS.startA (r := arR b F m) hr ⟨⟨rfl, hh0⟩, trivial⟩ ⟨hf0, trivial⟩) fun ac hS => ?_
 refine hS.regS [0, 0] [1] fun ν1 => seg [(2, pt (ν1 0) 0)] [(0, none), (1, some ((ν1 0), .cells [pt b 0, vi o_, vi z] 72))] [] trivial fun ac wd hS => ?_
 refine St.ordBeginS [(0, 1), (1, 1), (2, 0), (3, 0), (4, 1)] [(g1, .fn o1 (o1 + l.length) (s1V (gtD l) o1)), ((ν1 0), .cells [pt b 0, vi o_, vi z] 72)] [0, 1] hS fun wd hS => ?_
 have hap := hS.mem.pairs (Hf := [(g1, .fn o1 (o1 + l.length) (s1V (gtD l) o1)), ((ν1 0), .cells [pt b 0, vi o_, vi z] 72)]) (l := [0, 1])
 refine St.ordF [100, 0] [0, 1] [] (rest := [(2, 0), (3, 0), (4, 1)]) hS hap <| segF [(5, .agg #[pt b 0, vi o_, vi z]), (6, .slice ao1 l.length c1)] [.e (ν1 0), .e (ν1 0), .e (ν1 0)] trivial fun ac hS => ?_
 refine hS.ordC 2 40 #[.slice ao1 l.length c1, .string (⟨#[]⟩ : ByteArray)] (str_Join ao1 c1 g1 o1 l _ (hS.mem.get 0 g1 (.fn o1 (o1 + l.length) (s1V (gtD l) o1))) hv1 (by first | assumption | omega | (simp_all; done) | (simp_all; omega)) (by first | assumption | omega | (simp_all; done) | (simp_all; omega)) (by first | assumption | omega | (simp_all; done) | (simp_all; omega))) ?_
 rintro _ wd ⟨rfl, hF⟩
 refine ⟨.string (joinS l), rfl, ?_⟩
 replace hS := (hS.to (hS.mem.keep0 hF)).put (d := 7) (v := .string (joinS l)) (by decide)
 clear hF
 refine hS.ordV (l := [0, 1]) ?_
 refine hS.ordC 3 107 #[.agg #[pt b 0, vi o_, vi z], vi 0, .string (joinS l)] (vw_Put b F m o_ z 0 (joinS l) _ (hS.mem.res 0) (by first | assumption | omega | (simp_all; done) | (simp_all; omega))) ?_
 rintro _ wd ⟨F1, rfl, hA, hF⟩
 refine ⟨vi (vptE m o_ z 0 (joinS l)), rfl, ?_⟩
 replace hS := (hS.to (hS.mem.stepA 0 rfl hA hF)).put (d := 8) (v := vi (vptE m o_ z 0 (joinS l))) (by decide)
 clear hF
 refine hS.ordV (l := [0, 1]) ?_
 refine St.ordF [0] [4] [] (rest := []) hS hap <| segF [(4, vi (vptE m o_ z 0 (joinS l)))] [] trivial fun ac hS => ?_
 refine ord_nil ?_
 refine wp_ret ?_
 refine St.retC 0 hS (vi (vptE m o_ z 0 (joinS l))) [] trivial fun hw => ?_
 refine ⟨F1, retd rfl, (hw.res 0), hw.frA⟩

set_option maxRecDepth 100000 in
set_option maxHeartbeats 1000000 in
theorem vw_Texts_nil (ao1 : Option Addr) (c1 : Nat) (g1 : Nat) (o1 : Nat) (l : List (ByteArray)) (w : World) (hh0 : HE.holds w g1 (.fn o1 (o1 + l.length) (s1V (gtD l) o1))) (hv1 : (l.length = 0 ∨ ao1 = some ⟨g1, o1, none⟩)) (hln : l.length ≤ 4294967296) (hcp : l.length ≤ c1) (hJ : (joinS l).size ≤ 1048576) :
    Calls Tryd.prog 41 #[.agg #[pnil, vi 0, vi 0], .slice ao1 l.length c1] w fun e w' => e = .returned (vi 1) ∧ Fr w w' no no := by
 refine enter (args := [.agg #[pnil, vi 0, vi 0], .slice ao1 l.length c1]) (D := no) (A := []) Tryd.func41 rfl 9 rfl [(g1, .fn o1 (o1 + l.length) (s1V (gtD l) o1))] (WS.startL ⟨⟨rfl, hh0⟩, trivial⟩) fun ac hS => ?_
 refine hS.regS [0, 0] [1] fun ν1 => seg [(2, pt (ν1 0) 0)] [(0, none), (1, some ((ν1 0), .cells [pnil, vi 0, vi 0] 72))] [] trivial fun ac wd hS => ?_
 refine St.ordBeginS [(0, 1), (1, 1), (2, 0), (3, 0), (4, 1)] [(g1, .fn o1 (o1 + l.length) (s1V (gtD l) o1)), ((ν1 0), .cells [pnil, vi 0, vi 0] 72)] [0, 1] hS fun wd hS => ?_
 have hap := hS.mem.pairs (Hf := [(g1, .fn o1 (o1 + l.length) (s1V (gtD l) o1)), ((ν1 0), .cells [pnil, vi 0, vi 0] 72)]) (l := [0, 1])
 refine St.ordF [100, 0] [0, 1] [] (rest := [(2, 0), (3, 0), (4, 1)]) hS hap <| segF [(5, .agg #[pnil, vi 0, vi 0]), (6, .slice ao1 l.length c1)] [.e (ν1 0), .e (ν1 0), .e (ν1 0)] trivial fun ac hS => ?_
 refine hS.ordC 2 40 #[.slice ao1 l.length c1, .string (⟨#[]⟩ : ByteArray)] (str_Join ao1 c1 g1 o1 l _ (hS.mem.get 0 g1 (.fn o1 (o1 + l.length) (s1V (gtD l) o1))) hv1 (by first | assumption | omega | (simp_all; done) | (simp_all; omega)) (by first | assumption | omega | (simp_all; done) | (simp_all; omega)) (by first | assumption | omega | (simp_all; done) | (simp_all; omega))) ?_
 rintro _ wd ⟨rfl, hF⟩
 refine ⟨.string (joinS l), rfl, ?_⟩
 replace hS := (hS.to (hS.mem.keep0 hF)).put (d := 7) (v := .string (joinS l)) (by decide)
 clear hF
 refine hS.ordV (l := [0, 1]) ?_
 refine hS.ordC 3 107 #[.agg #[pnil, vi 0, vi 0], vi 0, .string (joinS l)] (vnil_Put 0 (joinS l) _  ) ?_
 rintro _ wd ⟨rfl, hF⟩
 refine ⟨vi 1, rfl, ?_⟩
 replace hS := (hS.to (hS.mem.keep0 hF)).put (d := 8) (v := vi 1) (by decide)
 clear hF
 refine hS.ordV (l := [0, 1]) ?_
 refine St.ordF [0] [4] [] (rest := []) hS hap <| segF [(4, vi 1)] [] trivial fun ac hS => ?_
 refine ord_nil ?_
 refine wp_ret ?_
 refine St.retC 0 hS (vi 1) [] trivial fun hw => ?_
 refine ⟨retd rfl, hw.fr0⟩

set_option maxRecDepth 100000 in
set_option maxHeartbeats 1000000 in
theorem law04_ViewTexts_a (z : Int) (ao1 : Option Addr) (c1 : Nat) (g1 : Nat) (o1 : Nat) (l : List (ByteArray)) (w : World) (hh0 : HE.holds w 0 (.fn 0 64 dbT)) (hh1 : HE.holds w g1 (.fn o1 (o1 + l.length) (s1V (gtD l) o1))) (hv1 : (l.length = 0 ∨ ao1 = some ⟨g1, o1, none⟩)) (hcp : l.length ≤ c1) (hz : thr (comM (AM.new 3) 0 3) 50 z = false) :
    Calls Tryd.prog 6 #[vi z, .slice ao1 l.length c1] w fun e w' => e = .returned (vb true) ∧ Fr w w' no no := by
 refine enter (args := [vi z, .slice ao1 l.length c1]) (D := no) (A := []) Tryd.func6 rfl 88 rfl [(0, .fn 0 64 dbT), (g1, .fn o1 (o1 + l.length) (s1V (gtD l) o1))] (WS.startL ⟨⟨rfl, hh0⟩, ⟨rfl, hh1⟩, trivial⟩) fun ac hS => ?_
 refine hS.regS [0] [0, 1] fun _ => seg [] [(0, none), (1, none)] [] trivial fun ac wd hS => ?_
 refine wp_seq ?_
 refine wp_region_seq ?_
 refine hS.call0 37 #[] 14 (law04_awake  _ (hS.mem.get 0 0 (.fn 0 64 dbT)) ) fun ac wd hS => ?_
 refine hS.opsC 1 [0] [0, 1] fun _ => seg [(15, vb false)] [(0, none), (1, none)] [] trivial fun ac wd hS => ?_
 refine list_nil_seq ?_
 refine hS.condF ?_
 refine wp_skip ?_
 refine pop_then ?_
 refine wp_seq ?_
 refine hS.regS [0, 0, 0] [0, 1] fun _ => seg [(18, vb (decide ((20 : Int) < ((l.length : Nat) : Int))))] [(0, none), (1, none)] [] trivial fun ac wd hS => ?_
 refine hS.condC (decide ((20 : Int) < ((l.length : Nat) : Int))) (fun hb1o hb1 => ?_) (fun hb1o hb1 => ?_)
 ·
  refine hS.regS [0] [] fun _ => seg [(4, vb true)] [(0, none)] [] trivial fun ac wd hS => ?_
  refine wp_ret ?_
  refine pop_then_ret ?_
  refine St.retC 0 hS (vb true) [] trivial fun hw => ?_
  refine ⟨retd rfl, hw.fr0⟩
 ·
  refine wp_skip ?_
  refine pop_then ?_
  refine wp_seq ?_
  refine hS.regS [0, 0, 0] [0, 1] fun _ => seg [(19, .slice ao1 l.length c1), (20, vi ((l.length : Nat) : Int)), (21, vi 0)] [(0, none), (1, none)] [] trivial fun ac wd hS => ?_
  refine wp_block ?_
  refine St.loopC (σ := Int) (fun (x21 : Int) => ⟨[(0, [], vi z), (1, [], .slice ao1 l.length c1), (19, [], .slice ao1 l.length c1), (20, [], vi ((l.length : Nat) : Int)), (21, [], vi x21)], [(0, .fn 0 64 dbT), (g1, .fn o1 (o1 + l.length) (s1V (gtD l) o1))], [], (0 ≤ x21 ∧ x21 ≤ ((l.length : Nat) : Int)) ∧ (∀ k : Nat, (k : Int) < x21 → k < l.length → (gtD l k).size ≤ 500) ∧ True, l.length - Int.toNat x21⟩) 0 ⟨(by omega), (by intro k_ hk_; omega), trivial⟩ hS ?_
  clear hS
  rintro x21 ⟨i0, i1, -⟩ ac wd hS
  replace i0 : 0 ≤ x21 ∧ x21 ≤ ((l.length : Nat) : Int) := i0
  replace i1 : ∀ k : Nat, (k : Int) < x21 → k < l.length → (gtD l k).size ≤ 500 := i1
  refine hS.regS [0] [0, 1, 19, 20, 21] fun _ => seg [(22, vb (decide ((x21 : Int) < ((l.length : Nat) : Int))))] [(0, none), (1, none)] [] trivial fun ac wd hS => ?_
  refine wp_seq ?_
  refine hS.condC (decide ((x21 : Int) < ((l.length : Nat) : Int))) (fun hb2o hb2 => ?_) (fun hb2o hb2 => ?_)
  ·
   refine wp_skip ?_
   refine pop_then ?_
   refine wp_seq ?_
   refine wp_block ?_
   obtain rfl : ao1 = some ⟨g1, o1, none⟩ := Or.resolve_left hv1 (by omega)
   refine hS.regS [20, fx 100 (.string ((gtD l) (Int.toNat x21))), 0] [0, 1, 19, 20, 21] fun _ => seg [(6, .string ((gtD l) (Int.toNat x21)))] [(0, none), (1, none)] [.p ((((s1V (gtD l) o1) (o1 + Int.toNat x21 * 1)) : Value) = .string ((gtD l) (Int.toNat x21))), .e g1, .p (o1 ≤ o1 + Int.toNat x21 * 1 ∧ o1 + Int.toNat x21 * 1 < (o1 + l.length)), .p ((0 : Int) ≤ x21 ∧ (x21 : Int) < ((l.length : Nat) : Int))] ⟨((s1V_0 (gtD l) o1 (Int.toNat x21))), (by omega), (by omega), trivial⟩ fun ac wd hS => ?_
   refine hS.regS [0, 0, 0] [0, 1, 19, 20, 21] fun _ => seg [(27, vb (decide ((500 : Int) < ((ByteArray.size ((gtD l) (Int.toNat x21)) : Nat) : Int))))] [(0, none), (1, none)] [] trivial fun ac wd hS => ?_
   refine hS.condC (decide ((500 : Int) < ((ByteArray.size ((gtD l) (Int.toNat x21)) : Nat) : Int))) (fun hb3o hb3 => ?_) (fun hb3o hb3 => ?_)
   ·
    refine hS.regS [0] [] fun _ => seg [(4, vb true)] [(0, none)] [] trivial fun ac wd hS => ?_
    refine wp_ret ?_
    refine pop_block_ret ?_
    refine pop_then_ret ?_
    refine pop_then_ret ?_
    refine pop_block_ret ?_
    refine pop_then_ret ?_
    refine St.retC 0 hS (vb true) [] trivial fun hw => ?_
    refine ⟨retd rfl, hw.fr0⟩
   ·
    refine wp_skip ?_
    refine pop_block ?_
    refine pop_then ?_
    refine hS.regC [20, 0] [0, 1, 19, 20] fun _ => seg [(21, vi (x21 + 1))] [(0, none), (1, none)] [.p (fit .i64 (x21 + 1))] ⟨fit_i64 (by omega), trivial⟩ fun ac wd hS => ?_
    exact pop_then (hS.next (x21 + 1) ⟨(by first | omega | assumption | (simp; done) | (simp; omega)), (by exact up_step i1 i0.1 (by omega)), trivial⟩ (by dsimp only; omega))
  ·
   refine wp_exit ?_
   refine pop_then_exit ?_
   refine pop_then_exit ?_
   refine pop_block_hit ?_
   refine pop_then ?_
   have hJb := joinS_bd i1 (by omega) (by omega)
   refine wp_region_seq ?_
   refine hS.callC 27 #[vi 3] (ar_New 3 _  ) ?_
   rintro _ wd ⟨b'4, F5, rfl, hN, hF⟩
   refine ⟨pt b'4 0, rfl, ?_⟩
   replace hS := (hS.to (hS.mem.newA hN hF)).put (d := 29) (v := pt b'4 0) (by decide)
   clear hF
   refine hS.opsC 1 [0] [0, 1] fun _ => seg [(7, pt b'4 0)] [(0, none), (1, none)] [] trivial fun ac wd hS => ?_
   refine list_nil_seq ?_
   refine wp_seq ?_
   refine wp_region_seq ?_
   refine hS.opsC 1 [0] [0, 1, 7] fun _ => seg [(30, pt b'4 0)] [(0, none), (1, none)] [] trivial fun ac wd hS => ?_
   refine hS.callC 38 #[pt b'4 0, vi 0, vi 3] (ar_Commit b'4 F5 (AM.new 3) 0 3 _ (hS.mem.res 0) ) ?_
   rintro _ wd ⟨F6, rfl, hA, hF⟩
   refine ⟨vi (comE (AM.new 3) 0 3), rfl, ?_⟩
   replace hS := (hS.to (hS.mem.stepA 0 rfl hA hF)).put (d := 31) (v := vi (comE (AM.new 3) 0 3)) (by decide)
   clear hF
   refine hS.opsC 1 [0] [0, 1, 7] fun _ => seg [(32, vb (((comE (AM.new 3) 0 3) : Int) != 0))] [(0, none), (1, none)] [] trivial fun ac wd hS => ?_
   refine list_nil_seq ?_
   refine hS.condK (((comE (AM.new 3) 0 3) : Int) != 0) false (by decide +kernel) ?_
   show Code.wp _ _ _ _ _
   refine wp_skip ?_
   refine pop_then ?_
   refine wp_region_seq ?_
   refine hS.opsC 2 [0, 0] [0, 1, 7] fun _ => seg [(34, pt b'4 0), (35, vi z)] [(0, none), (1, none)] [] trivial fun ac wd hS => ?_
   refine hS.call0 39 #[pt b'4 0, vi 50, vi z] 36 (vw_Of_x b'4 F6 (comM (AM.new 3) 0 3) 50 z _ (hS.mem.res 0) (by exact hz)) fun ac wd hS => ?_
   refine hS.opsC 6 [0, 0, 0, 0, 200, 0] [0, 1, 7] fun ν15 => seg [(8, pt (ν15 0) 0), (9, vi 3)] [(0, none), (1, none), (2, some ((ν15 0), .cells [pnil, vi 0, vi 0] 72))] [.e (ν15 0), .e (ν15 0), .e (ν15 0)] trivial fun ac wd hS => ?_
   refine list_nil_seq ?_
   refine wp_region_seq ?_
   refine hS.opsC 1 [0] [0, 1, 7, 8, 9] fun _ => seg [(39, .slice ao1 l.length c1)] [(0, none), (1, none), (2, none)] [] trivial fun ac wd hS => ?_
   refine hS.call0 40 #[.slice ao1 l.length c1, .string (⟨#[]⟩ : ByteArray)] 40 (str_Join ao1 c1 g1 o1 l _ (hS.mem.get 1 g1 (.fn o1 (o1 + l.length) (s1V (gtD l) o1))) hv1 (by first | assumption | omega | (simp_all; done) | (simp_all; omega)) (by first | assumption | omega | (simp_all; done) | (simp_all; omega)) (by omega)) fun ac wd hS => ?_
   refine hS.opsC 1 [0] [0, 1, 7, 8, 9] fun _ => seg [(10, .string (joinS l))] [(0, none), (1, none), (2, none)] [] trivial fun ac wd hS => ?_
   refine list_nil_seq ?_
   refine wp_seq ?_
   refine hS.regS [0, 0] [0, 1, 7, 8, 10] fun _ => seg [(42, vb true)] [(0, none), (1, none), (2, none)] [] trivial fun ac wd hS => ?_
   refine hS.condT ?_
   refine wp_region_seq ?_
   refine hS.opsC 2 [200, 0] [] fun _ => seg [(43, .agg #[pnil, vi 0, vi 0]), (44, .slice ao1 l.length c1)] [(0, none), (1, none)] [.e (ν15 0), .e (ν15 0), .e (ν15 0)] trivial fun ac wd hS => ?_
   refine hS.call0 41 #[.agg #[pnil, vi 0, vi 0], .slice ao1 l.length c1] 45 (vw_Texts_nil ao1 c1 g1 o1 l _ (hS.mem.get 1 g1 (.fn o1 (o1 + l.length) (s1V (gtD l) o1))) hv1 (by first | assumption | omega | (simp_all; done) | (simp_all; omega)) (by first | assumption | omega | (simp_all; done) | (simp_all; omega)) (by omega)) fun ac wd hS => ?_
   refine hS.opsC 2 [0, 0] [] fun _ => seg [(4, vb true)] [(0, none)] [] trivial fun ac wd hS => ?_
   refine list_nil_seq ?_
   refine wp_ret ?_
   refine pop_then_ret ?_
   refine St.retC 0 hS (vb true) [] trivial fun hw => ?_
   refine ⟨retd rfl, hw.fr0⟩

set_option maxRecDepth 100000 in
set_option maxHeartbeats 1000000 in
theorem law04_ViewTexts_b (z : Int) (ao1 : Option Addr) (c1 : Nat) (g1 : Nat) (o1 : Nat) (l : List (ByteArray)) (w : World) (hh0 : HE.holds w 0 (.fn 0 64 dbT)) (hh1 : HE.holds w g1 (.fn o1 (o1 + l.length) (s1V (gtD l) o1))) (hv1 : (l.length = 0 ∨ ao1 = some ⟨g1, o1, none⟩)) (hcp : l.length ≤ c1) (hz : 0 ≤ z ∧ 50 + z ≤ 12288) (hle : (((joinS l).size : Nat) : Int) ≤ z) :
    Calls Tryd.prog 6 #[vi z, .slice ao1 l.length c1] w fun e w' => e = .returned (vb true) ∧ Fr w w' no no := by
 refine enter (args := [vi z, .slice ao1 l.length c1]) (D := no) (A := []) Tryd.func6 rfl 88 rfl [(0, .fn 0 64 dbT), (g1, .fn o1 (o1 + l.length) (s1V (gtD l) o1))] (WS.startL ⟨⟨rfl, hh0⟩, ⟨rfl, hh1⟩, trivial⟩) fun ac hS => ?_
 refine hS.regS [0] [0, 1] fun _ => seg [] [(0, none), (1, none)] [] trivial fun ac wd hS => ?_
 refine wp_seq ?_
 refine wp_region_seq ?_
 refine hS.call0 37 #[] 14 (law04_awake  _ (hS.mem.get 0 0 (.fn 0 64 dbT)) ) fun ac wd hS => ?_
 refine hS.opsC 1 [0] [0, 1] fun _ => seg [(15, vb false)] [(0, none), (1, none)] [] trivial fun ac wd hS => ?_
 refine list_nil_seq ?_
 refine hS.condF ?_
 refine wp_skip ?_
 refine pop_then ?_
 refine wp_seq ?_
 refine hS.regS [0, 0, 0] [0, 1] fun _ => seg [(18, vb (decide ((20 : Int) < ((l.length : Nat) : Int))))] [(0, none), (1, none)] [] trivial fun ac wd hS => ?_
 refine hS.condC (decide ((20 : Int) < ((l.length : Nat) : Int))) (fun hb1o hb1 => ?_) (fun hb1o hb1 => ?_)
 ·
  refine hS.regS [0] [] fun _ => seg [(4, vb true)] [(0, none)] [] trivial fun ac wd hS => ?_
  refine wp_ret ?_
  refine pop_then_ret ?_
  refine St.retC 0 hS (vb true) [] trivial fun hw => ?_
  refine ⟨retd rfl, hw.fr0⟩
 ·
  refine wp_skip ?_
  refine pop_then ?_
  refine wp_seq ?_
  refine hS.regS [0, 0, 0] [0, 1] fun _ => seg [(19, .slice ao1 l.length c1), (20, vi ((l.length : Nat) : Int)), (21, vi 0)] [(0, none), (1, none)] [] trivial fun ac wd hS => ?_
  refine wp_block ?_
  refine St.loopC (σ := Int) (fun (x21 : Int) => ⟨[(0, [], vi z), (1, [], .slice ao1 l.length c1), (19, [], .slice ao1 l.length c1), (20, [], vi ((l.length : Nat) : Int)), (21, [], vi x21)], [(0, .fn 0 64 dbT), (g1, .fn o1 (o1 + l.length) (s1V (gtD l) o1))], [], (0 ≤ x21 ∧ x21 ≤ ((l.length : Nat) : Int)) ∧ (∀ k : Nat, (k : Int) < x21 → k < l.length → (gtD l k).size ≤ 500) ∧ True, l.length - Int.toNat x21⟩) 0 ⟨(by omega), (by intro k_ hk_; omega), trivial⟩ hS ?_
  clear hS
  rintro x21 ⟨i0, i1, -⟩ ac wd hS
  replace i0 : 0 ≤ x21 ∧ x21 ≤ ((l.length : Nat) : Int) := i0
  replace i1 : ∀ k : Nat, (k : Int) < x21 → k < l.length → (gtD l k).size ≤ 500 := i1
  refine hS.regS [0] [0, 1, 19, 20, 21] fun _ => seg [(22, vb (decide ((x21 : Int) < ((l.length : Nat) : Int))))] [(0, none), (1, none)] [] trivial fun ac wd hS => ?_
  refine wp_seq ?_
  refine hS.condC (decide ((x21 : Int) < ((l.length : Nat) : Int))) (fun hb2o hb2 => ?_) (fun hb2o hb2 => ?_)
  ·
   refine wp_skip ?_
   refine pop_then ?_
   refine wp_seq ?_
   refine wp_block ?_
   obtain rfl : ao1 = some ⟨g1, o1, none⟩ := Or.resolve_left hv1 (by omega)
   refine hS.regS [20, fx 100 (.string ((gtD l) (Int.toNat x21))), 0] [0, 1, 19, 20, 21] fun _ => seg [(6, .string ((gtD l) (Int.toNat x21)))] [(0, none), (1, none)] [.p ((((s1V (gtD l) o1) (o1 + Int.toNat x21 * 1)) : Value) = .string ((gtD l) (Int.toNat x21))), .e g1, .p (o1 ≤ o1 + Int.toNat x21 * 1 ∧ o1 + Int.toNat x21 * 1 < (o1 + l.length)), .p ((0 : Int) ≤ x21 ∧ (x21 : Int) < ((l.length : Nat) : Int))] ⟨((s1V_0 (gtD l) o1 (Int.toNat x21))), (by omega), (by omega), trivial⟩ fun ac wd hS => ?_
   refine hS.regS [0, 0, 0] [0, 1, 19, 20, 21] fun _ => seg [(27, vb (decide ((500 : Int) < ((ByteArray.size ((gtD l) (Int.toNat x21)) : Nat) : Int))))] [(0, none), (1, none)] [] trivial fun ac wd hS => ?_
   refine hS.condC (decide ((500 : Int) < ((ByteArray.size ((gtD l) (Int.toNat x21)) : Nat) : Int))) (fun hb3o hb3 => ?_) (fun hb3o hb3 => ?_)
   ·
    refine hS.regS [0] [] fun _ => seg [(4, vb true)] [(0, none)] [] trivial fun ac wd hS => ?_
    refine wp_ret ?_
    refine pop_block_ret ?_
    refine pop_then_ret ?_
    refine pop_then_ret ?_
    refine pop_block_ret ?_
    refine pop_then_ret ?_
    refine St.retC 0 hS (vb true) [] trivial fun hw => ?_
    refine ⟨retd rfl, hw.fr0⟩
   ·
    refine wp_skip ?_
    refine pop_block ?_
    refine pop_then ?_
    refine hS.regC [20, 0] [0, 1, 19, 20] fun _ => seg [(21, vi (x21 + 1))] [(0, none), (1, none)] [.p (fit .i64 (x21 + 1))] ⟨fit_i64 (by omega), trivial⟩ fun ac wd hS => ?_
    exact pop_then (hS.next (x21 + 1) ⟨(by first | omega | assumption | (simp; done) | (simp; omega)), (by exact up_step i1 i0.1 (by omega)), trivial⟩ (by dsimp only; omega))
  ·
   refine wp_exit ?_
   refine pop_then_exit ?_
   refine pop_then_exit ?_
   refine pop_block_hit ?_
   refine pop_then ?_
   have hJb := joinS_bd i1 (by omega) (by omega)
   obtain ⟨hw1, hw2, hw3⟩ := vt_yes ⟨hz.1, hz.2⟩ hle
   refine wp_region_seq ?_
   refine hS.callC 27 #[vi 3] (ar_New 3 _  ) ?_
   rintro _ wd ⟨b'4, F5, rfl, hN, hF⟩
   refine ⟨pt b'4 0, rfl, ?_⟩
   replace hS := (hS.to (hS.mem.newA hN hF)).put (d := 29) (v := pt b'4 0) (by decide)
   clear hF
   refine hS.opsC 1 [0] [0, 1] fun _ => seg [(7, pt b'4 0)] [(0, none), (1, none)] [] trivial fun ac wd hS => ?_
   refine list_nil_seq ?_
   refine wp_seq ?_
   refine wp_region_seq ?_
   refine hS.opsC 1 [0] [0, 1, 7] fun _ => seg [(30, pt b'4 0)] [(0, none), (1, none)] [] trivial fun ac wd hS => ?_
   refine hS.callC 38 #[pt b'4 0, vi 0, vi 3] (ar_Commit b'4 F5 (AM.new 3) 0 3 _ (hS.mem.res 0) ) ?_
   rintro _ wd ⟨F6, rfl, hA, hF⟩
   refine ⟨vi (comE (AM.new 3) 0 3), rfl, ?_⟩
   replace hS := (hS.to (hS.mem.stepA 0 rfl hA hF)).put (d := 31) (v := vi (comE (AM.new 3) 0 3)) (by decide)
   clear hF
   refine hS.opsC 1 [0] [0, 1, 7] fun _ => seg [(32, vb (((comE (AM.new 3) 0 3) : Int) != 0))] [(0, none), (1, none)] [] trivial fun ac wd hS => ?_
   refine list_nil_seq ?_
   refine hS.condK (((comE (AM.new 3) 0 3) : Int) != 0) false (by decide +kernel) ?_
   show Code.wp _ _ _ _ _
   refine wp_skip ?_
   refine pop_then ?_
   refine wp_region_seq ?_
   refine hS.opsC 2 [0, 0] [0, 1, 7] fun _ => seg [(34, pt b'4 0), (35, vi z)] [(0, none), (1, none)] [] trivial fun ac wd hS => ?_
   refine hS.call0 39 #[pt b'4 0, vi 50, vi z] 36 (vw_Of b'4 F6 (comM (AM.new 3) 0 3) 50 z _ (hS.mem.res 0) (by exact p3_thr (by omega))) fun ac wd hS => ?_
   refine hS.opsC 6 [0, 0, 0, 0, 200, 0] [0, 1, 7] fun ν15 => seg [(8, pt (ν15 0) 0), (9, vi 0)] [(0, none), (1, none), (2, some ((ν15 0), .cells [pt b'4 0, vi 50, vi z] 72))] [.e (ν15 0), .e (ν15 0), .e (ν15 0)] trivial fun ac wd hS => ?_
   refine list_nil_seq ?_
   refine wp_region_seq ?_
   refine hS.opsC 1 [0] [0, 1, 7, 8, 9] fun _ => seg [(39, .slice ao1 l.length c1)] [(0, none), (1, none), (2, none)] [] trivial fun ac wd hS => ?_
   refine hS.call0 40 #[.slice ao1 l.length c1, .string (⟨#[]⟩ : ByteArray)] 40 (str_Join ao1 c1 g1 o1 l _ (hS.mem.get 1 g1 (.fn o1 (o1 + l.length) (s1V (gtD l) o1))) hv1 (by first | assumption | omega | (simp_all; done) | (simp_all; omega)) (by first | assumption | omega | (simp_all; done) | (simp_all; omega)) (by omega)) fun ac wd hS => ?_
   refine hS.opsC 1 [0] [0, 1, 7, 8, 9] fun _ => seg [(10, .string (joinS l))] [(0, none), (1, none), (2, none)] [] trivial fun ac wd hS => ?_
   refine list_nil_seq ?_
   refine wp_seq ?_
   refine hS.regS [0, 0] [0, 1, 7, 8, 10] fun _ => seg [(42, vb false)] [(0, none), (1, none), (2, none)] [] trivial fun ac wd hS => ?_
   refine hS.condF ?_
   refine wp_skip ?_
   refine pop_then ?_
   refine wp_region_seq ?_
   refine hS.opsC 2 [200, 0] [0, 7, 10] fun _ => seg [(47, .agg #[pt b'4 0, vi 50, vi z]), (48, .slice ao1 l.length c1)] [(0, none), (1, none)] [.e (ν15 0), .e (ν15 0), .e (ν15 0)] trivial fun ac wd hS => ?_
   refine hS.callC 41 #[.agg #[pt b'4 0, vi 50, vi z], .slice ao1 l.length c1] (vw_Texts b'4 F6 (comM (AM.new 3) 0 3) 50 z ao1 c1 g1 o1 l _ (hS.mem.res 0) (hS.mem.get 1 g1 (.fn o1 (o1 + l.length) (s1V (gtD l) o1))) (hS.mem.nF (g := g1) (r := arR b'4 F6 (comM (AM.new 3) 0 3)) 1 0) (by first | assumption | omega | (simp_all; done) | (simp_all; omega)) hv1 (by first | assumption | omega | (simp_all; done) | (simp_all; omega)) (by first | assumption | omega | (simp_all; done) | (simp_all; omega)) (by omega)) ?_
   rintro _ wd ⟨F7, rfl, hA, hF⟩
   refine ⟨vi (vptE (comM (AM.new 3) 0 3) 50 z 0 (joinS l)), rfl, ?_⟩
   replace hS := (hS.to (hS.mem.stepA 0 rfl hA hF)).put (d := 49) (v := vi (vptE (comM (AM.new 3) 0 3) 50 z 0 (joinS l))) (by decide)
   clear hF
   refine hS.opsC 1 [0] [0, 7, 10] fun _ => seg [(11, vi (vptE (comM (AM.new 3) 0 3) 50 z 0 (joinS l)))] [(0, none)] [] trivial fun ac wd hS => ?_
   refine list_nil_seq ?_
   refine wp_region_seq ?_
   refine hS.opsC 3 [0, 0, 0] [0, 10, 11] fun _ => seg [(51, pt b'4 0), (53, vi ((ByteArray.size (joinS l) : Nat) : Int))] [(0, none)] [] trivial fun ac wd hS => ?_
   refine hS.call0 42 #[pt b'4 0, vi 50, vi ((ByteArray.size (joinS l) : Nat) : Int)] 54 (ar_Bytes b'4 F7 (vptM (comM (AM.new 3) 0 3) 50 z 0 (joinS l)) 50 ((ByteArray.size (joinS l) : Nat) : Int) _ (hS.mem.res 0) ) fun ac wd hS => ?_
   refine hS.opsC 5 [0, 0, 0, 0, 0] [0, 10, 11] fun _ => seg [(12, .string (bytS (vptM (comM (AM.new 3) 0 3) 50 z 0 (joinS l)) 50 ((ByteArray.size (joinS l) : Nat) : Int))), (13, vi (chkE (vptM (comM (AM.new 3) 0 3) 50 z 0 (joinS l)) 50 ((ByteArray.size (joinS l) : Nat) : Int)))] [(0, none)] [] trivial fun ac wd hS => ?_
   refine list_nil_seq ?_
   refine wp_region_seq ?_
   refine hS.opsC 12 [0, 0, 0, 0, 0, 0, 0, 0, 3, 3, 80, 0] [10, 11, 12] fun _ => seg [(68, vb (((((vptE (comM (AM.new 3) 0 3) 50 z 0 (joinS l)) : Int) == 0) == (decide ((((ByteArray.size (joinS l) : Nat) : Int) : Int) ≤ z))) && (((chkE (vptM (comM (AM.new 3) 0 3) 50 z 0 (joinS l)) 50 ((ByteArray.size (joinS l) : Nat) : Int)) : Int) == 0)))] [(0, none)] [] trivial fun ac wd hS => ?_
   have hg8o : (((((vptE (comM (AM.new 3) 0 3) 50 z 0 (joinS l)) : Int) == 0) == (decide ((((ByteArray.size (joinS l) : Nat) : Int) : Int) ≤ z))) && (((chkE (vptM (comM (AM.new 3) 0 3) 50 z 0 (joinS l)) 50 ((ByteArray.size (joinS l) : Nat) : Int)) : Int) == 0)) = true := by (rw [hw1, hw3]; simp [hle])
   replace hS := hS.fix 68 (vb true) (congrArg Value.bool hg8o)
   refine hS.opsC 8 [1, 1, 1, 3, 3, 3, 81, 1] [10, 11, 12, 68] fun _ => seg [(76, vb ((((vptE (comM (AM.new 3) 0 3) 50 z 0 (joinS l)) : Int) == 0) && (ByteArray.toList (bytS (vptM (comM (AM.new 3) 0 3) 50 z 0 (joinS l)) 50 ((ByteArray.size (joinS l) : Nat) : Int)) == ByteArray.toList (joinS l))))] [(0, none)] [.t true, .t true, .t true, .t true, .t true] trivial fun ac wd hS => ?_
   have hg9o : ((((vptE (comM (AM.new 3) 0 3) 50 z 0 (joinS l)) : Int) == 0) && (ByteArray.toList (bytS (vptM (comM (AM.new 3) 0 3) 50 z 0 (joinS l)) 50 ((ByteArray.size (joinS l) : Nat) : Int)) == ByteArray.toList (joinS l))) = true := by (rw [hw1, hw2]; simp)
   replace hS := hS.fix 76 (vb true) (congrArg Value.bool hg9o)
   refine hS.opsC 3 [2, 2, 2] [10, 12, 68, 76] fun _ => seg [(79, undef)] [(0, none)] [.t true, .t true, .t true] trivial fun ac wd hS => ?_
   refine hS.opsC 9 [4, 4, 4, 4, 4, 2, 71, 70, 0] [] fun _ => seg [(4, vb true)] [(0, none)] [.t true, .t true, .t true, .t true, .u, .u, .u, .u, .u] trivial fun ac wd hS => ?_
   refine list_nil_seq ?_
   refine wp_ret ?_
   refine St.retC 0 hS (vb true) [] trivial fun hw => ?_
   refine ⟨retd rfl, hw.fr0⟩

set_option maxRecDepth 100000 in
set_option maxHeartbeats 1000000 in
theorem law04_ViewTexts_c (z : Int) (ao1 : Option Addr) (c1 : Nat) (g1 : Nat) (o1 : Nat) (l : List (ByteArray)) (w : World) (hh0 : HE.holds w 0 (.fn 0 64 dbT)) (hh1 : HE.holds w g1 (.fn o1 (o1 + l.length) (s1V (gtD l) o1))) (hv1 : (l.length = 0 ∨ ao1 = some ⟨g1, o1, none⟩)) (hcp : l.length ≤ c1) (hz : 0 ≤ z ∧ 50 + z ≤ 12288) (hle : ¬ (((joinS l).size : Nat) : Int) ≤ z) :
    Calls Tryd.prog 6 #[vi z, .slice ao1 l.length c1] w fun e w' => e = .returned (vb true) ∧ Fr w w' no no := by
 refine enter (args := [vi z, .slice ao1 l.length c1]) (D := no) (A := []) Tryd.func6 rfl 88 rfl [(0, .fn 0 64 dbT), (g1, .fn o1 (o1 + l.length) (s1V (gtD l) o1))] (WS.startL ⟨⟨rfl, hh0⟩, ⟨rfl, hh1⟩, trivial⟩) fun ac hS => ?_
 refine hS.regS [0] [0, 1] fun _ => seg [] [(0, none), (1, none)] [] trivial fun ac wd hS => ?_
 refine wp_seq ?_
 refine wp_region_seq ?_
 refine hS.call0 37 #[] 14 (law04_awake  _ (hS.mem.get 0 0 (.fn 0 64 dbT)) ) fun ac wd hS => ?_
 refine hS.opsC 1 [0] [0, 1] fun _ => seg [(15, vb false)] [(0, none), (1, none)] [] trivial fun ac wd hS => ?_
 refine list_nil_seq ?_
 refine hS.condF ?_
 refine wp_skip ?_
 refine pop_then ?_
 refine wp_seq ?_
 refine hS.regS [0, 0, 0] [0, 1] fun _ => seg [(18, vb (decide ((20 : Int) < ((l.length : Nat) : Int))))] [(0, none), (1, none)] [] trivial fun ac wd hS => ?_
 refine hS.condC (decide ((20 : Int) < ((l.length : Nat) : Int))) (fun hb1o hb1 => ?_) (fun hb1o hb1 => ?_)
 ·
  refine hS.regS [0] [] fun _ => seg [(4, vb true)] [(0, none)] [] trivial fun ac wd hS => ?_
  refine wp_ret ?_
  refine pop_then_ret ?_
  refine St.retC 0 hS (vb true) [] trivial fun hw => ?_
  refine ⟨retd rfl, hw.fr0⟩
 ·
  refine wp_skip ?_
  refine pop_then ?_
  refine wp_seq ?_
  refine hS.regS [0, 0, 0] [0, 1] fun _ => seg [(19, .slice ao1 l.length c1), (20, vi ((l.length : Nat) : Int)), (21, vi 0)] [(0, none), (1, none)] [] trivial fun ac wd hS => ?_
  refine wp_block ?_
  refine St.loopC (σ := Int) (fun (x21 : Int) => ⟨[(0, [], vi z), (1, [], .slice ao1 l.length c1), (19, [], .slice ao1 l.length c1), (20, [], vi ((l.length : Nat) : Int)), (21, [], vi x21)], [(0, .fn 0 64 dbT), (g1, .fn o1 (o1 + l.length) (s1V (gtD l) o1))], [], (0 ≤ x21 ∧ x21 ≤ ((l.length : Nat) : Int)) ∧ (∀ k : Nat, (k : Int) < x21 → k < l.length → (gtD l k).size ≤ 500) ∧ True, l.length - Int.toNat x21⟩) 0 ⟨(by omega), (by intro k_ hk_; omega), trivial⟩ hS ?_
  clear hS
  rintro x21 ⟨i0, i1, -⟩ ac wd hS
  replace i0 : 0 ≤ x21 ∧ x21 ≤ ((l.length : Nat) : Int) := i0
  replace i1 : ∀ k : Nat, (k : Int) < x21 → k < l.length → (gtD l k).size ≤ 500 := i1
  refine hS.regS [0] [0, 1, 19, 20, 21] fun _ => seg [(22, vb (decide ((x21 : Int) < ((l.length : Nat) : Int))))] [(0, none), (1, none)] [] trivial fun ac wd hS => ?_
  refine wp_seq ?_
  refine hS.condC (decide ((x21 : Int) < ((l.length : Nat) : Int))) (fun hb2o hb2 => ?_) (fun hb2o hb2 => ?_)
  ·
   refine wp_skip ?_
   refine pop_then ?_
   refine wp_seq ?_
   refine wp_block ?_
   obtain rfl : ao1 = some ⟨g1, o1, none⟩ := Or.resolve_left hv1 (by omega)
   refine hS.regS [20, fx 100 (.string ((gtD l) (Int.toNat x21))), 0] [0, 1, 19, 20, 21] fun _ => seg [(6, .string ((gtD l) (Int.toNat x21)))] [(0, none), (1, none)] [.p ((((s1V (gtD l) o1) (o1 + Int.toNat x21 * 1)) : Value) = .string ((gtD l) (Int.toNat x21))), .e g1, .p (o1 ≤ o1 + Int.toNat x21 * 1 ∧ o1 + Int.toNat x21 * 1 < (o1 + l.length)), .p ((0 : Int) ≤ x21 ∧ (x21 : Int) < ((l.length : Nat) : Int))] ⟨((s1V_0 (gtD l) o1 (Int.toNat x21))), (by omega), (by omega), trivial⟩ fun ac wd hS => ?_
   refine hS.regS [0, 0, 0] [0, 1, 19, 20, 21] fun _ => seg [(27, vb (decide ((500 : Int) < ((ByteArray.size ((gtD l) (Int.toNat x21)) : Nat) : Int))))] [(0, none), (1, none)] [] trivial fun ac wd hS => ?_
   refine hS.condC (decide ((500 : Int) < ((ByteArray.size ((gtD l) (Int.toNat x21)) : Nat) : Int))) (fun hb3o hb3 => ?_) (fun hb3o hb3 => ?_)
   ·
    refine hS.regS [0] [] fun _ => seg [(4, vb true)] [(0, none)] [] trivial fun ac wd hS => ?_
    refine wp_ret ?_
    refine pop_block_ret ?_
    refine pop_then_ret ?_
    refine pop_then_ret ?_
    refine pop_block_ret ?_
    refine pop_then_ret ?_
    refine St.retC 0 hS (vb true) [] trivial fun hw => ?_
    refine ⟨retd rfl, hw.fr0⟩
   ·
    refine wp_skip ?_
    refine pop_block ?_
    refine pop_then ?_
    refine hS.regC [20, 0] [0, 1, 19, 20] fun _ => seg [(21, vi (x21 + 1))] [(0, none), (1, none)] [.p (fit .i64 (x21 + 1))] ⟨fit_i64 (by omega), trivial⟩ fun ac wd hS => ?_
    exact pop_then (hS.next (x21 + 1) ⟨(by first | omega | assumption | (simp; done) | (simp; omega)), (by exact up_step i1 i0.1 (by omega)), trivial⟩ (by dsimp only; omega))
  ·
   refine wp_exit ?_
   refine pop_then_exit ?_
   refine pop_then_exit ?_
   refine pop_block_hit ?_
   refine pop_then ?_
   have hJb := joinS_bd i1 (by omega) (by omega)
   obtain ⟨hw1, hw2, hw3⟩ := vt_no ⟨hz.1, hz.2⟩ hJb hle
   refine wp_region_seq ?_
   refine hS.callC 27 #[vi 3] (ar_New 3 _  ) ?_
   rintro _ wd ⟨b'4, F5, rfl, hN, hF⟩
   refine ⟨pt b'4 0, rfl, ?_⟩
   replace hS := (hS.to (hS.mem.newA hN hF)).put (d := 29) (v := pt b'4 0) (by decide)
   clear hF
   refine hS.opsC 1 [0] [0, 1] fun _ => seg [(7, pt b'4 0)] [(0, none), (1, none)] [] trivial fun ac wd hS => ?_
   refine list_nil_seq ?_
   refine wp_seq ?_
   refine wp_region_seq ?_
   refine hS.opsC 1 [0] [0, 1, 7] fun _ => seg [(30, pt b'4 0)] [(0, none), (1, none)] [] trivial fun ac wd hS => ?_
   refine hS.callC 38 #[pt b'4 0, vi 0, vi 3] (ar_Commit b'4 F5 (AM.new 3) 0 3 _ (hS.mem.res 0) ) ?_
   rintro _ wd ⟨F6, rfl, hA, hF⟩
   refine ⟨vi (comE (AM.new 3) 0 3), rfl, ?_⟩
   replace hS := (hS.to (hS.mem.stepA 0 rfl hA hF)).put (d := 31) (v := vi (comE (AM.new 3) 0 3)) (by decide)
   clear hF
   refine hS.opsC 1 [0] [0, 1, 7] fun _ => seg [(32, vb (((comE (AM.new 3) 0 3) : Int) != 0))] [(0, none), (1, none)] [] trivial fun ac wd hS => ?_
   refine list_nil_seq ?_
   refine hS.condK (((comE (AM.new 3) 0 3) : Int) != 0) false (by decide +kernel) ?_
   show Code.wp _ _ _ _ _
   refine wp_skip ?_
   refine pop_then ?_
   refine wp_region_seq ?_
   refine hS.opsC 2 [0, 0] [0, 1, 7] fun _ => seg [(34, pt b'4 0), (35, vi z)] [(0, none), (1, none)] [] trivial fun ac wd hS => ?_
   refine hS.call0 39 #[pt b'4 0, vi 50, vi z] 36 (vw_Of b'4 F6 (comM (AM.new 3) 0 3) 50 z _ (hS.mem.res 0) (by exact p3_thr (by omega))) fun ac wd hS => ?_
   refine hS.opsC 6 [0, 0, 0, 0, 200, 0] [0, 1, 7] fun ν15 => seg [(8, pt (ν15 0) 0), (9, vi 0)] [(0, none), (1, none), (2, some ((ν15 0), .cells [pt b'4 0, vi 50, vi z] 72))] [.e (ν15 0), .e (ν15 0), .e (ν15 0)] trivial fun ac wd hS => ?_
   refine list_nil_seq ?_
   refine wp_region_seq ?_
   refine hS.opsC 1 [0] [0, 1, 7, 8, 9] fun _ => seg [(39, .slice ao1 l.length c1)] [(0, none), (1, none), (2, none)] [] trivial fun ac wd hS => ?_
   refine hS.call0 40 #[.slice ao1 l.length c1, .string (⟨#[]⟩ : ByteArray)] 40 (str_Join ao1 c1 g1 o1 l _ (hS.mem.get 1 g1 (.fn o1 (o1 + l.length) (s1V (gtD l) o1))) hv1 (by first | assumption | omega | (simp_all; done) | (simp_all; omega)) (by first | assumption | omega | (simp_all; done) | (simp_all; omega)) (by omega)) fun ac wd hS => ?_
   refine hS.opsC 1 [0] [0, 1, 7, 8, 9] fun _ => seg [(10, .string (joinS l))] [(0, none), (1, none), (2, none)] [] trivial fun ac wd hS => ?_
   refine list_nil_seq ?_
   refine wp_seq ?_
   refine hS.regS [0, 0] [0, 1, 7, 8, 10] fun _ => seg [(42, vb false)] [(0, none), (1, none), (2, none)] [] trivial fun ac wd hS => ?_
   refine hS.condF ?_
   refine wp_skip ?_
   refine pop_then ?_
   refine wp_region_seq ?_
   refine hS.opsC 2 [200, 0] [0, 7, 10] fun _ => seg [(47, .agg #[pt b'4 0, vi 50, vi z]), (48, .slice ao1 l.length c1)] [(0, none), (1, none)] [.e (ν15 0), .e (ν15 0), .e (ν15 0)] trivial fun ac wd hS => ?_
   refine hS.callC 41 #[.agg #[pt b'4 0, vi 50, vi z], .slice ao1 l.length c1] (vw_Texts b'4 F6 (comM (AM.new 3) 0 3) 50 z ao1 c1 g1 o1 l _ (hS.mem.res 0) (hS.mem.get 1 g1 (.fn o1 (o1 + l.length) (s1V (gtD l) o1))) (hS.mem.nF (g := g1) (r := arR b'4 F6 (comM (AM.new 3) 0 3)) 1 0) (by first | assumption | omega | (simp_all; done) | (simp_all; omega)) hv1 (by first | assumption | omega | (simp_all; done) | (simp_all; omega)) (by first | assumption | omega | (simp_all; done) | (simp_all; omega)) (by omega)) ?_
   rintro _ wd ⟨F7, rfl, hA, hF⟩
   refine ⟨vi (vptE (comM (AM.new 3) 0 3) 50 z 0 (joinS l)), rfl, ?_⟩
   replace hS := (hS.to (hS.mem.stepA 0 rfl hA hF)).put (d := 49) (v := vi (vptE (comM (AM.new 3) 0 3) 50 z 0 (joinS l))) (by decide)
   clear hF
   refine hS.opsC 1 [0] [0, 7, 10] fun _ => seg [(11, vi (vptE (comM (AM.new 3) 0 3) 50 z 0 (joinS l)))] [(0, none)] [] trivial fun ac wd hS => ?_
   refine list_nil_seq ?_
   refine wp_region_seq ?_
   refine hS.opsC 3 [0, 0, 0] [0, 10, 11] fun _ => seg [(51, pt b'4 0), (53, vi ((ByteArray.size (joinS l) : Nat) : Int))] [(0, none)] [] trivial fun ac wd hS => ?_
   refine hS.call0 42 #[pt b'4 0, vi 50, vi ((ByteArray.size (joinS l) : Nat) : Int)] 54 (ar_Bytes b'4 F7 (vptM (comM (AM.new 3) 0 3) 50 z 0 (joinS l)) 50 ((ByteArray.size (joinS l) : Nat) : Int) _ (hS.mem.res 0) ) fun ac wd hS => ?_
   refine hS.opsC 5 [0, 0, 0, 0, 0] [0, 10, 11] fun _ => seg [(12, .string (bytS (vptM (comM (AM.new 3) 0 3) 50 z 0 (joinS l)) 50 ((ByteArray.size (joinS l) : Nat) : Int))), (13, vi (chkE (vptM (comM (AM.new 3) 0 3) 50 z 0 (joinS l)) 50 ((ByteArray.size (joinS l) : Nat) : Int)))] [(0, none)] [] trivial fun ac wd hS => ?_
   refine list_nil_seq ?_
   refine wp_region_seq ?_
   refine hS.opsC 12 [0, 0, 0, 0, 0, 0, 0, 0, 3, 3, 80, 0] [10, 11, 12] fun _ => seg [(68, vb (((((vptE (comM (AM.new 3) 0 3) 50 z 0 (joinS l)) : Int) == 0) == (decide ((((ByteArray.size (joinS l) : Nat) : Int) : Int) ≤ z))) && (((chkE (vptM (comM (AM.new 3) 0 3) 50 z 0 (joinS l)) 50 ((ByteArray.size (joinS l) : Nat) : Int)) : Int) == 0)))] [(0, none)] [] trivial fun ac wd hS => ?_
   have hg8o : (((((vptE (comM (AM.new 3) 0 3) 50 z 0 (joinS l)) : Int) == 0) == (decide ((((ByteArray.size (joinS l) : Nat) : Int) : Int) ≤ z))) && (((chkE (vptM (comM (AM.new 3) 0 3) 50 z 0 (joinS l)) 50 ((ByteArray.size (joinS l) : Nat) : Int)) : Int) == 0)) = true := by (rw [hw1, hw3]; simp [hle])
   replace hS := hS.fix 68 (vb true) (congrArg Value.bool hg8o)
   refine hS.opsC 8 [1, 1, 1, 3, 3, 3, 81, 1] [10, 11, 12, 68] fun _ => seg [(76, vb ((((vptE (comM (AM.new 3) 0 3) 50 z 0 (joinS l)) : Int) == 0) && (ByteArray.toList (bytS (vptM (comM (AM.new 3) 0 3) 50 z 0 (joinS l)) 50 ((ByteArray.size (joinS l) : Nat) : Int)) == ByteArray.toList (joinS l))))] [(0, none)] [.t true, .t true, .t true, .t true, .t true] trivial fun ac wd hS => ?_
   have hg9o : ((((vptE (comM (AM.new 3) 0 3) 50 z 0 (joinS l)) : Int) == 0) && (ByteArray.toList (bytS (vptM (comM (AM.new 3) 0 3) 50 z 0 (joinS l)) 50 ((ByteArray.size (joinS l) : Nat) : Int)) == ByteArray.toList (joinS l))) = false := by (rw [hw1]; rfl)
   replace hS := hS.fix 76 (vb false) (congrArg Value.bool hg9o)
   refine hS.opsC 3 [1, 1, 1] [10, 12, 68, 76] fun _ => seg [(79, vb (((vptE (comM (AM.new 3) 0 3) 50 z 0 (joinS l)) : Int) == 3))] [(0, none)] [.t false, .t false, .t false] trivial fun ac wd hS => ?_
   have hg10o : (((vptE (comM (AM.new 3) 0 3) 50 z 0 (joinS l)) : Int) == 3) = true := by (rw [hw1]; rfl)
   replace hS := hS.fix 79 (vb true) (congrArg Value.bool hg10o)
   refine hS.opsC 3 [1, 1, 1] [68, 76, 79] fun _ => seg [(80, .string (bytS (vptM (comM (AM.new 3) 0 3) 50 z 0 (joinS l)) 50 ((ByteArray.size (joinS l) : Nat) : Int))), (82, vi ((ByteArray.size (joinS l) : Nat) : Int))] [(0, none)] [.t true, .t true, .t true] trivial fun ac wd hS => ?_
   refine hS.callG true 43 #[vi ((ByteArray.size (joinS l) : Nat) : Int)] (ref03_Noughts ((ByteArray.size (joinS l) : Nat) : Int) _  (by omega)) ?_
   rintro _ wd ⟨rfl, hF⟩
   refine ⟨.string (bs (fun _ => 0) (Int.toNat ((ByteArray.size (joinS l) : Nat) : Int))), rfl, ?_⟩
   replace hS := (hS.to (hS.mem.keep0 hF)).put (d := 83) (v := .string (bs (fun _ => 0) (Int.toNat ((ByteArray.size (joinS l) : Nat) : Int)))) (by decide)
   clear hF
   refine hS.opsC 5 [1, 71, 61, 70, 0] [] fun _ => seg [(4, vb (ByteArray.toList (bytS (vptM (comM (AM.new 3) 0 3) 50 z 0 (joinS l)) 50 ((ByteArray.size (joinS l) : Nat) : Int)) == ByteArray.toList (bs (fun _ => 0) (Int.toNat ((ByteArray.size (joinS l) : Nat) : Int)))))] [(0, none)] [.t true, .t true, .t false, .t false, .t true, .t true] trivial fun ac wd hS => ?_
   refine list_nil_seq ?_
   refine wp_ret ?_
   refine St.retC 0 hS (vb (ByteArray.toList (bytS (vptM (comM (AM.new 3) 0 3) 50 z 0 (joinS l)) 50 ((ByteArray.size (joinS l) : Nat) : Int)) == ByteArray.toList (bs (fun _ => 0) (Int.toNat ((ByteArray.size (joinS l) : Nat) : Int))))) [] trivial fun hw => ?_
   refine ⟨retd (vbool ?_), hw.fr0⟩
   all_goals (first | rfl | (rw [hw2]; exact beq_self_eq_true _) | (rw [hw1, hw2]; simp; done) | (simp; done))

theorem law04_ViewTexts (z : Int) (ao1 : Option Addr) (c1 : Nat) (g1 : Nat) (o1 : Nat) (l : List (ByteArray)) (w : World) (hh0 : HE.holds w 0 (.fn 0 64 dbT)) (hh1 : HE.holds w g1 (.fn o1 (o1 + l.length) (s1V (gtD l) o1))) (hv1 : (l.length = 0 ∨ ao1 = some ⟨g1, o1, none⟩)) (hcp : l.length ≤ c1) :
    Calls Tryd.prog 6 #[vi z, .slice ao1 l.length c1] w fun e w' => e = .returned (vb true) ∧ Fr w w' no no := by
 cases hz : thr (comM (AM.new 3) 0 3) 50 z with
 | false => exact law04_ViewTexts_a z ao1 c1 g1 o1 l w hh0 hh1 hv1 hcp hz
 | true =>
  have h3 := p3_no hz
  by_cases hle : (((joinS l).size : Nat) : Int) ≤ z
  · exact law04_ViewTexts_b z ao1 c1 g1 o1 l w hh0 hh1 hv1 hcp ⟨h3.2.1, h3.2.2⟩ hle
  · exact law04_ViewTexts_c z ao1 c1 g1 o1 l w hh0 hh1 hv1 hcp ⟨h3.2.1, h3.2.2⟩ hle

end Go.Proofs.YthgkiieenojcpaaDoor.K
