/-
  Walks, printed by w2.py.
-/
import Derived.Test.YtdjhdcaanmkblaaDoorYf
import Derived.Test.YtdjhdcaanmkblaaDoorYg
import Derived.Test.YtdjhdcaanmkblaaDoorSj
import Derived.Test.YtdjhdcaanmkblaaDoorProg
namespace Go.Proofs.YtdjhdcaanmkblaaDoor.K
set_option linter.unusedVariables false
set_option linter.unusedSimpArgs false

theorem str_Join (ao1 : Option Addr) (c1 : Nat) (g1 : Nat) (o1 : Nat) (l : List (ByteArray)) (w : World) (hh0 : HE.holds w g1 (.fn o1 (o1 + l.length) (s1V (gtD l) o1))) (hv1 : (l.length = 0 ∨ ao1 = some ⟨g1, o1, none⟩)) (hln : l.length ≤ 4294967296) (hcp : l.length ≤ c1) (hJ : (joinS l).size ≤ 1048576) :
    Calls Tryd.prog 121 #[.slice ao1 l.length c1, .string (⟨#[]⟩ : ByteArray)] w fun e w' => e = .returned (.string (joinS l)) ∧ Fr w w' no no := by
 rcases Nat.eq_zero_or_pos l.length with h0 | h0
 · obtain rfl := List.eq_nil_of_length_eq_zero h0
   exact (Tryd.strings_Join_none ao1 c1 _ w).mono fun e w' h9 => ⟨h9.1, h9.2 ▸ Fr.refl w no⟩
 · obtain rfl := hv1.resolve_left (by omega)
   obtain ⟨hb, hc⟩ := s1V_cell hh0
   refine (Tryd.strings_Join g1 o1 c1 l _ w hc (hb h0) ?_ hcp ?_).mono fun e w' h9 => ⟨h9.1, Below_Fr h9.2⟩
   · have : l.length ≤ c1 := hcp
     exact Nat.le_trans hln (by decide)
   · have e9 : (joinS l).size = (Lib.join (l.map (·.data.toList)) []).length := by unfold joinS; show (List.toArray _).size = _; rw [List.size_toArray]
     have : (Lib.join (l.map (·.data.toList)) []).length ≤ 1048576 := e9 ▸ hJ
     exact Nat.le_trans this (by decide)

set_option maxRecDepth 100000 in
set_option maxHeartbeats 1000000 in
theorem vw_Texts (b : Nat) (F : Nat → Prop) (m : AM) (o_ : Int) (z : Int) (ao1 : Option Addr) (c1 : Nat) (g1 : Nat) (o1 : Nat) (l : List (ByteArray)) (w : World) (hr : (arR b F m).R w) (hh0 : HE.holds w g1 (.fn o1 (o1 + l.length) (s1V (gtD l) o1))) (hf0 : ¬ F g1) (ho : 0 ≤ o_ ∧ 0 ≤ z ∧ o_ + z ≤ 4294967296) (hv1 : (l.length = 0 ∨ ao1 = some ⟨g1, o1, none⟩)) (hln : l.length ≤ 4294967296) (hcp : l.length ≤ c1) (hJ : (joinS l).size ≤ 1048576) :
    Calls Tryd.prog 86 #[.agg #[pt b 0, vi o_, vi z], .slice ao1 l.length c1] w fun e w' => ∃ (F' : Nat → Prop), e = .returned (vi (vptE m o_ z 0 (joinS l))) ∧ (arR b F' (vptM m o_ z 0 (joinS l))).R w' ∧ Fr w w' F F' := by
 refine enter (args := [.agg #[pt b 0, vi o_, vi z], .slice ao1 l.length c1]) (D := F) (A := [arR b F m]) Tryd.func86 rfl 9 rfl [(g1, .fn o1 (o1 + l.length) (s1V (gtD l) o1))] (WS.startA (r := arR b F m) hr ⟨⟨rfl, hh0⟩, trivial⟩ ⟨hf0, trivial⟩) fun ac hS => ?_
 refine hS.regS [0, 0] [1] fun ν1 => seg [(2, pt (ν1 0) 0)] [(0, none), (1, some ((ν1 0), .cells [pt b 0, vi o_, vi z] 55))] [] trivial fun ac wd hS => ?_
 refine St.ordBeginS [(0, 1), (1, 1), (2, 0), (3, 0), (4, 1)] [(g1, .fn o1 (o1 + l.length) (s1V (gtD l) o1)), ((ν1 0), .cells [pt b 0, vi o_, vi z] 55)] [0, 1] hS fun wd hS => ?_
 have hap := hS.mem.pairs (Hf := [(g1, .fn o1 (o1 + l.length) (s1V (gtD l) o1)), ((ν1 0), .cells [pt b 0, vi o_, vi z] 55)]) (l := [0, 1])
 refine St.ordF [100, 0] [0, 1] [] (rest := [(2, 0), (3, 0), (4, 1)]) hS hap <| segF [(5, .agg #[pt b 0, vi o_, vi z]), (6, .slice ao1 l.length c1)] [.e (ν1 0), .e (ν1 0), .e (ν1 0)] trivial fun ac hS => ?_
 refine hS.ordC 2 121 #[.slice ao1 l.length c1, .string (⟨#[]⟩ : ByteArray)] (str_Join ao1 c1 g1 o1 l _ (hS.mem.get 0 g1 (.fn o1 (o1 + l.length) (s1V (gtD l) o1))) hv1 (by first | assumption | omega | (simp_all; done) | (simp_all; omega)) (by first | assumption | omega | (simp_all; done) | (simp_all; omega)) (by first | assumption | omega | (simp_all; done) | (simp_all; omega))) ?_
 rintro _ wd ⟨rfl, hF⟩
 refine ⟨.string (joinS l), rfl, ?_⟩
 replace hS := (hS.to (hS.mem.keep0 hF)).put (d := 7) (v := .string (joinS l)) (by decide)
 clear hF
 refine hS.ordV (l := [0, 1]) ?_
 refine hS.ordC 3 80 #[.agg #[pt b 0, vi o_, vi z], vi 0, .string (joinS l)] (vw_Put b F m o_ z 0 (joinS l) _ (hS.mem.res 0) (by first | assumption | omega | (simp_all; done) | (simp_all; omega))) ?_
 rintro _ wd ⟨F1, rfl, hA, hF⟩
 refine ⟨vi (vptE m o_ z 0 (joinS l)), rfl, ?_⟩
 replace hS := (hS.to (hS.mem.stepA 0 rfl hA hF)).put (d := 8) (v := vi (vptE m o_ z 0 (joinS l))) (by decide)
 clear hF
 refine hS.ordV (l := [0, 1]) ?_
 refine St.ordF [0] [4] [] (rest := []) hS hap <| segF [(4, vi (vptE m o_ z 0 (joinS l)))] [] trivial fun ac hS => ?_
 refine ord_nil ?_
 refine wp_ret ?_
 refine St.retC 0 hS (vi (vptE m o_ z 0 (joinS l))) [] trivial fun hw => ?_
 refine ⟨F1, retd rfl, (hw.res 0), hw.frA⟩

end Go.Proofs.YtdjhdcaanmkblaaDoor.K
