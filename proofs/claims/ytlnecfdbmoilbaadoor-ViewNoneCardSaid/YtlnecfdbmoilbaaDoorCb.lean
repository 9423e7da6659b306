/-
  Walks, printed by w2.py.
-/
import Derived.Test.YtlnecfdbmoilbaaDoorCa
import Derived.Test.YtlnecfdbmoilbaaDoorProg
namespace Go.Proofs.YtlnecfdbmoilbaaDoor.K
set_option linter.unusedVariables false
set_option linter.unusedSimpArgs false

set_option maxRecDepth 100000 in
set_option maxHeartbeats 1000000 in
theorem ar_New (c : Int) (w : World) :
    Calls Tryd.prog 14 #[vi c] w fun e w' => ∃ (b' : Nat) (F' : Nat → Prop), e = .returned (pt b' 0) ∧ (arR b' F' (AM.new c)).R w' ∧ Fr w w' no F' := by
 have hcap := capN_le c
 refine enter (args := [vi c]) (D := no) (A := []) Tryd.func14 rfl 12 rfl [] (WS.startL trivial) fun ac hS => ?_
 refine hS.regS [0] [0] fun _ => seg [] [] [] trivial fun ac wd hS => ?_
 refine wp_region_seq ?_
 refine hS.opsC 1 [0] [] fun _ => seg [(4, vi c)] [] [] trivial fun ac wd hS => ?_
 refine hS.callC 56 #[vi c] (bits_New c _  ) ?_
 rintro _ wd ⟨g21, c22, rfl, hog0, hoh0, hF⟩
 have ho3 : w.heap.size ≤ g21 := Nat.le_trans hS.mem.fr.size hog0
 refine ⟨.agg #[vi ((capN c : Nat) : Int), sc g21 0 ((capN c + 63) / 64) c22], rfl, ?_⟩
 replace hS := (hS.to (hS.mem.outs hF [(g21, .fn 0 (0 + ((capN c + 63) / 64)) (u64s (fun _ => 0) 0))] ⟨⟨rfl, hoh0, .inr hog0⟩, trivial⟩)).put (d := 5) (v := .agg #[vi ((capN c : Nat) : Int), sc g21 0 ((capN c + 63) / 64) c22]) (by decide)
 clear hF
 refine hS.opsC 2 [0, 100] [] fun ν3 => seg [(3, pt (ν3 0) 0)] [(0, none), (1, some ((ν3 0), .cells [vi ((capN c : Nat) : Int), sc g21 0 ((capN c + 63) / 64) c22] 58))] [.e (ν3 0), .e (ν3 0)] trivial fun ac wd hS => ?_
 refine list_nil_seq ?_
 refine St.ordBeginS [(0, 1), (3, 1), (1, 0), (2, 0), (4, 1), (5, 0), (6, 1)] [(g21, .fn 0 (0 + ((capN c + 63) / 64)) (u64s (fun _ => 0) 0)), ((ν3 0), .cells [vi ((capN c : Nat) : Int), sc g21 0 ((capN c + 63) / 64) c22] 58)] [0, 1] hS fun wd hS => ?_
 have hap := hS.mem.pairs (Hf := [(g21, .fn 0 (0 + ((capN c + 63) / 64)) (u64s (fun _ => 0) 0)), ((ν3 0), .cells [vi ((capN c : Nat) : Int), sc g21 0 ((capN c + 63) / 64) c22] 58)]) (l := [0, 1])
 refine St.ordF [100, 100] [0, 3] [] (rest := [(1, 0), (2, 0), (4, 1), (5, 0), (6, 1)]) hS hap <| segF [(6, .agg #[vi ((capN c : Nat) : Int), sc g21 0 ((capN c + 63) / 64) c22]), (9, .agg #[vi ((capN c : Nat) : Int), sc g21 0 ((capN c + 63) / 64) c22])] [.e (ν3 0), .e (ν3 0), .e (ν3 0), .e (ν3 0)] trivial fun ac hS => ?_
 refine hS.ordC 1 35 #[.agg #[vi ((capN c : Nat) : Int), sc g21 0 ((capN c + 63) / 64) c22]] (bits_Len_ g21 0 c22 ((capN c + 63) / 64) (capN c) _  ) ?_
 rintro _ wd ⟨rfl, hF⟩
 refine ⟨vi (((capN c) : Nat) : Int), rfl, ?_⟩
 replace hS := (hS.to (hS.mem.keep0 hF)).put (d := 7) (v := vi (((capN c) : Nat) : Int)) (by decide)
 clear hF
 refine hS.ordV (l := [0, 1]) ?_
 refine St.ord1 2 [90] [9] [0, 1] hS rfl fun ν4 => seg [(8, sc (ν4 0) 0 (capN c) (capN c))] [(0, none), (1, none), (2, some ((ν4 0), .row 90 (capN c) (capN c) zerosP))] [.p (((((capN c) : Nat) : Int) : Int) = (((capN c) : Nat) : Int)), .p ((0 : Int) ≤ (((capN c) : Nat) : Int) ∧ ((((capN c) : Nat) : Int) : Int) ≤ 2 ^ 32 ∧ 8 ≤ 64)] ⟨rfl, (by omega), trivial⟩ ⟨by as_aux_lemma => kernel_rfl, fun ac wd hS => ?_⟩
 refine St.ordF [0] [4] [] (rest := [(5, 0), (6, 1)]) hS hap <| segF [(10, .agg #[sc (ν4 0) 0 (capN c) (capN c), vi ((capN c : Nat) : Int), sc g21 0 ((capN c + 63) / 64) c22, vi 0, vb false, vi 0])] [] trivial fun ac hS => ?_
 refine St.ord1 5 [0] [] [0, 1] hS rfl fun ν5 => seg [(11, pt (ν5 0) 0)] [(0, none), (1, none), (2, none), (3, some ((ν5 0), .cells [sc (ν4 0) 0 (capN c) (capN c), vi ((capN c : Nat) : Int), sc g21 0 ((capN c + 63) / 64) c22, vi 0, vb false, vi 0] 89))] [] trivial ⟨by as_aux_lemma => kernel_rfl, fun ac wd hS => ?_⟩
 refine St.ordF [0] [6] [] (rest := []) hS hap <| segF [(2, pt (ν5 0) 0)] [] trivial fun ac hS => ?_
 refine ord_nil ?_
 refine wp_ret ?_
 refine St.retC 0 hS (pt (ν5 0) 0) [] trivial fun hw => ?_
 have hcap := capN_le c
 have h1 := hw.get 3 (ν5 0) (.cells [sc (ν4 0) 0 (capN c) (capN c), vi ((capN c : Nat) : Int), sc g21 0 ((capN c + 63) / 64) c22, vi 0, vb false, vi 0] 89)
 have h2 := hw.get 2 (ν4 0) (.row 90 (capN c) (capN c) zerosP)
 have h3 := hw.get 0 g21 (.fn 0 (0 + ((capN c + 63) / 64)) (u64s (fun _ => 0) 0))
 have m1 := (hw.getm 3 (ν5 0) (.cells [sc (ν4 0) 0 (capN c) (capN c), vi ((capN c : Nat) : Int), sc g21 0 ((capN c + 63) / 64) c22, vi 0, vb false, vi 0] 89)).resolve_right (fun h => h)
 have m2 := (hw.getm 2 (ν4 0) (.row 90 (capN c) (capN c) zerosP)).resolve_right (fun h => h)
 refine ⟨_, _, rfl, ar_new h1 h2 h3 (hw.nq 3 2 (ν5 0) (ν4 0)) (hw.nq 0 3 g21 (ν5 0)).symm (hw.nq 0 2 g21 (ν4 0)).symm hcap rfl, hw.fr.to (fun k hk => .inl hk) (fun k hk => .inr ?_)⟩
 rcases hk with rfl | rfl | rfl; exact m1; exact m2; exact ho3

end Go.Proofs.YtlnecfdbmoilbaaDoor.K
