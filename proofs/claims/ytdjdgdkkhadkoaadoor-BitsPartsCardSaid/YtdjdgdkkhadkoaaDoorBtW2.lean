import Derived.Test.YtdjdgdkkhadkoaaDoorBtW1
import Derived.Test.YtdjdgdkkhadkoaaDoorBt
import Derived.Test.YtdjdgdkkhadkoaaDoorKg
import Derived.Test.YtdjdgdkkhadkoaaDoorProg
namespace Go.Proofs.YtdjdgdkkhadkoaaDoor.K
set_option linter.unusedVariables false
set_option linter.unusedSimpArgs false

set_option maxRecDepth 100000 in
set_option maxHeartbeats 1000000 in
theorem bits_Tz (x : Nat) (w : World) (hh0 : HE.holds w 0 (.fn 0 64 dbT)) (h0 : x < 2 ^ 64) (h1 : 0 < x) :
    Calls Tryd.prog 24 #[.int .u64 ((x : Nat) : Int)] w fun e w' => e = .returned (.int .i64 ((tz x : Nat) : Int)) ∧ Fr w w' [] [] := by
  obtain ⟨hd1, hd2⟩ := db_facts h0 h1
  refine enter (args := [.int .u64 ((x : Nat) : Int)]) (A := []) Tryd.func24 rfl 14 rfl [(0, .fn 0 64 dbT)] (WS.startL ⟨⟨rfl, hh0⟩, trivial⟩) fun ac hS => ?_
  refine St.region_seq [⟨0, 0, 0⟩] [0] [0] hS fun _ => ⟨[(0, [], .int .u64 ((x : Nat) : Int))], [(0, .fn 0 64 dbT)], [], by as_aux_lemma => kernel_rfl, trivial, fun ac wd hS => ?_⟩
  refine wp_seq ?_
  refine St.region_seq [⟨0, 0, 0⟩, ⟨0, 0, 0⟩] [0, 4] [0] hS fun _ => ⟨[(0, [], .int .u64 ((x : Nat) : Int)), (4, [], .bool ((((x : Nat) : Int) : Int) == 0))], [(0, .fn 0 64 dbT)], [], by as_aux_lemma => kernel_rfl, trivial, fun ac wd hS => ?_⟩
  refine St.cond (b := ((((x : Nat) : Int) : Int) == 0)) hS (by as_aux_lemma => kernel_rfl) (fun h => absurd h (by simp; omega)) (fun _ => ?_)
  refine wp_skip ?_
  refine pop_then ?_
  refine St.region_seq [⟨0, 0, 0⟩, ⟨0, 0, 0⟩, ⟨0, 0, 0⟩, ⟨0, 0, 0⟩, ⟨0, 0, 0⟩, ⟨0, 0, 0⟩, ⟨0, 3, 0⟩, ⟨0, 0, 0⟩, ⟨0, 0, 0⟩, ⟨0, 0, 0⟩] [2] [0] hS fun _ => ⟨[(2, [], .int .i64 (IntKind.wrap .i64 (dbL.getD (0 + Int.toNat (Int.fdiv (IntKind.wrap .u64 ((iand .u64 ((x : Nat) : Int) (IntKind.wrap .u64 (0 - ((x : Nat) : Int)))) * 285870213051353865)) (2 ^ 58)) * 1) 0)))], [(0, .fn 0 64 dbT)], [0 = 0, 0 ≤ 0 + Int.toNat (Int.fdiv (IntKind.wrap .u64 ((iand .u64 ((x : Nat) : Int) (IntKind.wrap .u64 (0 - ((x : Nat) : Int)))) * 285870213051353865)) (2 ^ 58)) * 1 ∧ 0 + Int.toNat (Int.fdiv (IntKind.wrap .u64 ((iand .u64 ((x : Nat) : Int) (IntKind.wrap .u64 (0 - ((x : Nat) : Int)))) * 285870213051353865)) (2 ^ 58)) * 1 < 64, 0 ≤ (Int.fdiv (IntKind.wrap .u64 ((iand .u64 ((x : Nat) : Int) (IntKind.wrap .u64 (0 - ((x : Nat) : Int)))) * 285870213051353865)) (2 ^ 58)) ∧ (Int.fdiv (IntKind.wrap .u64 ((iand .u64 ((x : Nat) : Int) (IntKind.wrap .u64 (0 - ((x : Nat) : Int)))) * 285870213051353865)) (2 ^ 58)) < ((64 : Nat) : Int)], by as_aux_lemma => kernel_rfl, ⟨rfl, (by first | exact hd1 | omega), (by first | exact hd1 | omega), trivial⟩, fun ac wd hS => ?_⟩
  refine wp_ret ?_
  refine St.ret 0 hS (v := .int .i64 (IntKind.wrap .i64 (dbL.getD (0 + Int.toNat (Int.fdiv (IntKind.wrap .u64 ((iand .u64 ((x : Nat) : Int) (IntKind.wrap .u64 (0 - ((x : Nat) : Int)))) * 285870213051353865)) (2 ^ 58)) * 1) 0))) (obs := []) (by as_aux_lemma => kernel_rfl) trivial fun hw => ?_
  refine ⟨retd (vint ?_), hw.fr⟩
  all_goals (first | exact hd2 | rfl)

end Go.Proofs.YtdjdgdkkhadkoaaDoor.K
