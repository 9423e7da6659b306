/- Whatever comes in, ArenaKeeps returns true, and nothing that was there has turned. The card: the one listed table is tied to the program text. -/
import Derived.Test.YtlnecfdbmoilbaaDoorCards
import Derived.Test.YtlnecfdbmoilbaaDoorTie
import Derived.Test.YtlnecfdbmoilbaaDoorLd
import Derived.Test.YtlnecfdbmoilbaaDoorCm
import Derived.SevenTiedAt
import Derived.ChangeMaps5
import Derived.Test.YtlnecfdbmoilbaaDoorLb
namespace Go.Proofs.YtlnecfdbmoilbaaDoor.arenaKeeps
open Go.ChangeMaps Go.ChangeShapes Go.WideShapes Go.ChangeAt Go.RowKit Go.Proofs.YtlnecfdbmoilbaaDoor.K
set_option linter.unusedVariables false
set_option maxRecDepth 100000 in
theorem lifted (os : Os) (started : os.Started) (H : Type) (enc : TypeId × Value → H) :
    ReturnsInHanded {} Tryd.checked os 5 .any (fun w args => (Rows.arenaKeepsSpec.pre enc Tryd.prog Tryd.f5 Rows.arenaKeepsRow.domain false w args ∧ laidMetH Tryd.prog laidT w) ∧ sizedMet enc Tryd.prog Tryd.f5 (OpenSpec.ofChange Rows.arenaKeepsSpec) false w args)
      (Rows.arenaKeepsSpec.post enc Tryd.prog Tryd.f5 false true false false) := by
  refine returnsInHanded_of_change_and (C := Tryd.checked) (X := fun w _ => laidMetH Tryd.prog laidT w) (fun _ _ _ hh h => h.of_heap hh) own started (by kernel_rfl) Tryd.func5
    (ChangeSpec.witness_at (enc := enc) (C := Tryd.checked) (os := os) (X := fun w _ => laidMetH Tryd.prog laidT w) false (World.laidAll Tryd.prog os laidT) #[.int .i64 0, .int .i64 0, .int .u64 0, .slice none 0 0] 8 (World.laidAll_os _ _ _) (by kernel_rfl) (by kernel_rfl) (by kernel_rfl) (by kernel_rfl) (by kernel_rfl)
      (by rw [MakeChecks.laidMetH_plain _ _ _ (by kernel_rfl)]; exact laidMet_laidAll _ (by kernel_rfl) (by kernel_rfl))) ?_
  intro W base args ds gs before hval0 hW _ hsz0 hL _
  have hval : ∀ (j : Nat) t v, Tryd.f5.params[j]? = some t → args[j]? = some v → Value.okWide Tryd.prog W .any base t v := hval0
  have hW' := hW
  obtain ⟨p, q, hA0, hV, rfl, hfz, hnd⟩ := hW
  have hA : DataW.TrodAll enc Tryd.prog W 0 (fun _ => true) true Tryd.f5.params.toList args.toList ds p := hA0
  rw [Tryd.params5] at hA hval
  obtain ⟨v0, vs0, d0, ds0, p0, q0, hargs, rfl, rfl, h0, r0⟩ := trodAll_cons hA
  obtain ⟨v1, vs1, d1, ds1, p1, q1, rfl, rfl, rfl, h1, r1⟩ := trodAll_cons r0
  obtain ⟨v2, vs2, d2, ds2, p2, q2, rfl, rfl, rfl, h2, r2⟩ := trodAll_cons r1
  obtain ⟨v3, vs3, d3, ds3, p3, q3, rfl, rfl, rfl, h3, r3⟩ := trodAll_cons r2
  obtain ⟨rfl, rfl, rfl⟩ := trodAll_nil r3
  obtain rfl : args = #[v0, v1, v2, v3] := by cases args; simp_all
  obtain ⟨rfl, rfl⟩ := trodVars_none hV
  have hdb := db_holds hL
  obtain ⟨a0, rfl, rfl, rfl, w0⟩ := open_int Tryd.underlying3 (hval 0 3 v0 rfl rfl) h0
  obtain ⟨a1, rfl, rfl, rfl, w1⟩ := open_int Tryd.underlying3 (hval 1 3 v1 rfl rfl) h1
  obtain ⟨a2, rfl, rfl, rfl, w2⟩ := open_int Tryd.underlying33 (hval 2 33 v2 rfl rfl) h2
  obtain ⟨b3, len3, cap3, rfl⟩ := okWide_slice Tryd.underlying37 (hval 3 37 v3 rfl rfl)
  have k3 := h3
  have lt3 : ∀ x ∈ p3, x.block < W.heap.size := by obtain ⟨m, hm⟩ := k3; exact DataW.trod_lt m _ _ _ hm
  have main : Calls Tryd.prog 5 #[.int .i64 a0, .int .i64 a1, .int .u64 a2, .slice b3 len3 cap3] W fun e w' => e = .returned (.bool true) ∧ Fr W w' no no := by
    obtain ⟨fuel, hf⟩ := h3
    rcases open_acs hf with hcs | ⟨x, l, c, acts, hcs, hl, hh⟩
    · simp [Value.cells] at hcs
      obtain ⟨rfl, rfl, rfl⟩ := hcs
      exact law03_ArenaKeeps0 a0 a1 a2 none 0 W hdb (u64_rng w2)
    · simp [Value.cells] at hcs
      obtain ⟨rfl, rfl, rfl⟩ := hcs
      by_cases hn : len3 = 0
      · subst hn
        exact law03_ArenaKeeps0 a0 a1 a2 _ cap3 W hdb (u64_rng w2)
      · obtain ⟨hb, hs, hh⟩ := hh (by omega)
        obtain ⟨b, o, s⟩ := x
        obtain rfl : s = none := hs
        have := law03_ArenaKeeps a0 a1 a2 b o cap3 acts W hdb hh (by omega) (u64_rng w2)
        rw [hl] at this
        exact this
  clear hA0 hval0 hsz0
  refine main.mono fun e W' ⟨he, fr⟩ => ?_
  subst he
  exact ⟨_, rfl, _, _, _, [], _, [], hW', trodAll_mk1 (shut_bool Tryd.underlying4 _), (trodAll_cons_mk (shut_int Tryd.underlying3 w0) (trodAll_cons_mk (shut_int Tryd.underlying3 w1) (trodAll_cons_mk (shut_int Tryd.underlying33 w2) (trodAll_cons_mk (Below.trod laidOut (by kernel_rfl) (of_decide_eq_true (by kernel_rfl)) k3 (bel fr) lt3) trodAll_mk0)))), rfl, (bel fr).frame _, fun h => by cases h⟩
theorem over : Rows.arenaKeepsRow.holds Tryd.pinned (OpenSpec.ofChange Rows.arenaKeepsSpec) :=
  OpenClaim.holds_of_wide 5 Tryd.f5 rfl rfl rfl rfl rfl rfl rfl ⟨rfl, rfl, rfl, rfl, rfl⟩ rfl rfl rfl rfl rfl (by kernel_rfl) Tryd.func5 (by kernel_rfl)
    (of_decide_eq_true (by kernel_rfl)) (by unfold Func.isWrapper; first | (rw [if_pos (by decide +kernel)]; kernel_rfl) | (rw [if_neg (by decide +kernel)]; exact ⟨rfl, rfl⟩))
    (fun os started H enc _ => lifted os started H enc)
theorem card : Rows.ArenaKeepsCardSaid :=
  Claim7.holds_tied_plain_at .later [] [.data] true (true, "d3023235d0d04dbed9717cbba2b856a086632fe3af8c23ae69c4e255193cda85") false over (fun _ h => by cases h) (by kernel_rfl) (fun _ h => by cases h) arenaKeeps_row_tie rfl ⟨rfl, rfl⟩ (by kernel_rfl) rfl
    (fun f fn hf hfn => by
      obtain rfl : f = 5 := Option.some.inj ((show Tryd.prog.funcNamed "millpond/millpondlaw03.ArenaKeeps" = some 5 by kernel_rfl).symm.trans hf) |>.symm
      obtain rfl : fn = Tryd.f5 := (Option.some.inj (Tryd.func5.symm.trans hfn)).symm
      exact ⟨by kernel_rfl, fun j t ht => by
        rw [Tryd.params5] at ht
        have hm : t ∈ [3, 3, 33, 37] := by simpa using Array.mem_of_getElem? ht
        have hall : ([3, 3, 33, 37].all fun u => !Tryd.prog.wantsStandIn u) = true := by kernel_rfl
        exact (show Tryd.prog.wantsStandIn t = false by simpa using List.all_eq_true.1 hall t hm)⟩)
    (by kernel_rfl)
#print axioms card
end Go.Proofs.YtlnecfdbmoilbaaDoor.arenaKeeps
namespace Go.Proofs.YtlnecfdbmoilbaaDoor
theorem arenaKeeps_holds : Rows.ArenaKeepsCardSaid := arenaKeeps.card
end Go.Proofs.YtlnecfdbmoilbaaDoor
