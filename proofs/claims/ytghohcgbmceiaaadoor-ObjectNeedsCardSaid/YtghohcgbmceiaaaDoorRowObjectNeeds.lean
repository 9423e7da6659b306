/- Whatever comes in, ObjectNeeds returns true, and nothing that was there has turned. The card: the one listed table is tied to the program text. -/
import Derived.Test.YtghohcgbmceiaaaDoorCards
import Derived.Test.YtghohcgbmceiaaaDoorTie
import Derived.Test.YtghohcgbmceiaaaDoorLd
import Derived.Test.YtghohcgbmceiaaaDoorGg
import Derived.SevenTiedAt
import Derived.ChangeMaps5
import Derived.Test.YtghohcgbmceiaaaDoorLe
namespace Go.Proofs.YtghohcgbmceiaaaDoor.objectNeeds
open Go.ChangeMaps Go.ChangeShapes Go.WideShapes Go.ChangeAt Go.RowKit Go.Proofs.YtghohcgbmceiaaaDoor.K
set_option linter.unusedVariables false
set_option maxRecDepth 100000 in
theorem lifted (os : Os) (started : os.Started) (H : Type) (enc : TypeId × Value → H) :
    ReturnsInHanded {} Tryd.checked os 10 .any (fun w args => (Rows.objectNeedsSpec.pre enc Tryd.prog Tryd.f10 Rows.objectNeedsRow.domain false w args ∧ laidMetH Tryd.prog laidT w) ∧ sizedMet enc Tryd.prog Tryd.f10 (OpenSpec.ofChange Rows.objectNeedsSpec) false w args)
      (Rows.objectNeedsSpec.post enc Tryd.prog Tryd.f10 false true false false) := by
  refine returnsInHanded_of_change_and (C := Tryd.checked) (X := fun w _ => laidMetH Tryd.prog laidT w) (fun _ _ _ hh h => h.of_heap hh) own started (by kernel_rfl) Tryd.func10
    (ChangeSpec.witness_at (enc := enc) (C := Tryd.checked) (os := os) (X := fun w _ => laidMetH Tryd.prog laidT w) false (World.laidAll Tryd.prog os laidT) #[.int .u16 0, .int .u16 0, .int .i64 0, .int .i64 0] 8 (World.laidAll_os _ _ _) (by kernel_rfl) (by kernel_rfl) (by kernel_rfl) (by kernel_rfl) (by kernel_rfl)
      (by rw [MakeChecks.laidMetH_plain _ _ _ (by kernel_rfl)]; exact laidMet_laidAll _ (by kernel_rfl) (by kernel_rfl))) ?_
  intro W base args ds gs before hval0 hW _ hsz0 hL _
  have hval : ∀ (j : Nat) t v, Tryd.f10.params[j]? = some t → args[j]? = some v → Value.okWide Tryd.prog W .any base t v := hval0
  have hW' := hW
  obtain ⟨p, q, hA0, hV, rfl, hfz, hnd⟩ := hW
  have hA : DataW.TrodAll enc Tryd.prog W 0 (fun _ => true) true Tryd.f10.params.toList args.toList ds p := hA0
  rw [Tryd.params10] at hA hval
  obtain ⟨v0, vs0, d0, ds0, p0, q0, hargs, rfl, rfl, h0, r0⟩ := trodAll_cons hA
  obtain ⟨v1, vs1, d1, ds1, p1, q1, rfl, rfl, rfl, h1, r1⟩ := trodAll_cons r0
  obtain ⟨v2, vs2, d2, ds2, p2, q2, rfl, rfl, rfl, h2, r2⟩ := trodAll_cons r1
  obtain ⟨v3, vs3, d3, ds3, p3, q3, rfl, rfl, rfl, h3, r3⟩ := trodAll_cons r2
  obtain ⟨rfl, rfl, rfl⟩ := trodAll_nil r3
  obtain rfl : args = #[v0, v1, v2, v3] := by cases args; simp_all
  obtain ⟨rfl, rfl⟩ := trodVars_none hV
  have hdb := db_holds hL
  obtain ⟨a0, rfl, rfl, rfl, w0⟩ := open_int Tryd.underlying87 (hval 0 87 v0 rfl rfl) h0
  obtain ⟨a1, rfl, rfl, rfl, w1⟩ := open_int Tryd.underlying87 (hval 1 87 v1 rfl rfl) h1
  obtain ⟨a2, rfl, rfl, rfl, w2⟩ := open_int Tryd.underlying3 (hval 2 3 v2 rfl rfl) h2
  obtain ⟨a3, rfl, rfl, rfl, w3⟩ := open_int Tryd.underlying3 (hval 3 3 v3 rfl rfl) h3
  have main : Calls Tryd.prog 10 #[.int .u16 a0, .int .u16 a1, .int .i64 a2, .int .i64 a3] W fun e w' => e = .returned (.bool true) ∧ Fr W w' no no := law14_ObjectNeeds a0 a1 a2 a3 W hdb (by have := rng_u16 w0; have := rng_u16 w1; omega)
  clear hA0 hval0 hsz0
  refine main.mono fun e W' ⟨he, fr⟩ => ?_
  subst he
  exact ⟨_, rfl, _, _, _, [], _, [], hW', trodAll_mk1 (shut_bool Tryd.underlying4 _), (trodAll_cons_mk (shut_int Tryd.underlying87 w0) (trodAll_cons_mk (shut_int Tryd.underlying87 w1) (trodAll_cons_mk (shut_int Tryd.underlying3 w2) (trodAll_cons_mk (shut_int Tryd.underlying3 w3) trodAll_mk0)))), rfl, (bel fr).frame _, fun h => by cases h⟩
theorem over : Rows.objectNeedsRow.holds Tryd.pinned (OpenSpec.ofChange Rows.objectNeedsSpec) :=
  OpenClaim.holds_of_wide 10 Tryd.f10 rfl rfl rfl rfl rfl rfl rfl ⟨rfl, rfl, rfl, rfl, rfl⟩ rfl rfl rfl rfl rfl (by kernel_rfl) Tryd.func10 (by kernel_rfl)
    (of_decide_eq_true (by kernel_rfl)) (by unfold Func.isWrapper; first | (rw [if_pos (by decide +kernel)]; kernel_rfl) | (rw [if_neg (by decide +kernel)]; exact ⟨rfl, rfl⟩))
    (fun os started H enc _ => lifted os started H enc)
theorem card : Rows.ObjectNeedsCardSaid :=
  Claim7.holds_tied_plain_at .later [] [.data] true (true, "acf5ea34ce473dfa0a0df7601f255754a2d4f64da8d5befa7e9e4b2338f77e97") false over (fun _ h => by cases h) (by kernel_rfl) (fun _ h => by cases h) objectNeeds_row_tie rfl ⟨rfl, rfl⟩ (by kernel_rfl) rfl
    (fun f fn hf hfn => by
      obtain rfl : f = 10 := Option.some.inj ((show Tryd.prog.funcNamed "millpond/millpondlaw14.ObjectNeeds" = some 10 by kernel_rfl).symm.trans hf) |>.symm
      obtain rfl : fn = Tryd.f10 := (Option.some.inj (Tryd.func10.symm.trans hfn)).symm
      exact ⟨by kernel_rfl, fun j t ht => by
        rw [Tryd.params10] at ht
        have hm : t ∈ [87, 87, 3, 3] := by simpa using Array.mem_of_getElem? ht
        have hall : ([87, 87, 3, 3].all fun u => !Tryd.prog.wantsStandIn u) = true := by kernel_rfl
        exact (show Tryd.prog.wantsStandIn t = false by simpa using List.all_eq_true.1 hall t hm)⟩)
    (by kernel_rfl)
#print axioms card
end Go.Proofs.YtghohcgbmceiaaaDoor.objectNeeds
namespace Go.Proofs.YtghohcgbmceiaaaDoor
theorem objectNeeds_holds : Rows.ObjectNeedsCardSaid := objectNeeds.card
end Go.Proofs.YtghohcgbmceiaaaDoor
