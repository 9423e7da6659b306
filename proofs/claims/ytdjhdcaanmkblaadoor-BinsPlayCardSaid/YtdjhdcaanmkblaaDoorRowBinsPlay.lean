/- Whatever comes in, BinsPlay returns true, and nothing that was there has turned. The card: the one listed table is tied to the program text. -/
import Derived.Test.YtdjhdcaanmkblaaDoorCards
import Derived.Test.YtdjhdcaanmkblaaDoorTie
import Derived.Test.YtdjhdcaanmkblaaDoorLd
import Derived.Test.YtdjhdcaanmkblaaDoorBq
import Derived.SevenTiedAt
import Derived.ChangeMaps5
import Derived.Test.YtdjhdcaanmkblaaDoorLh
namespace Go.Proofs.YtdjhdcaanmkblaaDoor.binsPlay
open Go.ChangeMaps Go.ChangeShapes Go.WideShapes Go.ChangeAt Go.RowKit Go.Proofs.YtdjhdcaanmkblaaDoor.K
set_option linter.unusedVariables false
set_option maxRecDepth 100000 in
theorem lifted (os : Os) (started : os.Started) (H : Type) (enc : TypeId × Value → H) :
    ReturnsInHanded {} Tryd.checked os 5 .any (fun w args => (Rows.binsPlaySpec.pre enc Tryd.prog Tryd.f5 Rows.binsPlayRow.domain false w args ∧ laidMetH Tryd.prog laidT w) ∧ sizedMet enc Tryd.prog Tryd.f5 (OpenSpec.ofChange Rows.binsPlaySpec) false w args)
      (Rows.binsPlaySpec.post enc Tryd.prog Tryd.f5 false true false false) := by
  refine returnsInHanded_of_change_and (C := Tryd.checked) (X := fun w _ => laidMetH Tryd.prog laidT w) (fun _ _ _ hh h => h.of_heap hh) own started (by kernel_rfl) Tryd.func5
    (ChangeSpec.witness_at (enc := enc) (C := Tryd.checked) (os := os) (X := fun w _ => laidMetH Tryd.prog laidT w) false (World.laidAll Tryd.prog os laidT) #[.slice none 0 0] 8 (World.laidAll_os _ _ _) (by kernel_rfl) (by kernel_rfl) (by kernel_rfl) (by kernel_rfl) (by kernel_rfl)
      (by rw [MakeChecks.laidMetH_plain _ _ _ (by kernel_rfl)]; exact laidMet_laidAll _ (by kernel_rfl) (by kernel_rfl))) ?_
  intro W base args ds gs before hval0 hW _ hsz0 hL _
  have hval : ∀ (j : Nat) t v, Tryd.f5.params[j]? = some t → args[j]? = some v → Value.okWide Tryd.prog W .any base t v := hval0
  have hW' := hW
  obtain ⟨p, q, hA0, hV, rfl, hfz, hnd⟩ := hW
  have hA : DataW.TrodAll enc Tryd.prog W 0 (fun _ => true) true Tryd.f5.params.toList args.toList ds p := hA0
  rw [Tryd.params5] at hA hval
  obtain ⟨v0, vs0, d0, ds0, p0, q0, hargs, rfl, rfl, h0, r0⟩ := trodAll_cons hA
  obtain ⟨rfl, rfl, rfl⟩ := trodAll_nil r0
  obtain rfl : args = #[v0] := by cases args; simp_all
  obtain ⟨rfl, rfl⟩ := trodVars_none hV
  have hdb := db_holds hL
  obtain ⟨b0, len0, cap0, rfl⟩ := okWide_slice Tryd.underlying65 (hval 0 65 v0 rfl rfl)
  have k0 := h0
  have lt0 : ∀ x ∈ p0, x.block < W.heap.size := by obtain ⟨m, hm⟩ := k0; exact DataW.trod_lt m _ _ _ hm
  have main : Calls Tryd.prog 5 #[.slice b0 len0 cap0] W fun e w' => e = .returned (.bool true) ∧ Fr W w' no no := by
    obtain ⟨fuel0, hf0⟩ := h0
    obtain ⟨ao_, c_, g_, o_, L_, hcs, hv, hok, hh⟩ := op_a11V hdb hf0
    simp [Value.cells] at hcs
    obtain ⟨rfl, rfl, rfl⟩ := hcs
    exact law11_BinsPlay b0 cap0 g_ o_ L_ W hdb hh hv hok
  clear hA0 hval0 hsz0
  refine main.mono fun e W' ⟨he, fr⟩ => ?_
  subst he
  exact ⟨_, rfl, _, _, _, [], _, [], hW', trodAll_mk1 (shut_bool Tryd.underlying4 _), (trodAll_cons_mk (Below.trod laidOut (by kernel_rfl) (of_decide_eq_true (by kernel_rfl)) k0 (bel fr) lt0) trodAll_mk0), rfl, (bel fr).frame _, fun h => by cases h⟩
theorem over : Rows.binsPlayRow.holds Tryd.pinned (OpenSpec.ofChange Rows.binsPlaySpec) :=
  OpenClaim.holds_of_wide 5 Tryd.f5 rfl rfl rfl rfl rfl rfl rfl ⟨rfl, rfl, rfl, rfl, rfl⟩ rfl rfl rfl rfl rfl (by kernel_rfl) Tryd.func5 (by kernel_rfl)
    (of_decide_eq_true (by kernel_rfl)) (by unfold Func.isWrapper; first | (rw [if_pos (by decide +kernel)]; kernel_rfl) | (rw [if_neg (by decide +kernel)]; exact ⟨rfl, rfl⟩))
    (fun os started H enc _ => lifted os started H enc)
theorem card : Rows.BinsPlayCardSaid :=
  Claim7.holds_tied_plain_at .later [] [.data] true (true, "a2fd02a4deef7c18493b55719b725fd5f48a6fe25814758e2429eeec409dc981") false over (fun _ h => by cases h) (by kernel_rfl) (fun _ h => by cases h) binsPlay_row_tie rfl ⟨rfl, rfl⟩ (by kernel_rfl) rfl
    (fun f fn hf hfn => by
      obtain rfl : f = 5 := Option.some.inj ((show Tryd.prog.funcNamed "millpond/millpondlaw11.BinsPlay" = some 5 by kernel_rfl).symm.trans hf) |>.symm
      obtain rfl : fn = Tryd.f5 := (Option.some.inj (Tryd.func5.symm.trans hfn)).symm
      exact ⟨by kernel_rfl, fun j t ht => by
        rw [Tryd.params5] at ht
        have hm : t ∈ [65] := by simpa using Array.mem_of_getElem? ht
        have hall : ([65].all fun u => !Tryd.prog.wantsStandIn u) = true := by kernel_rfl
        exact (show Tryd.prog.wantsStandIn t = false by simpa using List.all_eq_true.1 hall t hm)⟩)
    (by kernel_rfl)
#print axioms card
end Go.Proofs.YtdjhdcaanmkblaaDoor.binsPlay
namespace Go.Proofs.YtdjhdcaanmkblaaDoor
theorem binsPlay_holds : Rows.BinsPlayCardSaid := binsPlay.card
end Go.Proofs.YtdjhdcaanmkblaaDoor
