/- Whatever comes in, FieldOf returns true, and nothing that was there has turned. The card: the one listed table is tied to the program text. -/
import Derived.Test.YtghohcgbmceiaaaDoorCards
import Derived.Test.YtghohcgbmceiaaaDoorTie
import Derived.Test.YtghohcgbmceiaaaDoorLd
import Derived.Test.YtghohcgbmceiaaaDoorFe
import Derived.SevenTiedAt
import Derived.ChangeMaps5
import Derived.Test.YtghohcgbmceiaaaDoorLc
namespace Go.Proofs.YtghohcgbmceiaaaDoor.fieldOf
open Go.ChangeMaps Go.ChangeShapes Go.WideShapes Go.ChangeAt Go.RowKit Go.Proofs.YtghohcgbmceiaaaDoor.K
set_option linter.unusedVariables false
set_option maxRecDepth 100000 in
theorem lifted (os : Os) (started : os.Started) (H : Type) (enc : TypeId × Value → H) :
    ReturnsInHanded {} Tryd.checked os 5 .any (fun w args => (Rows.fieldOfSpec.pre enc Tryd.prog Tryd.f5 Rows.fieldOfRow.domain false w args ∧ laidMetH Tryd.prog laidT w) ∧ sizedMet enc Tryd.prog Tryd.f5 (OpenSpec.ofChange Rows.fieldOfSpec) false w args)
      (Rows.fieldOfSpec.post enc Tryd.prog Tryd.f5 false true false false) := by
  refine returnsInHanded_of_change_and (C := Tryd.checked) (X := fun w _ => laidMetH Tryd.prog laidT w) (fun _ _ _ hh h => h.of_heap hh) own started (by kernel_rfl) Tryd.func5
    (ChangeSpec.witness_at (enc := enc) (C := Tryd.checked) (os := os) (X := fun w _ => laidMetH Tryd.prog laidT w) false (World.laidAll Tryd.prog os laidT) #[.slice none 0 0, .int .i64 0] 8 (World.laidAll_os _ _ _) (by kernel_rfl) (by kernel_rfl) (by kernel_rfl) (by kernel_rfl) (by kernel_rfl)
      (by rw [MakeChecks.laidMetH_plain _ _ _ (by kernel_rfl)]; exact laidMet_laidAll _ (by kernel_rfl) (by kernel_rfl))) ?_
  intro W base args ds gs before hval0 hW _ hsz0 hL _
  have hval : ∀ (j : Nat) t v, Tryd.f5.params[j]? = some t → args[j]? = some v → Value.okWide Tryd.prog W .any base t v := hval0
  have hW' := hW
  obtain ⟨p, q, hA0, hV, rfl, hfz, hnd⟩ := hW
  have hA : DataW.TrodAll enc Tryd.prog W 0 (fun _ => true) true Tryd.f5.params.toList args.toList ds p := hA0
  rw [Tryd.params5] at hA hval
  obtain ⟨v0, vs0, d0, ds0, p0, q0, hargs, rfl, rfl, h0, r0⟩ := trodAll_cons hA
  obtain ⟨v1, vs1, d1, ds1, p1, q1, rfl, rfl, rfl, h1, r1⟩ := trodAll_cons r0
  obtain ⟨rfl, rfl, rfl⟩ := trodAll_nil r1
  obtain rfl : args = #[v0, v1] := by cases args; simp_all
  obtain ⟨rfl, rfl⟩ := trodVars_none hV
  have hdb := db_holds hL
  obtain ⟨b0, len0, cap0, rfl⟩ := okWide_slice Tryd.underlying44 (hval 0 44 v0 rfl rfl)
  have k0 := h0
  have lt0 : ∀ x ∈ p0, x.block < W.heap.size := by obtain ⟨m, hm⟩ := k0; exact DataW.trod_lt m _ _ _ hm
  obtain ⟨a1, rfl, rfl, rfl, w1⟩ := open_int Tryd.underlying3 (hval 1 3 v1 rfl rfl) h1
  have main : Calls Tryd.prog 5 #[.slice b0 len0 cap0, .int .i64 a1] W fun e w' => e = .returned (.bool true) ∧ Fr W w' no no := by
    obtain ⟨fuel, hf⟩ := h0
    rcases open_ils hf with hcs | ⟨x, l, c, acts, hcs, hl, hh⟩
    · simp [Value.cells] at hcs
      obtain ⟨rfl, rfl, rfl⟩ := hcs
      exact law05_FieldOf_nil none 0 a1 W hdb
    · simp [Value.cells] at hcs
      obtain ⟨rfl, rfl, rfl⟩ := hcs
      by_cases hn : len0 = 0
      · subst hn
        exact law05_FieldOf_nil _ cap0 a1 W hdb
      · obtain ⟨hb, hs, hh⟩ := hh (by omega)
        obtain ⟨b, o, s⟩ := x
        obtain rfl : s = none := hs
        have := law05_FieldOf b o cap0 acts a1 W hdb hh
        rw [hl] at this
        exact this
  clear hA0 hval0 hsz0
  refine main.mono fun e W' ⟨he, fr⟩ => ?_
  subst he
  exact ⟨_, rfl, _, _, _, [], _, [], hW', trodAll_mk1 (shut_bool Tryd.underlying4 _), (trodAll_cons_mk (Below.trod laidOut (by kernel_rfl) (of_decide_eq_true (by kernel_rfl)) k0 (bel fr) lt0) (trodAll_cons_mk (shut_int Tryd.underlying3 w1) trodAll_mk0)), rfl, (bel fr).frame _, fun h => by cases h⟩
theorem over : Rows.fieldOfRow.holds Tryd.pinned (OpenSpec.ofChange Rows.fieldOfSpec) :=
  OpenClaim.holds_of_wide 5 Tryd.f5 rfl rfl rfl rfl rfl rfl rfl ⟨rfl, rfl, rfl, rfl, rfl⟩ rfl rfl rfl rfl rfl (by kernel_rfl) Tryd.func5 (by kernel_rfl)
    (of_decide_eq_true (by kernel_rfl)) (by unfold Func.isWrapper; first | (rw [if_pos (by decide +kernel)]; kernel_rfl) | (rw [if_neg (by decide +kernel)]; exact ⟨rfl, rfl⟩))
    (fun os started H enc _ => lifted os started H enc)
theorem card : Rows.FieldOfCardSaid :=
  Claim7.holds_tied_plain_at .later [] [.data] true (true, "acf5ea34ce473dfa0a0df7601f255754a2d4f64da8d5befa7e9e4b2338f77e97") false over (fun _ h => by cases h) (by kernel_rfl) (fun _ h => by cases h) fieldOf_row_tie rfl ⟨rfl, rfl⟩ (by kernel_rfl) rfl
    (fun f fn hf hfn => by
      obtain rfl : f = 5 := Option.some.inj ((show Tryd.prog.funcNamed "millpond/millpondlaw05.FieldOf" = some 5 by kernel_rfl).symm.trans hf) |>.symm
      obtain rfl : fn = Tryd.f5 := (Option.some.inj (Tryd.func5.symm.trans hfn)).symm
      exact ⟨by kernel_rfl, fun j t ht => by
        rw [Tryd.params5] at ht
        have hm : t ∈ [44, 3] := by simpa using Array.mem_of_getElem? ht
        have hall : ([44, 3].all fun u => !Tryd.prog.wantsStandIn u) = true := by kernel_rfl
        exact (show Tryd.prog.wantsStandIn t = false by simpa using List.all_eq_true.1 hall t hm)⟩)
    (by kernel_rfl)
#print axioms card
end Go.Proofs.YtghohcgbmceiaaaDoor.fieldOf
namespace Go.Proofs.YtghohcgbmceiaaaDoor
theorem fieldOf_holds : Rows.FieldOfCardSaid := fieldOf.card
end Go.Proofs.YtghohcgbmceiaaaDoor
