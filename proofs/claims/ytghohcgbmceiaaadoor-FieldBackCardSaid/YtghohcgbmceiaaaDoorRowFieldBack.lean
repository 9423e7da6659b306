/- Whatever comes in, FieldBack returns true, and nothing that was there has turned. The card: the one listed table is tied to the program text. -/
import Derived.Test.YtghohcgbmceiaaaDoorCards
import Derived.Test.YtghohcgbmceiaaaDoorTie
import Derived.Test.YtghohcgbmceiaaaDoorLd
import Derived.Test.YtghohcgbmceiaaaDoorIb
import Derived.SevenTiedAt
import Derived.ChangeMaps5
import Derived.Test.YtghohcgbmceiaaaDoorLc
import Derived.Test.YtghohcgbmceiaaaDoorLf
namespace Go.Proofs.YtghohcgbmceiaaaDoor.fieldBack
open Go.ChangeMaps Go.ChangeShapes Go.WideShapes Go.ChangeAt Go.RowKit Go.Proofs.YtghohcgbmceiaaaDoor.K
set_option linter.unusedVariables false
set_option maxRecDepth 100000 in
theorem lifted (os : Os) (started : os.Started) (H : Type) (enc : TypeId × Value → H) :
    ReturnsInHanded {} Tryd.checked os 6 .any (fun w args => (Rows.fieldBackSpec.pre enc Tryd.prog Tryd.f6 Rows.fieldBackRow.domain false w args ∧ laidMetH Tryd.prog laidT w) ∧ sizedMet enc Tryd.prog Tryd.f6 (OpenSpec.ofChange Rows.fieldBackSpec) false w args)
      (Rows.fieldBackSpec.post enc Tryd.prog Tryd.f6 false true false false) := by
  refine returnsInHanded_of_change_and (C := Tryd.checked) (X := fun w _ => laidMetH Tryd.prog laidT w) (fun _ _ _ hh h => h.of_heap hh) own started (by kernel_rfl) Tryd.func6
    (ChangeSpec.witness_at (enc := enc) (C := Tryd.checked) (os := os) (X := fun w _ => laidMetH Tryd.prog laidT w) false (World.laidAll Tryd.prog os laidT) #[.slice none 0 0, .slice none 0 0, .int .i64 0, .int .u64 0] 8 (World.laidAll_os _ _ _) (by kernel_rfl) (by kernel_rfl) (by kernel_rfl) (by kernel_rfl) (by kernel_rfl)
      (by rw [MakeChecks.laidMetH_plain _ _ _ (by kernel_rfl)]; exact laidMet_laidAll _ (by kernel_rfl) (by kernel_rfl))) ?_
  intro W base args ds gs before hval0 hW _ hsz0 hL _
  have hval : ∀ (j : Nat) t v, Tryd.f6.params[j]? = some t → args[j]? = some v → Value.okWide Tryd.prog W .any base t v := hval0
  have hW' := hW
  obtain ⟨p, q, hA0, hV, rfl, hfz, hnd⟩ := hW
  have hA : DataW.TrodAll enc Tryd.prog W 0 (fun _ => true) true Tryd.f6.params.toList args.toList ds p := hA0
  rw [Tryd.params6] at hA hval
  obtain ⟨v0, vs0, d0, ds0, p0, q0, hargs, rfl, rfl, h0, r0⟩ := trodAll_cons hA
  obtain ⟨v1, vs1, d1, ds1, p1, q1, rfl, rfl, rfl, h1, r1⟩ := trodAll_cons r0
  obtain ⟨v2, vs2, d2, ds2, p2, q2, rfl, rfl, rfl, h2, r2⟩ := trodAll_cons r1
  obtain ⟨v3, vs3, d3, ds3, p3, q3, rfl, rfl, rfl, h3, r3⟩ := trodAll_cons r2
  obtain ⟨rfl, rfl, rfl⟩ := trodAll_nil r3
  obtain rfl : args = #[v0, v1, v2, v3] := by cases args; simp_all
  obtain ⟨rfl, rfl⟩ := trodVars_none hV
  have hdb := db_holds hL
  obtain ⟨b0, len0, cap0, rfl⟩ := okWide_slice Tryd.underlying44 (hval 0 44 v0 rfl rfl)
  have k0 := h0
  have lt0 : ∀ x ∈ p0, x.block < W.heap.size := by obtain ⟨m, hm⟩ := k0; exact DataW.trod_lt m _ _ _ hm
  obtain ⟨b1, len1, cap1, rfl⟩ := okWide_slice Tryd.underlying53 (hval 1 53 v1 rfl rfl)
  have k1 := h1
  have lt1 : ∀ x ∈ p1, x.block < W.heap.size := by obtain ⟨m, hm⟩ := k1; exact DataW.trod_lt m _ _ _ hm
  obtain ⟨a2, rfl, rfl, rfl, w2⟩ := open_int Tryd.underlying3 (hval 2 3 v2 rfl rfl) h2
  obtain ⟨a3, rfl, rfl, rfl, w3⟩ := open_int Tryd.underlying54 (hval 3 54 v3 rfl rfl) h3
  have main : Calls Tryd.prog 6 #[.slice b0 len0 cap0, .slice b1 len1 cap1, .int .i64 a2, .int .u64 a3] W fun e w' => e = .returned (.bool true) ∧ Fr W w' no no := by
    obtain ⟨fuel0, hf0⟩ := h0
    obtain ⟨fuel1, hf1⟩ := h1
    obtain ⟨xn, rfl⟩ : ∃ xn : Nat, a3 = ((xn : Nat) : Int) := ⟨a3.toNat, by have := rng_u64 w3; omega⟩
    have hxn : xn ≤ 18446744073709551615 := by have := rng_u64 w3; omega
    rcases open_ils hf0 with hcs | ⟨x0, l0, c0, wl, hcs, hl0, hh0⟩
    · simp [Value.cells] at hcs
      obtain ⟨rfl, rfl, rfl⟩ := hcs
      exact law05_FieldBack_nil none 0 b1 len1 cap1 a2 xn W hdb
    · simp [Value.cells] at hcs
      obtain ⟨rfl, rfl, rfl⟩ := hcs
      by_cases hn : len0 = 0
      · subst hn
        exact law05_FieldBack_nil _ cap0 b1 len1 cap1 a2 xn W hdb
      · obtain ⟨_, hs, hh⟩ := hh0 (by omega)
        obtain ⟨bb, oo, ss⟩ := x0
        obtain rfl : ss = none := hs
        by_cases hN : chkW wl = 0
        · have hW := okW_chk.1 hN
          rcases open_uls hf1 with hcs | ⟨x1, l1, c1, ws, hcs, hh1⟩
          · simp [Value.cells] at hcs
            obtain ⟨rfl, rfl, rfl⟩ := hcs
            have := law05_FieldBack_few0 bb oo cap0 wl none 0 a2 xn W hdb hh hW
            rw [hl0] at this
            exact this
          · simp [Value.cells] at hcs
            obtain ⟨rfl, rfl, rfl⟩ := hcs
            by_cases hn1 : len1 = 0
            · subst hn1
              have := law05_FieldBack_few0 bb oo cap0 wl (some x1) cap1 a2 xn W hdb hh hW
              rw [hl0] at this
              exact this
            · obtain ⟨hb1, hs1, hu, hws⟩ := hh1 (by omega)
              obtain ⟨bq, oq, sq⟩ := x1
              obtain rfl : sq = none := hs1
              by_cases hk : wl.length ≤ len1
              · have := law05_FieldBack_yes bb oo cap0 wl bq oq len1 cap1 ws a2 xn W hdb hh hu hW hk hws hxn hb1
                rw [hl0] at this
                exact this
              · have := law05_FieldBack_few bb oo cap0 wl bq oq len1 cap1 ws a2 xn W hdb hh hu hW (by omega) hws hxn hb1
                rw [hl0] at this
                exact this
        · have := law05_FieldBack_no bb oo cap0 wl b1 len1 cap1 a2 xn W hdb hh hN
          rw [hl0] at this
          exact this
  clear hA0 hval0 hsz0
  refine main.mono fun e W' ⟨he, fr⟩ => ?_
  subst he
  exact ⟨_, rfl, _, _, _, [], _, [], hW', trodAll_mk1 (shut_bool Tryd.underlying4 _), (trodAll_cons_mk (Below.trod laidOut (by kernel_rfl) (of_decide_eq_true (by kernel_rfl)) k0 (bel fr) lt0) (trodAll_cons_mk (Below.trod laidOut (by kernel_rfl) (of_decide_eq_true (by kernel_rfl)) k1 (bel fr) lt1) (trodAll_cons_mk (shut_int Tryd.underlying3 w2) (trodAll_cons_mk (shut_int Tryd.underlying54 w3) trodAll_mk0)))), rfl, (bel fr).frame _, fun h => by cases h⟩
theorem over : Rows.fieldBackRow.holds Tryd.pinned (OpenSpec.ofChange Rows.fieldBackSpec) :=
  OpenClaim.holds_of_wide 6 Tryd.f6 rfl rfl rfl rfl rfl rfl rfl ⟨rfl, rfl, rfl, rfl, rfl⟩ rfl rfl rfl rfl rfl (by kernel_rfl) Tryd.func6 (by kernel_rfl)
    (of_decide_eq_true (by kernel_rfl)) (by unfold Func.isWrapper; first | (rw [if_pos (by decide +kernel)]; kernel_rfl) | (rw [if_neg (by decide +kernel)]; exact ⟨rfl, rfl⟩))
    (fun os started H enc _ => lifted os started H enc)
theorem card : Rows.FieldBackCardSaid :=
  Claim7.holds_tied_plain_at .later [] [.data] true (true, "acf5ea34ce473dfa0a0df7601f255754a2d4f64da8d5befa7e9e4b2338f77e97") false over (fun _ h => by cases h) (by kernel_rfl) (fun _ h => by cases h) fieldBack_row_tie rfl ⟨rfl, rfl⟩ (by kernel_rfl) rfl
    (fun f fn hf hfn => by
      obtain rfl : f = 6 := Option.some.inj ((show Tryd.prog.funcNamed "millpond/millpondlaw05.FieldBack" = some 6 by kernel_rfl).symm.trans hf) |>.symm
      obtain rfl : fn = Tryd.f6 := (Option.some.inj (Tryd.func6.symm.trans hfn)).symm
      exact ⟨by kernel_rfl, fun j t ht => by
        rw [Tryd.params6] at ht
        have hm : t ∈ [44, 53, 3, 54] := by simpa using Array.mem_of_getElem? ht
        have hall : ([44, 53, 3, 54].all fun u => !Tryd.prog.wantsStandIn u) = true := by kernel_rfl
        exact (show Tryd.prog.wantsStandIn t = false by simpa using List.all_eq_true.1 hall t hm)⟩)
    (by kernel_rfl)
#print axioms card
end Go.Proofs.YtghohcgbmceiaaaDoor.fieldBack
namespace Go.Proofs.YtghohcgbmceiaaaDoor
theorem fieldBack_holds : Rows.FieldBackCardSaid := fieldBack.card
end Go.Proofs.YtghohcgbmceiaaaDoor
