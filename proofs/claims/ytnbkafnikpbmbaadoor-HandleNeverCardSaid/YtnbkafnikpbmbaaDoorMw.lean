/-
  Walks, printed by w2.py.
-/
import Derived.Test.YtnbkafnikpbmbaaDoorQb
import Derived.Test.YtnbkafnikpbmbaaDoorMt
import Derived.Test.YtnbkafnikpbmbaaDoorOz
import Derived.Test.YtnbkafnikpbmbaaDoorProg
namespace Go.Proofs.YtnbkafnikpbmbaaDoor.K
set_option linter.unusedVariables false
set_option linter.unusedSimpArgs false

set_option maxRecDepth 100000 in
set_option maxHeartbeats 1000000 in
theorem law17_HandleNever (ao7 : Option Addr) (c7 : Nat) (g7 : Nat) (o7 : Nat) (l : List (Int × Int × Int × Int × Bool)) (w : World) (hh0 : HE.holds w 0 (.fn 0 64 dbT)) (hh1 : HE.holds w g7 (.fn o7 (o7 + l.length * 5) (aHV (gtD l) o7))) (hv7 : (l.length = 0 ∨ ao7 = some ⟨g7, o7, none⟩)) (hAl : ∀ i, i < l.length → rg_aHV (gtD l i)) :
    Calls Tryd.prog 6 #[.slice ao7 l.length c7] w fun e w' => e = .returned (vb true) ∧ Fr w w' no no := by
 have hZ0 : HRep (comM (AM.new 2) 0 2) 16 100 (List.replicate 6 ((0, 0) : Int × Int)) := HRep.zero (comM_zero (fun _ => rfl) 0 2) (page_thr2 (by decide)) (by decide) (by decide) (by decide) (fun i hi => gtD_rep (by simpa using hi))
 refine enter (args := [.slice ao7 l.length c7]) (D := no) (A := []) Tryd.func6 rfl 129 rfl [(0, .fn 0 64 dbT), (g7, .fn o7 (o7 + l.length * 5) (aHV (gtD l) o7))] (WS.startL ⟨⟨rfl, hh0⟩, ⟨rfl, hh1⟩, trivial⟩) fun ac hS => ?_
 refine hS.regS [0] [0] fun _ => seg [] [(0, none), (1, none)] [] trivial fun ac wd hS => ?_
 refine wp_seq ?_
 refine wp_region_seq ?_
 refine hS.call0 36 #[] 18 (law17_awake  _ (hS.mem.get 0 0 (.fn 0 64 dbT)) ) fun ac wd hS => ?_
 refine hS.opsC 1 [0] [0] fun _ => seg [(19, vb false)] [(0, none), (1, none)] [] trivial fun ac wd hS => ?_
 refine list_nil_seq ?_
 refine hS.condF ?_
 refine wp_skip ?_
 refine pop_then ?_
 refine wp_seq ?_
 refine hS.regS [0, 0, 0] [0] fun _ => seg [(22, vb (decide ((80 : Int) < ((l.length : Nat) : Int))))] [(0, none), (1, none)] [] trivial fun ac wd hS => ?_
 refine hS.condC (decide ((80 : Int) < ((l.length : Nat) : Int))) (fun hb1o hb1 => ?_) (fun hb1o hb1 => ?_)
 ·
  refine hS.regS [0] [] fun _ => seg [(2, vb true)] [(0, none)] [] trivial fun ac wd hS => ?_
  refine wp_ret ?_
  refine pop_then_ret ?_
  refine St.retC 0 hS (vb true) [] trivial fun hw => ?_
  refine ⟨retd rfl, hw.fr0⟩
 ·
  refine wp_skip ?_
  refine pop_then ?_
  refine wp_region_seq ?_
  refine hS.callC 37 #[vi 100] (law17_open 100 _  (by decide)) ?_
  rintro _ wd ⟨b'2, F3, rfl, hN, hF⟩
  refine ⟨.tuple #[pt b'2 0, .agg #[pt b'2 0, vi 16, vi 100], vb true], rfl, ?_⟩
  replace hS := (hS.to (hS.mem.newA hN hF)).put (d := 24) (v := .tuple #[pt b'2 0, .agg #[pt b'2 0, vi 16, vi 100], vb true]) (by decide)
  clear hF
  refine hS.opsC 8 [0, 0, 0, 0, 0, 0, 200, 0] [0] fun ν5 => seg [(4, pt (ν5 0) 0), (5, vb true)] [(0, none), (1, none), (2, some ((ν5 0), .cells [pt b'2 0, vi 16, vi 100] 74))] [.e (ν5 0), .e (ν5 0), .e (ν5 0)] trivial fun ac wd hS => ?_
  refine list_nil_seq ?_
  refine wp_region_seq ?_
  refine Runs1.list ?_
  refine St.mapNew hS 77 rfl rfl (by decide) (.int .u64) (vu : Int → Value) (vi : Int → Value) fun ac wd mp4 hm5 hS => ?_
  refine Runs1.list ?_
  refine St.mapNew hS 77 rfl rfl (by decide) (.int .u64) (vu : Int → Value) (vi : Int → Value) fun ac wd mp6 hm7 hS => ?_
  refine hS.opsC 2 [0, 0] [0, 4, 5] fun _ => seg [(6, .map (some mp4)), (7, .map (some mp6))] [(0, none), (1, none), (2, none)] [] trivial fun ac wd hS => ?_
  refine list_nil_seq ?_
  refine hS.regS [0] [0, 4, 5, 6, 7] fun _ => seg [(8, vnil)] [(0, none), (1, none), (2, none)] [] trivial fun ac wd hS => ?_
  refine wp_seq ?_
  replace hS := hS.to (hS.mem.geNil 79 1 (u1V (gtD ([] : List Int)) 0))
  refine hS.regS [0, 0, 0] [4, 5, 6, 7, 8] fun _ => seg [(30, .slice ao7 l.length c7), (31, vi ((l.length : Nat) : Int)), (32, vi 0)] [(0, none), (1, none), (2, none)] [] trivial fun ac wd hS => ?_
  refine wp_block ?_
  refine St.loopC (σ := Int × (Nat → Prop) × AM × List Sl × Nat × (Int → Option Int) × Nat × (Int → Option Int) × Option Addr × Nat × (Nat → Prop) × List Int) (fun (x : Int × (Nat → Prop) × AM × List Sl × Nat × (Int → Option Int) × Nat × (Int → Option Int) × Option Addr × Nat × (Nat → Prop) × List Int) => match x with | (x32, Fx, mx, tq, nT, fT, nG, fG, aov, cv, Fv, lv) => ⟨[(4, [], pt (ν5 0) 0), (5, [], vb true), (6, [], .map (some mp4)), (7, [], .map (some mp6)), (8, [], .slice aov lv.length cv), (30, [], .slice ao7 l.length c7), (31, [], vi ((l.length : Nat) : Int)), (32, [], vi x32)], [(0, .fn 0 64 dbT), (g7, .fn o7 (o7 + l.length * 5) (aHV (gtD l) o7)), ((ν5 0), .cells [pt b'2 0, vi 16, vi 100] 74)], [arR b'2 Fx mx, mpR (.int .u64) (vu : Int → Value) (vi : Int → Value) mp4 (one mp4) (nT, fT), mpR (.int .u64) (vu : Int → Value) (vi : Int → Value) mp6 (one mp6) (nG, fG), geR 79 1 (.slice aov lv.length cv) Fv (lv.length, (u1V (gtD lv) 0))], (0 ≤ x32 ∧ x32 ≤ ((l.length : Nat) : Int)) ∧ (HRep mx 16 100 tq) ∧ (NvI tq fT fG) ∧ (lv.Perm (rAll tq)) ∧ True, l.length - Int.toNat x32⟩) (0, F3, (comM (AM.new 2) 0 2), (List.replicate 6 ((0, 0) : Sl)), 0, (fun _ => none : Int → Option Int), 0, (fun _ => none : Int → Option Int), none, 0, no, []) ⟨(by omega), (by exact hZ0), (by exact NvI.start), (by exact List.Perm.refl _), trivial⟩ hS ?_
  clear hS
  rintro ⟨x32, Fx, mx, tq, nT, fT, nG, fG, aov, cv, Fv, lv⟩ ⟨i0, i1, i2, i3, -⟩ ac wd hS
  replace i0 : 0 ≤ x32 ∧ x32 ≤ ((l.length : Nat) : Int) := i0
  replace i1 : HRep mx 16 100 tq := i1
  replace i2 : NvI tq fT fG := i2
  replace i3 : lv.Perm (rAll tq) := i3
  refine hS.regS [0] [4, 5, 6, 7, 8, 30, 31, 32] fun _ => seg [(33, vb (decide ((x32 : Int) < ((l.length : Nat) : Int))))] [(0, none), (1, none), (2, none)] [] trivial fun ac wd hS => ?_
  refine wp_seq ?_
  refine hS.condC (decide ((x32 : Int) < ((l.length : Nat) : Int))) (fun hb8o hb8 => ?_) (fun hb8o hb8 => ?_)
  ·
   refine wp_skip ?_
   refine pop_then ?_
   refine wp_seq ?_
   refine wp_block ?_
   obtain rfl : ao7 = some ⟨g7, o7, none⟩ := Or.resolve_left hv7 (by omega)
   refine hS.regS [20, fx 100 (.agg #[v8 (((gtD l) (Int.toNat x32)).1), vi (((gtD l) (Int.toNat x32)).2.1), vi (((gtD l) (Int.toNat x32)).2.2.1), vu (((gtD l) (Int.toNat x32)).2.2.2.1), vb (((gtD l) (Int.toNat x32)).2.2.2.2)]), 0, 300] [4, 5, 6, 7, 8, 30, 31, 32] fun ν10 => seg [(10, pt (ν10 0) 0)] [(0, none), (1, none), (2, none), (3, some ((ν10 0), .cells [v8 (((gtD l) (Int.toNat x32)).1), vi (((gtD l) (Int.toNat x32)).2.1), vi (((gtD l) (Int.toNat x32)).2.2.1), vu (((gtD l) (Int.toNat x32)).2.2.2.1), vb (((gtD l) (Int.toNat x32)).2.2.2.2)] 81))] [.e (ν10 0), .e (ν10 0), .e (ν10 0), .e (ν10 0), .e (ν10 0), .p ((.agg #[((aHV (gtD l) o7) (o7 + Int.toNat x32 * 5)), ((aHV (gtD l) o7) (o7 + Int.toNat x32 * 5 + 1)), ((aHV (gtD l) o7) (o7 + Int.toNat x32 * 5 + 2)), ((aHV (gtD l) o7) (o7 + Int.toNat x32 * 5 + 3)), ((aHV (gtD l) o7) (o7 + Int.toNat x32 * 5 + 4))] : Value) = .agg #[v8 (((gtD l) (Int.toNat x32)).1), vi (((gtD l) (Int.toNat x32)).2.1), vi (((gtD l) (Int.toNat x32)).2.2.1), vu (((gtD l) (Int.toNat x32)).2.2.2.1), vb (((gtD l) (Int.toNat x32)).2.2.2.2)]), .e g7, .p (o7 ≤ o7 + Int.toNat x32 * 5 + 4 ∧ o7 + Int.toNat x32 * 5 + 4 < (o7 + l.length * 5)), .e g7, .p (o7 ≤ o7 + Int.toNat x32 * 5 + 3 ∧ o7 + Int.toNat x32 * 5 + 3 < (o7 + l.length * 5)), .e g7, .p (o7 ≤ o7 + Int.toNat x32 * 5 + 2 ∧ o7 + Int.toNat x32 * 5 + 2 < (o7 + l.length * 5)), .e g7, .p (o7 ≤ o7 + Int.toNat x32 * 5 + 1 ∧ o7 + Int.toNat x32 * 5 + 1 < (o7 + l.length * 5)), .e g7, .p (o7 ≤ o7 + Int.toNat x32 * 5 ∧ o7 + Int.toNat x32 * 5 < (o7 + l.length * 5)), .p ((0 : Int) ≤ x32 ∧ (x32 : Int) < ((l.length : Nat) : Int))] ⟨(agg5 (aHV_0 (gtD l) o7 (Int.toNat x32)) (aHV_1 (gtD l) o7 (Int.toNat x32)) (aHV_2 (gtD l) o7 (Int.toNat x32)) (aHV_3 (gtD l) o7 (Int.toNat x32)) (aHV_4 (gtD l) o7 (Int.toNat x32))), (by omega), (by omega), (by omega), (by omega), (by omega), (by omega), trivial⟩ fun ac wd hS => ?_
   refine wp_seq ?_
   obtain ⟨kd, kd_e⟩ : ∃ q_ : Int, q_ = ((gtD l) (Int.toNat x32)).1 := ⟨_, rfl⟩
   obtain ⟨kn, kn_e⟩ : ∃ q_ : Int, q_ = ((gtD l) (Int.toNat x32)).2.1 := ⟨_, rfl⟩
   obtain ⟨ka, ka_e⟩ : ∃ q_ : Int, q_ = ((gtD l) (Int.toNat x32)).2.2.1 := ⟨_, rfl⟩
   obtain ⟨kh, kh_e⟩ : ∃ q_ : Int, q_ = ((gtD l) (Int.toNat x32)).2.2.2.1 := ⟨_, rfl⟩
   obtain ⟨ko, ko_e⟩ : ∃ q_ : Bool, q_ = (((gtD l) (Int.toNat x32)).2.2.2.2) := ⟨_, rfl⟩
   replace hS := hS.to (hS.mem.tell 3 (b := (ν10 0)) (x := (.cells [v8 (((gtD l) (Int.toNat x32)).1), vi (((gtD l) (Int.toNat x32)).2.1), vi (((gtD l) (Int.toNat x32)).2.2.1), vu (((gtD l) (Int.toNat x32)).2.2.2.1), vb (((gtD l) (Int.toNat x32)).2.2.2.2)] 81)) (.cells [v8 kd, vi kn, vi ka, vu kh, vb ko] 81) (hh := fun h_ => by rw [kd_e, kn_e, ka_e, kh_e, ko_e]; exact h_))
   have hac := hAl _ (show Int.toNat x32 < l.length by omega)
   unfold rg_aHV at hac
   rw [← kd_e, ← kn_e, ← ka_e, ← kh_e] at hac
   clear kd_e kn_e ka_e kh_e ko_e
   obtain ⟨hac1, hac2, hac3, hac4, _⟩ := hac
   have hik : 0 ≤ imax 0 kn := by unfold imax; split <;> omega
   have hok := i1.ok
   have hok1 := hok.1
   have hll := i3.length_eq
   have hra := rAll_len tq
   refine hS.regS [0, 300, 20, 0] [4, 5, 6, 7, 8, 10, 30, 31, 32] fun _ => seg [(39, vb (decide (((kd % 6) : Int) < 3)))] [(0, none), (1, none), (2, none), (3, none)] [.p ((6 : Int) ≠ 0 ∧ Int.tmod kd 6 = kd % 6), .e (ν10 0)] ⟨rem2 (by omega) (by omega), trivial⟩ fun ac wd hS => ?_
   refine hS.condC (decide (((kd % 6) : Int) < 3)) (fun hb9o hb9 => ?_) (fun hb9o hb9 => ?_)
   ·
    refine wp_region_seq ?_
    refine hS.opsC 3 [200, 0, 300] [4, 5, 6, 7, 8, 30, 31, 32] fun _ => seg [(41, .agg #[pt b'2 0, vi 16, vi 100]), (43, vi ka)] [(0, none), (1, none), (2, none)] [.e (ν10 0), .e (ν5 0), .e (ν5 0), .e (ν5 0)] trivial fun ac wd hS => ?_
    refine hS.callC 38 #[.agg #[pt b'2 0, vi 16, vi 100], vi ka] (h_New_r b'2 Fx mx 16 100 ka tq _ (hS.mem.res 0) (by exact i1) (by exact hac3.2)) ?_
    rintro _ wd ⟨F10, rfl, hA, hF⟩
    refine ⟨.tuple #[vu (rNewV tq ka), vi (rNewE tq ka)], rfl, ?_⟩
    replace hS := (hS.to (hS.mem.stepA 0 rfl hA hF)).put (d := 44) (v := .tuple #[vu (rNewV tq ka), vi (rNewE tq ka)]) (by decide)
    clear hF
    refine hS.opsC 5 [0, 0, 0, 0, 0] [4, 5, 6, 7, 8, 30, 31, 32] fun _ => seg [(11, vu (rNewV tq ka)), (12, vi (rNewE tq ka))] [(0, none), (1, none), (2, none)] [] trivial fun ac wd hS => ?_
    refine list_nil_seq ?_
    refine wp_seq ?_
    refine hS.regS [0, 0] [4, 5, 6, 7, 8, 11, 30, 31, 32] fun _ => seg [(48, vb (((rNewE tq ka) : Int) != 0))] [(0, none), (1, none), (2, none)] [] trivial fun ac wd hS => ?_
    refine hS.condC (((rNewE tq ka) : Int) != 0) (fun hb11o hb11 => ?_) (fun hb11o hb11 => ?_)
    ·
     have hT0 := NvI.new0 (t := tq) (a := ka) hb11
     refine wp_exit ?_
     refine pop_then_exit ?_
     refine pop_then_exit ?_
     refine pop_block_hit ?_
     refine pop_then ?_
     refine hS.regC [20, 0] [4, 5, 6, 7, 8, 30, 31] fun _ => seg [(32, vi (x32 + 1))] [(0, none), (1, none), (2, none)] [.p (fit .i64 (x32 + 1))] ⟨fit_i64 (by omega), trivial⟩ fun ac wd hS => ?_
     exact pop_then (hS.next ((x32 + 1), F10, (hNwM mx 16 100 ka), (rNewT tq ka), nT, fT, nG, fG, aov, cv, Fv, lv) ⟨(by omega), (by first | exact (i1.new hac3.2).1 | exact hRd | exact i1), (by first | exact hn2 | exact hd3 | exact i2 | (rw [hT0]; exact i2)), (by first | exact hn3 i3 | (rw [show Int.toNat (ki + 1) = Int.toNat ki + 1 by omega]; exact hd4) | exact i3 | (rw [hT0]; exact i3)), trivial⟩ (by dsimp only; omega))
    ·
     obtain ⟨hn1, hn2, hn3⟩ := i2.new (L := lv) hok (a := ka) hb11
     refine wp_skip ?_
     refine pop_then ?_
     refine wp_seq ?_
     refine wp_region_seq ?_
     refine hS.opsC 2 [0, 0] [4, 5, 6, 7, 8, 11, 30, 31, 32] fun _ => seg [(49, .map (some mp4)), (50, vu (rNewV tq ka))] [(0, none), (1, none), (2, none)] [] trivial fun ac wd hS => ?_
     refine Runs1.list ?_
     refine St.mapGet hS 77 (.tmp 49) (.tmp 50) rfl rfl (by decide) (dk := .int .u64) (ek := (vu : Int → Value)) (ev := (vi : Int → Value)) (b := mp4) (q := nT) (F := (one mp4)) (f := fT) 1 (rNewV tq ka) 0 (fun _ => rfl) (fun _ _ e_ => by injection e_) Tryd.underlying77 Tryd.underlying79 Tryd.zeroValue3 fun ac hS => ?_
     refine hS.opsC 1 [20] [4, 5, 6, 7, 8, 11, 30, 31, 32, 49, 50] fun _ => seg [(52, vi (((fT (rNewV tq ka)).getD 0) + 1))] [(0, none), (1, none), (2, none)] [.p (fit .i64 (((fT (rNewV tq ka)).getD 0) + 1))] ⟨fit_i64 (by omega), trivial⟩ fun ac wd hS => ?_
     refine Runs0.list ?_
     refine St.mapPut hS 77 (.tmp 49) (.tmp 50) (.tmp 52) rfl (dk := .int .u64) (ek := (vu : Int → Value)) (ev := (vi : Int → Value)) (b := mp4) (q := nT) (F := (one mp4)) (f := fT) 1 (rNewV tq ka) (((fT (rNewV tq ka)).getD 0) + 1) (fun _ => rfl) (fun _ _ e_ => by injection e_) Tryd.underlying77 Tryd.underlying79 fun wd hS => ?_
     refine list_nil_seq ?_
     refine wp_region_seq ?_
     refine hS.opsC 2 [0, 0] [4, 5, 6, 7, 8, 11, 30, 31, 32] fun _ => seg [(53, .map (some mp4)), (54, vu (rNewV tq ka))] [(0, none), (1, none), (2, none)] [] trivial fun ac wd hS => ?_
     refine Runs1.list ?_
     refine St.mapGet hS 77 (.tmp 53) (.tmp 54) rfl rfl (by decide) (dk := .int .u64) (ek := (vu : Int → Value)) (ev := (vi : Int → Value)) (b := mp4) (q := (updN nT fT (rNewV tq ka))) (F := (one mp4)) (f := (updO fT (rNewV tq ka) (((fT (rNewV tq ka)).getD 0) + 1))) 1 (rNewV tq ka) 0 (fun _ => rfl) (fun _ _ e_ => by injection e_) Tryd.underlying77 Tryd.underlying79 Tryd.zeroValue3 fun ac hS => ?_
     refine hS.opsC 1 [0] [4, 5, 6, 7, 8, 11, 30, 31, 32] fun _ => seg [(56, vb (decide ((1 : Int) < (((updO fT (rNewV tq ka) (((fT (rNewV tq ka)).getD 0) + 1)) (rNewV tq ka)).getD 0))))] [(0, none), (1, none), (2, none)] [] trivial fun ac wd hS => ?_
     refine list_nil_seq ?_
     refine hS.condK (decide ((1 : Int) < (((updO fT (rNewV tq ka) (((fT (rNewV tq ka)).getD 0) + 1)) (rNewV tq ka)).getD 0))) false (by (unfold updO; rw [if_pos rfl, Option.getD_some, hn1]; rfl)) ?_
     show Code.wp _ _ _ _ _
     refine wp_skip ?_
     refine pop_then ?_
     refine wp_region_lit ?_
     refine hS.opsC 3 [0, 0, 0] [4, 5, 6, 7, 8, 30, 31, 32] fun ν20 => seg [(57, .slice aov lv.length cv), (59, sc (ν20 0) 0 1 1)] [(0, none), (1, none), (2, none), (3, some ((ν20 0), .cells [vu (rNewV tq ka)] 79))] [] trivial fun ac wd hS => ?_
     obtain ⟨i_, hi_, hz_, hs_, hb_⟩ := info_get (P := Tryd.prog) (e := 79) (z := vu 0) (s := 1) (b := 8) (by kernel_rfl)
     refine Runs1.list ?_
     refine St.appVE (m := lv.length) (f := (u1V (gtD lv) 0)) (news := [vu (rNewV tq ka)]) (bx := (ν20 0)) (cx := 1) (Tx := 79) 3 hS (.tmp 57) (.tmp 59) 78 rfl rfl (by decide) Tryd.underlying78 hi_ hz_ hs_ (by omega) rfl (by decide) 3 rfl rfl (by first | omega | (simp only [List.length_nil]; omega)) fun ac wd v2_ F14 hB15 hS => ?_
     obtain ⟨xo12, xc13, rfl⟩ := hB15.slice
     replace hS := hS.to (hS.mem.geTell (m := (lv.length + 1)) 3 (u1V (gtD (lv ++ [(rNewV tq ka)])) 0) (u1V_app lv (rNewV tq ka)))
     have hm_ : lv.length + 1 = ((lv ++ [(rNewV tq ka)])).length := by simp
     replace hS := hS.to (hS.mem.geRe (v := .slice xo12 (lv.length + 1) xc13) (v' := .slice xo12 (((lv ++ [(rNewV tq ka)])).length) xc13) (m := (lv.length + 1)) (m' := ((lv ++ [(rNewV tq ka)])).length) (f := (u1V (gtD (lv ++ [(rNewV tq ka)])) 0)) 3 (by rw [hm_]) hm_)
     replace hS := hS.fix 60 (.slice xo12 (((lv ++ [(rNewV tq ka)])).length) xc13) (show (.slice xo12 (lv.length + 1) xc13 : Value) = .slice xo12 (((lv ++ [(rNewV tq ka)])).length) xc13 by rw [hm_])
     refine hS.opsC 1 [0] [4, 5, 6, 7, 30, 31, 32] fun _ => seg [(8, .slice xo12 (((lv ++ [(rNewV tq ka)])).length) xc13)] [(0, none), (1, none), (2, none)] [] trivial fun ac wd hS => ?_
     refine list_nil ?_
     refine pop_then ?_
     have hcur := hn2
     have hRc := (i1.new hac3.2).1
     refine wp_region_seq ?_
     refine hS.opsC 1 [0] [4, 5, 6, 7, 8, 30, 31, 32] fun _ => seg [(92, .map (some mp4))] [(0, none), (1, none), (2, none)] [] trivial fun ac wd hS => ?_
     refine Runs1.list ?_
     refine St.mapRange hS 77 (.tmp 92) rfl rfl (by decide) (dk := .int .u64) (ek := (vu : Int → Value)) (ev := (vi : Int → Value)) (b := mp4) (q := (updN nT fT (rNewV tq ka))) (F := (one mp4)) (f := (updO fT (rNewV tq ka) (((fT (rNewV tq ka)).getD 0) + 1))) 1 Tryd.underlying77 fun ac wd it16 Fi17 hS => ?_
     refine list_nil_seq ?_
     refine wp_block ?_
     refine St.loopC (σ := Nat × (Option (Int × Int))) (fun (x : Nat × (Option (Int × Int))) => match x with | (lfx, cux) => ⟨[(4, [], pt (ν5 0) 0), (5, [], vb true), (6, [], .map (some mp4)), (7, [], .map (some mp6)), (8, [], .slice xo12 (((lv ++ [(rNewV tq ka)])).length) xc13), (30, [], sc g7 o7 l.length c7), (31, [], vi ((l.length : Nat) : Int)), (32, [], vi x32), (93, [], pt it16 0)], [(0, .fn 0 64 dbT), (g7, .fn o7 (o7 + l.length * 5) (aHV (gtD l) o7)), ((ν5 0), .cells [pt b'2 0, vi 16, vi 100] 74)], [arR b'2 F10 (hNwM mx 16 100 ka), rgR (.int .u64) (vu : Int → Value) (vi : Int → Value) mp4 it16 Fi17 ((updN nT fT (rNewV tq ka), updO fT (rNewV tq ka) (((fT (rNewV tq ka)).getD 0) + 1)), lfx, cux), mpR (.int .u64) (vu : Int → Value) (vi : Int → Value) mp6 (one mp6) (nG, fG), geR 79 1 (.slice xo12 (((lv ++ [(rNewV tq ka)])).length) xc13) F14 (((lv ++ [(rNewV tq ka)])).length, (u1V (gtD (lv ++ [(rNewV tq ka)])) 0))], True, lfx⟩) ((updN nT fT (rNewV tq ka)), none) trivial hS ?_
     clear hS
     rintro ⟨lfx, cux⟩ - ac wd hS
     refine wp_region_seq ?_
     refine Runs1.list ?_
     refine St.mapNext hS (.tmp 93) rfl rfl (by decide) (dk := .int .u64) (ek := (vu : Int → Value)) (ev := (vi : Int → Value)) (b := mp4) (r := it16) (q := (updN nT fT (rNewV tq ka))) (left := lfx) (F := Fi17) (f := (updO fT (rNewV tq ka) (((fT (rNewV tq ka)).getD 0) + 1))) (cur := cux) 1 (fun hrl0 ac hS => ?_) (fun ac wd rk18 rv19 rl20 hrk21 hrl22 hS => ?_)
     ·
      replace hS := hS.to (hS.mem.mapDone (dk := .int .u64) (ek := (vu : Int → Value)) (ev := (vi : Int → Value)) (b := mp4) (r := it16) (q := (updN nT fT (rNewV tq ka))) (left := lfx) (F := Fi17) (f := (updO fT (rNewV tq ka) (((fT (rNewV tq ka)).getD 0) + 1))) (cur := cux) 1)
      refine hS.opsC 1 [0] [4, 5, 6, 7, 8, 30, 31, 32, 93] fun _ => seg [(95, vb false)] [(0, none), (1, none), (2, none)] [] trivial fun ac wd hS => ?_
      refine list_nil_seq ?_
      refine wp_seq ?_
      refine hS.condF ?_
      refine wp_exit ?_
      refine pop_then_exit ?_
      refine pop_then_exit ?_
      refine pop_block_hit ?_
      refine pop_block ?_
      refine pop_then ?_
      refine hS.regC [20, 0] [4, 5, 6, 7, 8, 30, 31] fun _ => seg [(32, vi (x32 + 1))] [(0, none), (1, none), (2, none)] [.p (fit .i64 (x32 + 1))] ⟨fit_i64 (by omega), trivial⟩ fun ac wd hS => ?_
      exact pop_then (hS.next ((x32 + 1), F10, (hNwM mx 16 100 ka), (rNewT tq ka), (updN nT fT (rNewV tq ka)), (updO fT (rNewV tq ka) (((fT (rNewV tq ka)).getD 0) + 1)), nG, fG, xo12, xc13, F14, (lv ++ [(rNewV tq ka)])) ⟨(by omega), (by first | exact (i1.new hac3.2).1 | exact hRd | exact i1), (by first | exact hn2 | exact hd3 | exact i2 | (rw [hT0]; exact i2)), (by first | exact hn3 i3 | (rw [show Int.toNat (ki + 1) = Int.toNat ki + 1 by omega]; exact hd4) | exact i3 | (rw [hT0]; exact i3)), trivial⟩ (by dsimp only; omega))
     ·
      have hgx := hcur.get hRc.ok hrk21
      have hkr := hcur.2.2.2 _ _ hrk21
      refine hS.opsC 1 [0] [4, 5, 6, 7, 8, 30, 31, 32, 93] fun _ => seg [(95, vb true)] [(0, none), (1, none), (2, none)] [] trivial fun ac wd hS => ?_
      refine list_nil_seq ?_
      refine wp_seq ?_
      refine hS.condT ?_
      refine wp_skip ?_
      refine pop_then ?_
      refine wp_block ?_
      refine wp_region_seq ?_
      refine Runs1.list ?_
      refine St.mapEntry hS (.tmp 93) rfl rfl (by decide) (dk := .int .u64) (ek := (vu : Int → Value)) (ev := (vi : Int → Value)) (b := mp4) (r := it16) (q := (updN nT fT (rNewV tq ka))) (left := rl20) (F := Fi17) (f := (updO fT (rNewV tq ka) (((fT (rNewV tq ka)).getD 0) + 1))) (kk := rk18) (vv := rv19) 1 fun ac hS => ?_
      refine hS.opsC 2 [0, 0] [4, 5, 6, 7, 8, 30, 31, 32, 93] fun _ => seg [(15, vu rk18)] [(0, none), (1, none), (2, none)] [] trivial fun ac wd hS => ?_
      refine list_nil_seq ?_
      refine wp_region_seq ?_
      refine hS.opsC 2 [200, 0] [4, 5, 6, 7, 8, 15, 30, 31, 32, 93] fun _ => seg [(99, .agg #[pt b'2 0, vi 16, vi 100]), (100, vu rk18)] [(0, none), (1, none), (2, none)] [.e (ν5 0), .e (ν5 0), .e (ν5 0)] trivial fun ac wd hS => ?_
      refine hS.call0 40 #[.agg #[pt b'2 0, vi 16, vi 100], vu rk18] 101 (h_Get_r b'2 F10 (hNwM mx 16 100 ka) 16 100 rk18 (rNewT tq ka) _ (hS.mem.res 0) (by exact hRc) (by exact hkr)) fun ac wd hS => ?_
      refine hS.opsC 5 [0, 0, 0, 0, 0] [4, 5, 6, 7, 8, 15, 30, 31, 32, 93] fun _ => seg [(16, vi (rGetA (rNewT tq ka) rk18)), (17, vi (rGetE (rNewT tq ka) rk18))] [(0, none), (1, none), (2, none)] [] trivial fun ac wd hS => ?_
      refine list_nil_seq ?_
      refine wp_region_seq ?_
      refine hS.opsC 4 [0, 0, 0, 0] [4, 5, 6, 7, 8, 16, 17, 30, 31, 32, 93] fun _ => seg [(105, vb (((rGetE (rNewT tq ka) rk18) : Int) == 0)), (106, .map (some mp6)), (107, vu rk18)] [(0, none), (1, none), (2, none)] [] trivial fun ac wd hS => ?_
      refine Runs1.list ?_
      refine St.mapGet hS 77 (.tmp 106) (.tmp 107) rfl rfl (by decide) (dk := .int .u64) (ek := (vu : Int → Value)) (ev := (vi : Int → Value)) (b := mp6) (q := nG) (F := (one mp6)) (f := fG) 2 rk18 0 (fun _ => rfl) (fun _ _ e_ => by injection e_) Tryd.underlying77 Tryd.underlying79 Tryd.zeroValue3 fun ac hS => ?_
      refine hS.opsC 10 [0, 0, 0, 3, 3, 3, 3, 3, 83, 80] [4, 5, 6, 7, 8, 30, 31, 32, 93] fun _ => seg [(118, vb ((!((((rGetE (rNewT tq ka) rk18) : Int) == 0) == ((((fG rk18).getD 0) : Int) == 0))) || ((((rGetE (rNewT tq ka) rk18) : Int) != 0) && (((rGetA (rNewT tq ka) rk18) : Int) != 0))))] [(0, none), (1, none), (2, none)] [] trivial fun ac wd hS => ?_
      refine list_nil_seq ?_
      refine hS.condK ((!((((rGetE (rNewT tq ka) rk18) : Int) == 0) == ((((fG rk18).getD 0) : Int) == 0))) || ((((rGetE (rNewT tq ka) rk18) : Int) != 0) && (((rGetA (rNewT tq ka) rk18) : Int) != 0))) false (by (rcases hgx with ⟨q1, q2⟩ | ⟨q1, q2, q3⟩; (rw [q1, q2]; rfl); (rw [q1, q2, q3]; rfl))) ?_
      show Code.wp _ _ _ _ _
      refine wp_skip ?_
      refine pop_block ?_
      exact pop_then (hS.next (rl20, (some (rk18, rv19))) trivial (by dsimp only; omega))
   ·
    refine hS.regS [0, 0, 0] [4, 5, 6, 7, 8, 10, 30, 31, 32] fun _ => seg [(63, vb (decide ((0 : Int) < ((lv.length : Nat) : Int))))] [(0, none), (1, none), (2, none), (3, none)] [] trivial fun ac wd hS => ?_
    refine hS.condC (decide ((0 : Int) < ((lv.length : Nat) : Int))) (fun hb23o hb23 => ?_) (fun hb23o hb23 => ?_)
    ·
     have hlq : 0 < lv.length := by have h9 := hb23; omega
     have hmd := Int.emod_lt_of_pos (imax 0 kn) (show (0 : Int) < ((lv.length : Nat) : Int) by omega)
     have hmn := Int.emod_nonneg (imax 0 kn) (show ((lv.length : Nat) : Int) ≠ 0 by omega)
     obtain ⟨gl24, hl25, hgc_, hO⟩ := WS.geList (e := 79) (sz := 1) (m := lv.length) (F := Fv) (f := (u1V (gtD lv) 0)) (ao := aov) (c2 := cv) hS.mem 3 0 (b := 0) (lo := 0) (hi := 64) (fd := dbT) (h2 := 0 + lv.length) (hh := by omega)
     replace hS := hS.to hO
     clear hO
     refine hS.regS [0, 300, 0, 0, 0, 20, 0] [4, 5, 6, 7, 8, 30, 31, 32] fun _ => seg [(13, vi ((imax 0 kn) % ((lv.length : Nat) : Int)))] [(0, none), (1, none), (2, none), (4, none)] [.p ((((lv.length : Nat) : Int) : Int) ≠ 0 ∧ Int.tmod (imax 0 kn) ((lv.length : Nat) : Int) = (imax 0 kn) % ((lv.length : Nat) : Int)), .e (ν10 0)] ⟨rem2 (by omega) (by omega), trivial⟩ fun ac wd hS => ?_
     obtain rfl : aov = some ⟨gl24, 0, none⟩ := Or.resolve_left hl25 (by omega)
     obtain ⟨ki, ki_e⟩ : ∃ q_ : Int, q_ = ((imax 0 kn) % ((lv.length : Nat) : Int)) := ⟨_, rfl⟩
     replace hS := hS.fix 13 (vi ki) (show (vi ((imax 0 kn) % ((lv.length : Nat) : Int)) : Value) = vi ki by rw [ki_e])
     have hki : 0 ≤ ki ∧ ki < ((lv.length : Nat) : Int) := by rw [ki_e]; omega
     clear ki_e
     obtain ⟨hd1, hd2, hd3, hd4, hd5, hd6⟩ := i2.drop hok i3 (k := Int.toNat ki) (by omega)
     have hdl := hd4.length_eq
     have hra2 := rAll_len (rDroT tq (gtD lv (Int.toNat ki)))
     have hRd := i1.dro ⟨hd5, hd6⟩
     have hok2 := hRd.ok.1
     rw [List.length_append] at hdl
     refine hS.regS [0, 0, 10, fx 300 (vu ((gtD lv) (Int.toNat ki))), 0] [4, 5, 6, 7, 8, 13, 30, 31, 32] fun _ => seg [(14, vu ((gtD lv) (Int.toNat ki)))] [(0, none), (1, none), (2, none), (3, none)] [.p ((((u1V (gtD lv) 0) (Int.toNat ki)) : Value) = vu ((gtD lv) (Int.toNat ki))), .e gl24, .p (0 ≤ Int.toNat ki ∧ Int.toNat ki < (0 + lv.length)), .p ((0 : Int) ≤ ki ∧ (ki : Int) < ((lv.length : Nat) : Int))] ⟨((u1V_a (gtD lv) 0 (Int.toNat ki))), (by omega), (by omega), trivial⟩ fun ac wd hS => ?_
     refine wp_seq ?_
     refine wp_region_seq ?_
     refine hS.opsC 2 [200, 0] [4, 5, 6, 7, 8, 13, 14, 30, 31, 32] fun _ => seg [(74, .agg #[pt b'2 0, vi 16, vi 100]), (75, vu ((gtD lv) (Int.toNat ki)))] [(0, none), (1, none), (2, none), (3, none)] [.e (ν5 0), .e (ν5 0), .e (ν5 0)] trivial fun ac wd hS => ?_
     refine hS.callC 39 #[.agg #[pt b'2 0, vi 16, vi 100], vu ((gtD lv) (Int.toNat ki))] (h_Drop_r b'2 Fx mx 16 100 ((gtD lv) (Int.toNat ki)) tq _ (hS.mem.res 0) (by exact i1) (by exact ⟨hd5, hd6⟩)) ?_
     rintro _ wd ⟨F26, rfl, hA, hF⟩
     refine ⟨vi (rGetE tq ((gtD lv) (Int.toNat ki))), rfl, ?_⟩
     replace hS := (hS.to (hS.mem.stepA 0 rfl hA hF)).put (d := 76) (v := vi (rGetE tq ((gtD lv) (Int.toNat ki)))) (by decide)
     clear hF
     refine hS.opsC 1 [0] [4, 5, 6, 7, 8, 13, 14, 30, 31, 32] fun _ => seg [(77, vb (((rGetE tq ((gtD lv) (Int.toNat ki))) : Int) != 0))] [(0, none), (1, none), (2, none), (3, none)] [] trivial fun ac wd hS => ?_
     refine list_nil_seq ?_
     refine hS.condK (((rGetE tq ((gtD lv) (Int.toNat ki))) : Int) != 0) false (by (rw [hd1]; rfl)) ?_
     show Code.wp _ _ _ _ _
     refine wp_skip ?_
     refine pop_then ?_
     refine St.ordBeginS [(1, 1), (2, 1), (3, 1), (5, 1), (6, 1), (7, 1), (8, 1), (0, 0), (4, 0), (9, 0), (10, 1)] [(0, .fn 0 64 dbT), (g7, .fn o7 (o7 + l.length * 5) (aHV (gtD l) o7)), ((ν5 0), .cells [pt b'2 0, vi 16, vi 100] 74), (gl24, .fn 0 (0 + lv.length) (u1V (gtD lv) 0))] [0, 1, 2, 3] hS fun wd hS => ?_
     have hap := hS.mem.pairs (Hf := [(0, .fn 0 64 dbT), (g7, .fn o7 (o7 + l.length * 5) (aHV (gtD l) o7)), ((ν5 0), .cells [pt b'2 0, vi 16, vi 100] 74), (gl24, .fn 0 (0 + lv.length) (u1V (gtD lv) 0))]) (l := [0, 1, 2, 3])
     refine St.ordF [0, 0, fx 20 (sc gl24 0 (Int.toNat ki) cv), 0, 0, 20, fx 10 (sc gl24 (sadd cv (Int.toNat ((ki + 1) : Int)) 0 1) (lv.length - (Int.toNat (ki + 1))) (cv - (Int.toNat (ki + 1))))] [1, 2, 3, 5, 6, 7, 8] [4, 5, 6, 7, 8, 14, 30, 31, 32] (rest := [(0, 0), (4, 0), (9, 0), (10, 1)]) hS hap <| segF [(81, sc gl24 0 (Int.toNat ki) cv), (86, sc gl24 (sadd cv (Int.toNat ((ki + 1) : Int)) 0 1) (lv.length - (Int.toNat (ki + 1))) (cv - (Int.toNat (ki + 1))))] [.p ((sc gl24 (sadd cv (Int.toNat ((ki + 1) : Int)) 0 1) (Int.toNat ((lv.length : Nat) : Int) - Int.toNat ((ki + 1) : Int)) (cv - Int.toNat ((ki + 1) : Int)) : Value) = sc gl24 (sadd cv (Int.toNat ((ki + 1) : Int)) 0 1) (lv.length - (Int.toNat (ki + 1))) (cv - (Int.toNat (ki + 1)))), .p (0 ≤ ((ki + 1) : Int) ∧ ((ki + 1) : Int) ≤ ((lv.length : Nat) : Int) ∧ ((lv.length : Nat) : Int) ≤ ((cv : Nat) : Int) ∧ lv.length ≤ cv), .p (fit .i64 (ki + 1)), .p ((sc gl24 0 (Int.toNat (ki : Int)) cv : Value) = sc gl24 0 (Int.toNat ki) cv), .p (0 ≤ (ki : Int) ∧ (ki : Int) ≤ ((cv : Nat) : Int) ∧ lv.length ≤ cv ∧ (0 : Int) = 0)] ⟨(rfl), (by omega), fit_i64 (by omega), (rfl), (by omega), trivial⟩ fun ac hS => ?_
     refine St.ord1 0 [0] [4, 5, 6, 7, 8, 14, 30, 31, 32, 81, 86] [0, 1, 2, 3] hS rfl fun ν36 => seg [(78, sc (ν36 0) 0 0 0)] [(0, none), (1, none), (2, none), (3, none), (4, some ((ν36 0), .cells [] 79))] [] trivial ⟨by as_aux_lemma => kernel_rfl, fun ac wd hS => ?_⟩
     refine Runs1.ord (i := 4) ?_
     replace hS := hS.to (hS.mem.geNew 79 1 (ν36 0) (u1V (gtD ([] : List (Int))) 0))
     obtain ⟨i_, hi_, hz_, hs_, hb_⟩ := info_get (P := Tryd.prog) (e := 79) (z := vu 0) (s := 1) (b := 8) (by kernel_rfl)
     have hkl_ : (Int.toNat ki) = (lv.take (Int.toNat ki)).length := by first | (rw [List.length_take]; omega) | (rw [List.length_drop]; done) | (rw [List.length_drop]; omega)
     refine St.appLE (m := (([] : List (Int)).length)) (f := (u1V (gtD ([] : List (Int))) 0)) (ak := (some ⟨gl24, 0, none⟩)) (k := (Int.toNat ki)) (ck := cv) (g := gl24) (so := 0) (F := (fun j => (u1V (gtD lv) 0) (0 + j))) 3 hS (.tmp 78) (.tmp 81) 78 rfl rfl (by decide) Tryd.underlying78 hi_ hz_ hs_ (by omega) rfl (by decide) (.inr rfl) (CellsV.fn (hS.mem.get 3 gl24 (.fn 0 (0 + lv.length) (u1V (gtD lv) 0))) (by omega) (by omega)) (fun q_ _ => u1V_one _ _ _) (by first | omega | (simp only [List.length_nil]; omega)) fun ac wd v2_ F29 hB30 hS => ?_
     obtain ⟨xo27, xc28, rfl⟩ := hB30.slice
     replace hS := hS.to (hS.mem.geTell (m := ((([] : List (Int)).length) + (Int.toNat ki))) 3 (u1V (gtD (lv.take (Int.toNat ki))) 0) (u1V_catS ([] : List (Int)) (lv.take (Int.toNat ki)) lv 0 0 0 (Int.toNat ki) (by omega) hkl_ (gtD_takeQ _ _)))
     have hm_ : (([] : List (Int)).length) + (Int.toNat ki) = ((lv.take (Int.toNat ki))).length := by first | (rw [List.length_append, ← hkl_]; done) | (rw [← hkl_]; simp; done) | (simp only [List.length_append, List.length_nil]; omega)
     replace hS := hS.to (hS.mem.geRe (v := .slice xo27 (([] : List (Int)).length + (Int.toNat ki)) xc28) (v' := .slice xo27 (((lv.take (Int.toNat ki))).length) xc28) (m := ((([] : List (Int)).length) + (Int.toNat ki))) (m' := ((lv.take (Int.toNat ki))).length) (f := (u1V (gtD (lv.take (Int.toNat ki))) 0)) 3 (by rw [hm_]) hm_)
     replace hS := hS.fix 82 (.slice xo27 (((lv.take (Int.toNat ki))).length) xc28) (show (.slice xo27 (([] : List (Int)).length + (Int.toNat ki)) xc28 : Value) = .slice xo27 (((lv.take (Int.toNat ki))).length) xc28 by rw [hm_])
     refine hS.ordV (l := [0, 1, 2, 3]) ?_
     refine Runs1.ord (i := 9) ?_
     obtain ⟨i_, hi_, hz_, hs_, hb_⟩ := info_get (P := Tryd.prog) (e := 79) (z := vu 0) (s := 1) (b := 8) (by kernel_rfl)
     have hsd_ := sadd_or cv (Int.toNat ((ki + 1) : Int)) 0 1
     have hkl_ : (lv.length - (Int.toNat (ki + 1))) = (lv.drop (Int.toNat (ki + 1))).length := by first | (rw [List.length_take]; omega) | (rw [List.length_drop]; done) | (rw [List.length_drop]; omega)
     refine St.appLE (m := (((lv.take (Int.toNat ki))).length)) (f := (u1V (gtD (lv.take (Int.toNat ki))) 0)) (ak := (some ⟨gl24, (sadd cv (Int.toNat ((ki + 1) : Int)) 0 1), none⟩)) (k := (lv.length - (Int.toNat (ki + 1)))) (ck := (cv - (Int.toNat (ki + 1)))) (g := gl24) (so := (sadd cv (Int.toNat ((ki + 1) : Int)) 0 1)) (F := (fun j => (u1V (gtD lv) 0) ((sadd cv (Int.toNat ((ki + 1) : Int)) 0 1) + j))) 3 hS (.tmp 82) (.tmp 86) 78 rfl rfl (by decide) Tryd.underlying78 hi_ hz_ hs_ (by omega) rfl (by decide) (.inr rfl) (CellsV.fn (hS.mem.get 3 gl24 (.fn 0 (0 + lv.length) (u1V (gtD lv) 0))) (by omega) (by omega)) (fun q_ _ => u1V_one _ _ _) (by first | omega | (simp only [List.length_nil]; omega)) fun ac wd v2_ F33 hB34 hS => ?_
     obtain ⟨xo31, xc32, rfl⟩ := hB34.slice
     replace hS := hS.to (hS.mem.geTell (m := ((((lv.take (Int.toNat ki))).length) + (lv.length - (Int.toNat (ki + 1))))) 3 (u1V (gtD ((lv.take (Int.toNat ki)) ++ (lv.drop (Int.toNat (ki + 1))))) 0) (u1V_catS (lv.take (Int.toNat ki)) (lv.drop (Int.toNat (ki + 1))) lv 0 (Int.toNat (ki + 1)) (sadd cv (Int.toNat ((ki + 1) : Int)) 0 1) (lv.length - (Int.toNat (ki + 1))) (by omega) hkl_ (gtD_dropQ _ _)))
     have hm_ : (((lv.take (Int.toNat ki))).length) + (lv.length - (Int.toNat (ki + 1))) = (((lv.take (Int.toNat ki)) ++ (lv.drop (Int.toNat (ki + 1))))).length := by first | (rw [List.length_append, ← hkl_]; done) | (rw [← hkl_]; simp; done) | (simp only [List.length_append, List.length_nil]; omega)
     replace hS := hS.to (hS.mem.geRe (v := .slice xo31 (((lv.take (Int.toNat ki))).length + (lv.length - (Int.toNat (ki + 1)))) xc32) (v' := .slice xo31 ((((lv.take (Int.toNat ki)) ++ (lv.drop (Int.toNat (ki + 1))))).length) xc32) (m := ((((lv.take (Int.toNat ki))).length) + (lv.length - (Int.toNat (ki + 1))))) (m' := (((lv.take (Int.toNat ki)) ++ (lv.drop (Int.toNat (ki + 1))))).length) (f := (u1V (gtD ((lv.take (Int.toNat ki)) ++ (lv.drop (Int.toNat (ki + 1))))) 0)) 3 (by rw [hm_]) hm_)
     replace hS := hS.fix 87 (.slice xo31 ((((lv.take (Int.toNat ki)) ++ (lv.drop (Int.toNat (ki + 1))))).length) xc32) (show (.slice xo31 (((lv.take (Int.toNat ki))).length + (lv.length - (Int.toNat (ki + 1)))) xc32 : Value) = .slice xo31 ((((lv.take (Int.toNat ki)) ++ (lv.drop (Int.toNat (ki + 1))))).length) xc32 by rw [hm_])
     refine hS.ordV (l := [0, 1, 2, 3]) ?_
     refine St.ordF [0] [10] [4, 5, 6, 7, 14, 30, 31, 32] (rest := []) hS hap <| segF [(8, .slice xo31 ((((lv.take (Int.toNat ki)) ++ (lv.drop (Int.toNat (ki + 1))))).length) xc32)] [] trivial fun ac hS => ?_
     refine ord_nil ?_
     refine wp_region_lit ?_
     refine hS.opsC 2 [0, 0] [4, 5, 6, 7, 8, 30, 31, 32] fun _ => seg [(88, .map (some mp6)), (89, vu ((gtD lv) (Int.toNat ki)))] [(0, none), (1, none), (2, none)] [] trivial fun ac wd hS => ?_
     refine Runs1.list ?_
     refine St.mapGet hS 77 (.tmp 88) (.tmp 89) rfl rfl (by decide) (dk := .int .u64) (ek := (vu : Int → Value)) (ev := (vi : Int → Value)) (b := mp6) (q := nG) (F := (one mp6)) (f := fG) 2 ((gtD lv) (Int.toNat ki)) 0 (fun _ => rfl) (fun _ _ e_ => by injection e_) Tryd.underlying77 Tryd.underlying79 Tryd.zeroValue3 fun ac hS => ?_
     refine hS.opsC 1 [20] [4, 5, 6, 7, 8, 30, 31, 32, 88, 89] fun _ => seg [(91, vi (((fG ((gtD lv) (Int.toNat ki))).getD 0) + 1))] [(0, none), (1, none), (2, none)] [.p (fit .i64 (((fG ((gtD lv) (Int.toNat ki))).getD 0) + 1))] ⟨fit_i64 (by omega), trivial⟩ fun ac wd hS => ?_
     refine Runs0.list ?_
     refine St.mapPut hS 77 (.tmp 88) (.tmp 89) (.tmp 91) rfl (dk := .int .u64) (ek := (vu : Int → Value)) (ev := (vi : Int → Value)) (b := mp6) (q := nG) (F := (one mp6)) (f := fG) 2 ((gtD lv) (Int.toNat ki)) (((fG ((gtD lv) (Int.toNat ki))).getD 0) + 1) (fun _ => rfl) (fun _ _ e_ => by injection e_) Tryd.underlying77 Tryd.underlying79 fun wd hS => ?_
     refine list_nil ?_
     refine pop_then ?_
     have hcur := hd3
     have hRc := hRd
     refine wp_region_seq ?_
     refine hS.opsC 1 [0] [4, 5, 6, 7, 8, 30, 31, 32] fun _ => seg [(92, .map (some mp4))] [(0, none), (1, none), (2, none)] [] trivial fun ac wd hS => ?_
     refine Runs1.list ?_
     refine St.mapRange hS 77 (.tmp 92) rfl rfl (by decide) (dk := .int .u64) (ek := (vu : Int → Value)) (ev := (vi : Int → Value)) (b := mp4) (q := nT) (F := (one mp4)) (f := fT) 1 Tryd.underlying77 fun ac wd it35 Fi36 hS => ?_
     refine list_nil_seq ?_
     refine wp_block ?_
     refine St.loopC (σ := Nat × (Option (Int × Int))) (fun (x : Nat × (Option (Int × Int))) => match x with | (lfx, cux) => ⟨[(4, [], pt (ν5 0) 0), (5, [], vb true), (6, [], .map (some mp4)), (7, [], .map (some mp6)), (8, [], .slice xo31 ((((lv.take (Int.toNat ki)) ++ (lv.drop (Int.toNat (ki + 1))))).length) xc32), (30, [], sc g7 o7 l.length c7), (31, [], vi ((l.length : Nat) : Int)), (32, [], vi x32), (93, [], pt it35 0)], [(0, .fn 0 64 dbT), (g7, .fn o7 (o7 + l.length * 5) (aHV (gtD l) o7)), ((ν5 0), .cells [pt b'2 0, vi 16, vi 100] 74)], [arR b'2 F26 (hDrM mx 16 100 ((gtD lv) (Int.toNat ki))), rgR (.int .u64) (vu : Int → Value) (vi : Int → Value) mp4 it35 Fi36 ((nT, fT), lfx, cux), mpR (.int .u64) (vu : Int → Value) (vi : Int → Value) mp6 (one mp6) (updN nG fG ((gtD lv) (Int.toNat ki)), updO fG ((gtD lv) (Int.toNat ki)) (((fG ((gtD lv) (Int.toNat ki))).getD 0) + 1)), geR 79 1 (.slice xo31 ((((lv.take (Int.toNat ki)) ++ (lv.drop (Int.toNat (ki + 1))))).length) xc32) F33 ((((lv.take (Int.toNat ki)) ++ (lv.drop (Int.toNat (ki + 1))))).length, (u1V (gtD ((lv.take (Int.toNat ki)) ++ (lv.drop (Int.toNat (ki + 1))))) 0))], True, lfx⟩) (nT, none) trivial hS ?_
     clear hS
     rintro ⟨lfx, cux⟩ - ac wd hS
     refine wp_region_seq ?_
     refine Runs1.list ?_
     refine St.mapNext hS (.tmp 93) rfl rfl (by decide) (dk := .int .u64) (ek := (vu : Int → Value)) (ev := (vi : Int → Value)) (b := mp4) (r := it35) (q := nT) (left := lfx) (F := Fi36) (f := fT) (cur := cux) 1 (fun hrl0 ac hS => ?_) (fun ac wd rk37 rv38 rl39 hrk40 hrl41 hS => ?_)
     ·
      replace hS := hS.to (hS.mem.mapDone (dk := .int .u64) (ek := (vu : Int → Value)) (ev := (vi : Int → Value)) (b := mp4) (r := it35) (q := nT) (left := lfx) (F := Fi36) (f := fT) (cur := cux) 1)
      refine hS.opsC 1 [0] [4, 5, 6, 7, 8, 30, 31, 32, 93] fun _ => seg [(95, vb false)] [(0, none), (1, none), (2, none)] [] trivial fun ac wd hS => ?_
      refine list_nil_seq ?_
      refine wp_seq ?_
      refine hS.condF ?_
      refine wp_exit ?_
      refine pop_then_exit ?_
      refine pop_then_exit ?_
      refine pop_block_hit ?_
      refine pop_block ?_
      refine pop_then ?_
      refine hS.regC [20, 0] [4, 5, 6, 7, 8, 30, 31] fun _ => seg [(32, vi (x32 + 1))] [(0, none), (1, none), (2, none)] [.p (fit .i64 (x32 + 1))] ⟨fit_i64 (by omega), trivial⟩ fun ac wd hS => ?_
      exact pop_then (hS.next ((x32 + 1), F26, (hDrM mx 16 100 ((gtD lv) (Int.toNat ki))), (rDroT tq (gtD lv (Int.toNat ki))), nT, fT, (updN nG fG ((gtD lv) (Int.toNat ki))), (updO fG ((gtD lv) (Int.toNat ki)) (((fG ((gtD lv) (Int.toNat ki))).getD 0) + 1)), xo31, xc32, F33, ((lv.take (Int.toNat ki)) ++ (lv.drop (Int.toNat (ki + 1))))) ⟨(by omega), (by first | exact (i1.new hac3.2).1 | exact hRd | exact i1), (by first | exact hn2 | exact hd3 | exact i2 | (rw [hT0]; exact i2)), (by first | exact hn3 i3 | (rw [show Int.toNat (ki + 1) = Int.toNat ki + 1 by omega]; exact hd4) | exact i3 | (rw [hT0]; exact i3)), trivial⟩ (by dsimp only; omega))
     ·
      have hgx := hcur.get hRc.ok hrk40
      have hkr := hcur.2.2.2 _ _ hrk40
      refine hS.opsC 1 [0] [4, 5, 6, 7, 8, 30, 31, 32, 93] fun _ => seg [(95, vb true)] [(0, none), (1, none), (2, none)] [] trivial fun ac wd hS => ?_
      refine list_nil_seq ?_
      refine wp_seq ?_
      refine hS.condT ?_
      refine wp_skip ?_
      refine pop_then ?_
      refine wp_block ?_
      refine wp_region_seq ?_
      refine Runs1.list ?_
      refine St.mapEntry hS (.tmp 93) rfl rfl (by decide) (dk := .int .u64) (ek := (vu : Int → Value)) (ev := (vi : Int → Value)) (b := mp4) (r := it35) (q := nT) (left := rl39) (F := Fi36) (f := fT) (kk := rk37) (vv := rv38) 1 fun ac hS => ?_
      refine hS.opsC 2 [0, 0] [4, 5, 6, 7, 8, 30, 31, 32, 93] fun _ => seg [(15, vu rk37)] [(0, none), (1, none), (2, none)] [] trivial fun ac wd hS => ?_
      refine list_nil_seq ?_
      refine wp_region_seq ?_
      refine hS.opsC 2 [200, 0] [4, 5, 6, 7, 8, 15, 30, 31, 32, 93] fun _ => seg [(99, .agg #[pt b'2 0, vi 16, vi 100]), (100, vu rk37)] [(0, none), (1, none), (2, none)] [.e (ν5 0), .e (ν5 0), .e (ν5 0)] trivial fun ac wd hS => ?_
      refine hS.call0 40 #[.agg #[pt b'2 0, vi 16, vi 100], vu rk37] 101 (h_Get_r b'2 F26 (hDrM mx 16 100 ((gtD lv) (Int.toNat ki))) 16 100 rk37 (rDroT tq (gtD lv (Int.toNat ki))) _ (hS.mem.res 0) (by exact hRc) (by exact hkr)) fun ac wd hS => ?_
      refine hS.opsC 5 [0, 0, 0, 0, 0] [4, 5, 6, 7, 8, 15, 30, 31, 32, 93] fun _ => seg [(16, vi (rGetA (rDroT tq (gtD lv (Int.toNat ki))) rk37)), (17, vi (rGetE (rDroT tq (gtD lv (Int.toNat ki))) rk37))] [(0, none), (1, none), (2, none)] [] trivial fun ac wd hS => ?_
      refine list_nil_seq ?_
      refine wp_region_seq ?_
      refine hS.opsC 4 [0, 0, 0, 0] [4, 5, 6, 7, 8, 16, 17, 30, 31, 32, 93] fun _ => seg [(105, vb (((rGetE (rDroT tq (gtD lv (Int.toNat ki))) rk37) : Int) == 0)), (106, .map (some mp6)), (107, vu rk37)] [(0, none), (1, none), (2, none)] [] trivial fun ac wd hS => ?_
      refine Runs1.list ?_
      refine St.mapGet hS 77 (.tmp 106) (.tmp 107) rfl rfl (by decide) (dk := .int .u64) (ek := (vu : Int → Value)) (ev := (vi : Int → Value)) (b := mp6) (q := (updN nG fG ((gtD lv) (Int.toNat ki)))) (F := (one mp6)) (f := (updO fG ((gtD lv) (Int.toNat ki)) (((fG ((gtD lv) (Int.toNat ki))).getD 0) + 1))) 2 rk37 0 (fun _ => rfl) (fun _ _ e_ => by injection e_) Tryd.underlying77 Tryd.underlying79 Tryd.zeroValue3 fun ac hS => ?_
      refine hS.opsC 10 [0, 0, 0, 3, 3, 3, 3, 3, 83, 80] [4, 5, 6, 7, 8, 30, 31, 32, 93] fun _ => seg [(118, vb ((!((((rGetE (rDroT tq (gtD lv (Int.toNat ki))) rk37) : Int) == 0) == (((((updO fG ((gtD lv) (Int.toNat ki)) (((fG ((gtD lv) (Int.toNat ki))).getD 0) + 1)) rk37).getD 0) : Int) == 0))) || ((((rGetE (rDroT tq (gtD lv (Int.toNat ki))) rk37) : Int) != 0) && (((rGetA (rDroT tq (gtD lv (Int.toNat ki))) rk37) : Int) != 0))))] [(0, none), (1, none), (2, none)] [] trivial fun ac wd hS => ?_
      refine list_nil_seq ?_
      refine hS.condK ((!((((rGetE (rDroT tq (gtD lv (Int.toNat ki))) rk37) : Int) == 0) == (((((updO fG ((gtD lv) (Int.toNat ki)) (((fG ((gtD lv) (Int.toNat ki))).getD 0) + 1)) rk37).getD 0) : Int) == 0))) || ((((rGetE (rDroT tq (gtD lv (Int.toNat ki))) rk37) : Int) != 0) && (((rGetA (rDroT tq (gtD lv (Int.toNat ki))) rk37) : Int) != 0))) false (by (rcases hgx with ⟨q1, q2⟩ | ⟨q1, q2, q3⟩; (rw [q1, q2]; rfl); (rw [q1, q2, q3]; rfl))) ?_
      show Code.wp _ _ _ _ _
      refine wp_skip ?_
      refine pop_block ?_
      exact pop_then (hS.next (rl39, (some (rk37, rv38))) trivial (by dsimp only; omega))
    ·
     refine wp_skip ?_
     refine pop_then ?_
     have hcur := i2
     have hRc := i1
     refine wp_region_seq ?_
     refine hS.opsC 1 [0] [4, 5, 6, 7, 8, 30, 31, 32] fun _ => seg [(92, .map (some mp4))] [(0, none), (1, none), (2, none)] [] trivial fun ac wd hS => ?_
     refine Runs1.list ?_
     refine St.mapRange hS 77 (.tmp 92) rfl rfl (by decide) (dk := .int .u64) (ek := (vu : Int → Value)) (ev := (vi : Int → Value)) (b := mp4) (q := nT) (F := (one mp4)) (f := fT) 1 Tryd.underlying77 fun ac wd it42 Fi43 hS => ?_
     refine list_nil_seq ?_
     refine wp_block ?_
     refine St.loopC (σ := Nat × (Option (Int × Int))) (fun (x : Nat × (Option (Int × Int))) => match x with | (lfx, cux) => ⟨[(4, [], pt (ν5 0) 0), (5, [], vb true), (6, [], .map (some mp4)), (7, [], .map (some mp6)), (8, [], .slice aov lv.length cv), (30, [], sc g7 o7 l.length c7), (31, [], vi ((l.length : Nat) : Int)), (32, [], vi x32), (93, [], pt it42 0)], [(0, .fn 0 64 dbT), (g7, .fn o7 (o7 + l.length * 5) (aHV (gtD l) o7)), ((ν5 0), .cells [pt b'2 0, vi 16, vi 100] 74)], [arR b'2 Fx mx, rgR (.int .u64) (vu : Int → Value) (vi : Int → Value) mp4 it42 Fi43 ((nT, fT), lfx, cux), mpR (.int .u64) (vu : Int → Value) (vi : Int → Value) mp6 (one mp6) (nG, fG), geR 79 1 (.slice aov lv.length cv) Fv (lv.length, (u1V (gtD lv) 0))], True, lfx⟩) (nT, none) trivial hS ?_
     clear hS
     rintro ⟨lfx, cux⟩ - ac wd hS
     refine wp_region_seq ?_
     refine Runs1.list ?_
     refine St.mapNext hS (.tmp 93) rfl rfl (by decide) (dk := .int .u64) (ek := (vu : Int → Value)) (ev := (vi : Int → Value)) (b := mp4) (r := it42) (q := nT) (left := lfx) (F := Fi43) (f := fT) (cur := cux) 1 (fun hrl0 ac hS => ?_) (fun ac wd rk44 rv45 rl46 hrk47 hrl48 hS => ?_)
     ·
      replace hS := hS.to (hS.mem.mapDone (dk := .int .u64) (ek := (vu : Int → Value)) (ev := (vi : Int → Value)) (b := mp4) (r := it42) (q := nT) (left := lfx) (F := Fi43) (f := fT) (cur := cux) 1)
      refine hS.opsC 1 [0] [4, 5, 6, 7, 8, 30, 31, 32, 93] fun _ => seg [(95, vb false)] [(0, none), (1, none), (2, none)] [] trivial fun ac wd hS => ?_
      refine list_nil_seq ?_
      refine wp_seq ?_
      refine hS.condF ?_
      refine wp_exit ?_
      refine pop_then_exit ?_
      refine pop_then_exit ?_
      refine pop_block_hit ?_
      refine pop_block ?_
      refine pop_then ?_
      refine hS.regC [20, 0] [4, 5, 6, 7, 8, 30, 31] fun _ => seg [(32, vi (x32 + 1))] [(0, none), (1, none), (2, none)] [.p (fit .i64 (x32 + 1))] ⟨fit_i64 (by omega), trivial⟩ fun ac wd hS => ?_
      exact pop_then (hS.next ((x32 + 1), Fx, mx, tq, nT, fT, nG, fG, aov, cv, Fv, lv) ⟨(by omega), (by first | exact (i1.new hac3.2).1 | exact hRd | exact i1), (by first | exact hn2 | exact hd3 | exact i2 | (rw [hT0]; exact i2)), (by first | exact hn3 i3 | (rw [show Int.toNat (ki + 1) = Int.toNat ki + 1 by omega]; exact hd4) | exact i3 | (rw [hT0]; exact i3)), trivial⟩ (by dsimp only; omega))
     ·
      have hgx := hcur.get hRc.ok hrk47
      have hkr := hcur.2.2.2 _ _ hrk47
      refine hS.opsC 1 [0] [4, 5, 6, 7, 8, 30, 31, 32, 93] fun _ => seg [(95, vb true)] [(0, none), (1, none), (2, none)] [] trivial fun ac wd hS => ?_
      refine list_nil_seq ?_
      refine wp_seq ?_
      refine hS.condT ?_
      refine wp_skip ?_
      refine pop_then ?_
      refine wp_block ?_
      refine wp_region_seq ?_
      refine Runs1.list ?_
      refine St.mapEntry hS (.tmp 93) rfl rfl (by decide) (dk := .int .u64) (ek := (vu : Int → Value)) (ev := (vi : Int → Value)) (b := mp4) (r := it42) (q := nT) (left := rl46) (F := Fi43) (f := fT) (kk := rk44) (vv := rv45) 1 fun ac hS => ?_
      refine hS.opsC 2 [0, 0] [4, 5, 6, 7, 8, 30, 31, 32, 93] fun _ => seg [(15, vu rk44)] [(0, none), (1, none), (2, none)] [] trivial fun ac wd hS => ?_
      refine list_nil_seq ?_
      refine wp_region_seq ?_
      refine hS.opsC 2 [200, 0] [4, 5, 6, 7, 8, 15, 30, 31, 32, 93] fun _ => seg [(99, .agg #[pt b'2 0, vi 16, vi 100]), (100, vu rk44)] [(0, none), (1, none), (2, none)] [.e (ν5 0), .e (ν5 0), .e (ν5 0)] trivial fun ac wd hS => ?_
      refine hS.call0 40 #[.agg #[pt b'2 0, vi 16, vi 100], vu rk44] 101 (h_Get_r b'2 Fx mx 16 100 rk44 tq _ (hS.mem.res 0) (by exact hRc) (by exact hkr)) fun ac wd hS => ?_
      refine hS.opsC 5 [0, 0, 0, 0, 0] [4, 5, 6, 7, 8, 15, 30, 31, 32, 93] fun _ => seg [(16, vi (rGetA tq rk44)), (17, vi (rGetE tq rk44))] [(0, none), (1, none), (2, none)] [] trivial fun ac wd hS => ?_
      refine list_nil_seq ?_
      refine wp_region_seq ?_
      refine hS.opsC 4 [0, 0, 0, 0] [4, 5, 6, 7, 8, 16, 17, 30, 31, 32, 93] fun _ => seg [(105, vb (((rGetE tq rk44) : Int) == 0)), (106, .map (some mp6)), (107, vu rk44)] [(0, none), (1, none), (2, none)] [] trivial fun ac wd hS => ?_
      refine Runs1.list ?_
      refine St.mapGet hS 77 (.tmp 106) (.tmp 107) rfl rfl (by decide) (dk := .int .u64) (ek := (vu : Int → Value)) (ev := (vi : Int → Value)) (b := mp6) (q := nG) (F := (one mp6)) (f := fG) 2 rk44 0 (fun _ => rfl) (fun _ _ e_ => by injection e_) Tryd.underlying77 Tryd.underlying79 Tryd.zeroValue3 fun ac hS => ?_
      refine hS.opsC 10 [0, 0, 0, 3, 3, 3, 3, 3, 83, 80] [4, 5, 6, 7, 8, 30, 31, 32, 93] fun _ => seg [(118, vb ((!((((rGetE tq rk44) : Int) == 0) == ((((fG rk44).getD 0) : Int) == 0))) || ((((rGetE tq rk44) : Int) != 0) && (((rGetA tq rk44) : Int) != 0))))] [(0, none), (1, none), (2, none)] [] trivial fun ac wd hS => ?_
      refine list_nil_seq ?_
      refine hS.condK ((!((((rGetE tq rk44) : Int) == 0) == ((((fG rk44).getD 0) : Int) == 0))) || ((((rGetE tq rk44) : Int) != 0) && (((rGetA tq rk44) : Int) != 0))) false (by (rcases hgx with ⟨q1, q2⟩ | ⟨q1, q2, q3⟩; (rw [q1, q2]; rfl); (rw [q1, q2, q3]; rfl))) ?_
      show Code.wp _ _ _ _ _
      refine wp_skip ?_
      refine pop_block ?_
      exact pop_then (hS.next (rl46, (some (rk44, rv45))) trivial (by dsimp only; omega))
  ·
   refine wp_exit ?_
   refine pop_then_exit ?_
   refine pop_then_exit ?_
   refine pop_block_hit ?_
   refine pop_then ?_
   refine wp_region_seq ?_
   refine hS.opsC 2 [0, 0] [4, 8] fun _ => seg [(121, vb true)] [(0, none), (2, none)] [] trivial fun ac wd hS => ?_
   refine hS.opsC 1 [101] [8, 121] fun _ => seg [(122, .agg #[pt b'2 0, vi 16, vi 100])] [(0, none)] [.t true, .e (ν5 0), .e (ν5 0), .e (ν5 0)] trivial fun ac wd hS => ?_
   refine hS.callG true 41 #[.agg #[pt b'2 0, vi 16, vi 100]] (h_All_r b'2 Fx mx 16 100 tq _ (hS.mem.res 0) (hS.mem.get 0 0 (.fn 0 64 dbT)) (by exact i1)) ?_
   rintro _ wd ⟨ao249, c250, g251, o252, rfl, hv253, hog0, hoh0, hF⟩
   have ho54 : g251 = 0 ∨ w.heap.size ≤ g251 := by have := hS.mem.fr.size; have : w.heap.size ≤ _ := this; omega
   refine ⟨.slice ao249 ((rAll tq).length) c250, rfl, ?_⟩
   replace hS := (hS.to (hS.mem.outs hF [(g251, .fn o252 (o252 + (rAll tq).length) (u1V (gtD (rAll tq)) o252))] ⟨⟨rfl, hoh0, (fun q_ => q_.elim (fun e => .inl ⟨0, .fn 0 64 dbT, by rw [e]; as_aux_lemma => kernel_rfl, rfl⟩) (fun q_ => .inr q_)) hog0⟩, trivial⟩)).put (d := 123) (v := .slice ao249 ((rAll tq).length) c250) (by decide)
   clear hF
   refine hS.opsC 6 [1, 1, 1, 1, 70, 0] [] fun _ => seg [(2, vb (((((rAll tq).length : Nat) : Int) : Int) == ((lv.length : Nat) : Int)))] [(0, none)] [.t true, .t true, .t true, .t true, .t true] trivial fun ac wd hS => ?_
   refine list_nil_seq ?_
   refine wp_ret ?_
   refine St.retC 0 hS (vb (((((rAll tq).length : Nat) : Int) : Int) == ((lv.length : Nat) : Int))) [] trivial fun hw => ?_
   refine ⟨retd (vbool ?_), hw.fr0⟩
   all_goals (first | rfl | (rw [i3.length_eq]; exact beq_self_eq_true _) | (simp; done))

end Go.Proofs.YtnbkafnikpbmbaaDoor.K
