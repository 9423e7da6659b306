/-
  Walks, printed by w2.py.
-/
import Derived.Test.YtnbkafnikpbmbaaDoorDe
import Derived.Test.YtnbkafnikpbmbaaDoorDt
import Derived.Test.YtnbkafnikpbmbaaDoorProg
namespace Go.Proofs.YtnbkafnikpbmbaaDoor.K
set_option linter.unusedVariables false
set_option linter.unusedSimpArgs false

set_option maxRecDepth 100000 in
set_option maxHeartbeats 1000000 in
theorem law22_DataTells (ao7 : Option Addr) (c7 : Nat) (g7 : Nat) (o7 : Nat) (l : List (AcD)) (w : World) (hh0 : HE.holds w 0 (.fn 0 64 dbT)) (hh1 : HE.holds w g7 (.fn o7 (o7 + l.length * 2) (aDV (gtD l) o7))) (hv7 : (l.length = 0 ∨ ao7 = some ⟨g7, o7, none⟩)) (hAl : ∀ i, i < l.length → rg_aDV w (gtD l i)) :
    Calls Tryd.prog 10 #[.slice ao7 l.length c7] w fun e w' => e = .returned (vb true) ∧ Fr w w' no no := by
 have hZ0 : DtR (comM (AM.new 1) 0 1) 40 384 [] := DtR.zero (by decide) (by decide) (page_thr1 (by decide)) (comM_zero (fun _ => rfl) 0 1)
 refine enter (args := [.slice ao7 l.length c7]) (D := no) (A := []) Tryd.func10 rfl 118 rfl [(0, .fn 0 64 dbT), (g7, .fn o7 (o7 + l.length * 2) (aDV (gtD l) o7))] (WS.startL ⟨⟨rfl, hh0⟩, ⟨rfl, hh1⟩, trivial⟩) fun ac hS => ?_
 refine hS.regS [0] [0] fun _ => seg [] [(0, none), (1, none)] [] trivial fun ac wd hS => ?_
 refine wp_seq ?_
 refine wp_region_seq ?_
 refine hS.call0 64 #[] 17 (law22_awake  _ (hS.mem.get 0 0 (.fn 0 64 dbT)) ) fun ac wd hS => ?_
 refine hS.opsC 1 [0] [0] fun _ => seg [(18, vb false)] [(0, none), (1, none)] [] trivial fun ac wd hS => ?_
 refine list_nil_seq ?_
 refine hS.condF ?_
 refine wp_skip ?_
 refine pop_then ?_
 refine wp_seq ?_
 refine wp_region_seq ?_
 refine hS.opsC 1 [0] [0] fun _ => seg [(19, .slice ao7 l.length c7)] [(0, none), (1, none)] [] trivial fun ac wd hS => ?_
 refine hS.callC 65 #[.slice ao7 l.length c7] (law22_Light ao7 c7 g7 o7 l _ (hS.mem.get 0 0 (.fn 0 64 dbT)) (hS.mem.get 1 g7 (.fn o7 (o7 + l.length * 2) (aDV (gtD l) o7))) hv7 (by exact fun i_ hi_ => (hAl i_ hi_).keep hS.mem.fr)) ?_
 rintro _ wd ⟨r21, rfl, hL2, hF⟩
 refine ⟨vb r21, rfl, ?_⟩
 replace hS := (hS.to (hS.mem.keep0 hF)).put (d := 20) (v := vb r21) (by decide)
 clear hF
 have hLg0 := hL2
 refine hS.opsC 1 [0] [0] fun _ => seg [(21, vb (!r21))] [(0, none), (1, none)] [] trivial fun ac wd hS => ?_
 refine list_nil_seq ?_
 refine hS.condC (!r21) (fun hb3o hb3 => ?_) (fun hb3o hb3 => ?_)
 ·
  refine hS.regS [0] [] fun _ => seg [(2, vb true)] [(0, none)] [] trivial fun ac wd hS => ?_
  refine wp_ret ?_
  refine pop_then_ret ?_
  refine St.retC 0 hS (vb true) [] trivial fun hw => ?_
  refine ⟨retd rfl, hw.fr0⟩
 ·
  have hLg := hLg0 (by simpa using hb3)
  refine wp_skip ?_
  refine pop_then ?_
  refine wp_region_seq ?_
  refine hS.callC 66 #[vi 384] (law22_open 384 _  (by decide)) ?_
  rintro _ wd ⟨b'4, F5, rfl, hN, hF⟩
  refine ⟨.tuple #[pt b'4 0, .agg #[pt b'4 0, vi 40, vi 384], vb true], rfl, ?_⟩
  replace hS := (hS.to (hS.mem.newA hN hF)).put (d := 23) (v := .tuple #[pt b'4 0, .agg #[pt b'4 0, vi 40, vi 384], vb true]) (by decide)
  clear hF
  refine hS.opsC 8 [0, 0, 0, 0, 0, 0, 200, 0] [0] fun ν6 => seg [(4, pt (ν6 0) 0), (5, vb true)] [(0, none), (1, none), (2, some ((ν6 0), .cells [pt b'4 0, vi 40, vi 384] 125))] [.e (ν6 0), .e (ν6 0), .e (ν6 0)] trivial fun ac wd hS => ?_
  refine list_nil_seq ?_
  refine wp_region_seq ?_
  refine Runs1.list ?_
  refine St.mapNew hS 128 rfl rfl (by decide) (.string) (Value.string : ByteArray → Value) (vu : Int → Value) fun ac wd mp6 hm7 hS => ?_
  refine hS.opsC 1 [0] [0, 4, 5] fun _ => seg [(6, .map (some mp6))] [(0, none), (1, none), (2, none)] [] trivial fun ac wd hS => ?_
  refine list_nil_seq ?_
  refine wp_seq ?_
  refine hS.regS [0, 0, 0] [4, 5, 6] fun _ => seg [(28, .slice ao7 l.length c7), (29, vi ((l.length : Nat) : Int)), (30, vi 0)] [(0, none), (1, none), (2, none)] [] trivial fun ac wd hS => ?_
  refine wp_block ?_
  refine St.loopC (σ := Int × (Nat → Prop) × AM × List It × Nat × (ByteArray → Option Int)) (fun (x : Int × (Nat → Prop) × AM × List It × Nat × (ByteArray → Option Int)) => match x with | (x30, Fx, mx, tL, nN, fN) => ⟨[(4, [], pt (ν6 0) 0), (5, [], vb true), (6, [], .map (some mp6)), (28, [], .slice ao7 l.length c7), (29, [], vi ((l.length : Nat) : Int)), (30, [], vi x30)], [(0, .fn 0 64 dbT), (g7, .fn o7 (o7 + l.length * 2) (aDV (gtD l) o7)), ((ν6 0), .cells [pt b'4 0, vi 40, vi 384] 125)], [arR b'4 Fx mx, mpR (.string) (Value.string : ByteArray → Value) (vu : Int → Value) mp6 (one mp6) (nN, fN)], (0 ≤ x30 ∧ x30 ≤ ((l.length : Nat) : Int)) ∧ (DtR mx 40 384 tL) ∧ (fN = dMap tL) ∧ (nN = tL.length) ∧ True, l.length - Int.toNat x30⟩) (0, F5, (comM (AM.new 1) 0 1), [], 0, (fun _ => none : ByteArray → Option Int)) ⟨(by omega), (by exact hZ0), (by exact dMap_nil), (by rfl), trivial⟩ hS ?_
  clear hS
  rintro ⟨x30, Fx, mx, tL, nN, fN⟩ ⟨i0, i1, i2, i3, -⟩ ac wd hS
  replace i0 : 0 ≤ x30 ∧ x30 ≤ ((l.length : Nat) : Int) := i0
  replace i1 : DtR mx 40 384 tL := i1
  replace i2 : fN = dMap tL := i2
  replace i3 : nN = tL.length := i3
  refine hS.regS [0] [4, 5, 6, 28, 29, 30] fun _ => seg [(31, vb (decide ((x30 : Int) < ((l.length : Nat) : Int))))] [(0, none), (1, none), (2, none)] [] trivial fun ac wd hS => ?_
  refine wp_seq ?_
  refine hS.condC (decide ((x30 : Int) < ((l.length : Nat) : Int))) (fun hb8o hb8 => ?_) (fun hb8o hb8 => ?_)
  ·
   refine wp_skip ?_
   refine pop_then ?_
   refine wp_seq ?_
   refine wp_block ?_
   obtain rfl : ao7 = some ⟨g7, o7, none⟩ := Or.resolve_left hv7 (by omega)
   refine hS.regS [20, fx 100 (.agg #[v8 (((gtD l) (Int.toNat x30)).1), .slice (((gtD l) (Int.toNat x30)).2.1) (((gtD l) (Int.toNat x30)).2.2.2.2.2.length) (((gtD l) (Int.toNat x30)).2.2.1)]), 0, 300] [4, 5, 6, 28, 29, 30] fun ν10 => seg [(8, pt (ν10 0) 0)] [(0, none), (1, none), (2, none), (3, some ((ν10 0), .cells [v8 (((gtD l) (Int.toNat x30)).1), .slice (((gtD l) (Int.toNat x30)).2.1) (((gtD l) (Int.toNat x30)).2.2.2.2.2.length) (((gtD l) (Int.toNat x30)).2.2.1)] 131))] [.e (ν10 0), .e (ν10 0), .p ((.agg #[((aDV (gtD l) o7) (o7 + Int.toNat x30 * 2)), ((aDV (gtD l) o7) (o7 + Int.toNat x30 * 2 + 1))] : Value) = .agg #[v8 (((gtD l) (Int.toNat x30)).1), .slice (((gtD l) (Int.toNat x30)).2.1) (((gtD l) (Int.toNat x30)).2.2.2.2.2.length) (((gtD l) (Int.toNat x30)).2.2.1)]), .e g7, .p (o7 ≤ o7 + Int.toNat x30 * 2 + 1 ∧ o7 + Int.toNat x30 * 2 + 1 < (o7 + l.length * 2)), .e g7, .p (o7 ≤ o7 + Int.toNat x30 * 2 ∧ o7 + Int.toNat x30 * 2 < (o7 + l.length * 2)), .p ((0 : Int) ≤ x30 ∧ (x30 : Int) < ((l.length : Nat) : Int))] ⟨(agg2 (aDV_0 (gtD l) o7 (Int.toNat x30)) (aDV_1 (gtD l) o7 (Int.toNat x30))), (by omega), (by omega), (by omega), trivial⟩ fun ac wd hS => ?_
   refine wp_seq ?_
   obtain ⟨⟨yd, ya, yc, yg, yo, yL⟩, hy⟩ : ∃ q_ : AcD, q_ = gtD l (Int.toNat x30) := ⟨_, rfl⟩
   have hac := hAl _ (show Int.toNat x30 < l.length by omega)
   rw [← hy] at hac
   obtain ⟨hyd, hyv, hyh, hyi⟩ : (0 ≤ yd ∧ yd ≤ 255) ∧ (yL.length = 0 ∨ ya = some ⟨yg, yo, none⟩) ∧ HE.holds w yg (.fn yo (yo + yL.length * 2) (itV (gtD yL) yo)) ∧ ∀ i, i < yL.length → 0 ≤ (gtD yL i).2 ∧ (gtD yL i).2 ≤ 18446744073709551615 := hac
   replace hS := hS.to (hS.mem.tell 3 (b := (ν10 0)) (x := (.cells [v8 (((gtD l) (Int.toNat x30)).1), .slice (((gtD l) (Int.toNat x30)).2.1) (((gtD l) (Int.toNat x30)).2.2.2.2.2.length) (((gtD l) (Int.toNat x30)).2.2.1)] 131)) (.cells [v8 yd, .slice ya yL.length yc] 131) (hh := fun h_ => by rw [← hy] at h_; exact h_))
   replace hS := hS.to (hS.mem.acq (g := yg) (lo := yo) (hi := yo + yL.length * 2) (f := itV (gtD yL) yo) hyh (fun h_ => h_))
   refine hS.regS [0, 300, 0, 0] [4, 5, 6, 8, 28, 29, 30] fun _ => seg [(37, vb ((((yL.length : Nat) : Int) : Int) == 0))] [(0, none), (1, none), (2, none), (3, none), (4, none)] [.e (ν10 0)] trivial fun ac wd hS => ?_
   refine hS.condC ((((yL.length : Nat) : Int) : Int) == 0) (fun hb9o hb9 => ?_) (fun hb9o hb9 => ?_)
   ·
    refine wp_exit ?_
    refine pop_then_exit ?_
    refine pop_block_hit ?_
    refine pop_then ?_
    refine hS.regC [20, 0] [4, 5, 6, 28, 29] fun _ => seg [(30, vi (x30 + 1))] [(0, none), (1, none), (2, none)] [.p (fit .i64 (x30 + 1))] ⟨fit_i64 (by omega), trivial⟩ fun ac wd hS => ?_
    exact pop_then (hS.next ((x30 + 1), Fx, mx, tL, nN, fN) ⟨(by omega), (by first | exact hRc | exact i1), (by first | exact hMc.1 | exact i2), (by first | exact hMc.2 | exact i3), trivial⟩ (by dsimp only; omega))
   ·
    refine wp_skip ?_
    refine pop_then ?_
    obtain rfl : ya = some ⟨yg, yo, none⟩ := Or.resolve_left hyv (by omega)
    refine hS.regS [0, 300, 20, fx 400 (.agg #[.string (((gtD yL) 0).1), vu (((gtD yL) 0).2)]), 0, 500] [4, 5, 6, 8, 28, 29, 30] fun ν13 => seg [(9, pt (ν13 0) 0)] [(0, none), (1, none), (2, none), (3, none), (4, none), (5, some ((ν13 0), .cells [.string (((gtD yL) 0).1), vu (((gtD yL) 0).2)] 133))] [.e (ν13 0), .e (ν13 0), .p ((.agg #[((itV (gtD yL) yo) (yo + Int.toNat 0 * 2)), ((itV (gtD yL) yo) (yo + Int.toNat 0 * 2 + 1))] : Value) = .agg #[.string (((gtD yL) 0).1), vu (((gtD yL) 0).2)]), .e yg, .p (yo ≤ yo + Int.toNat 0 * 2 + 1 ∧ yo + Int.toNat 0 * 2 + 1 < (yo + yL.length * 2)), .e yg, .p (yo ≤ yo + Int.toNat 0 * 2 ∧ yo + Int.toNat 0 * 2 < (yo + yL.length * 2)), .p ((0 : Int) ≤ 0 ∧ (0 : Int) < ((yL.length : Nat) : Int)), .e (ν10 0)] ⟨(agg2 (itV_0 (gtD yL) yo 0) (itV_1 (gtD yL) yo 0)), (by omega), (by omega), (by omega), trivial⟩ fun ac wd hS => ?_
    refine wp_seq ?_
    obtain ⟨xk, xk_e⟩ : ∃ q_ : ByteArray, q_ = ((gtD yL) 0).1 := ⟨_, rfl⟩
    obtain ⟨xn, xn_e⟩ : ∃ q_ : Int, q_ = ((gtD yL) 0).2 := ⟨_, rfl⟩
    replace hS := hS.to (hS.mem.tell 5 (b := (ν13 0)) (x := (.cells [.string (((gtD yL) 0).1), vu (((gtD yL) 0).2)] 133)) (.cells [.string xk, vu xn] 133) (hh := fun h_ => by rw [xk_e, xn_e]; exact h_))
    have hxr : ∀ x_, x_ ∈ [(xk, xn)] → 0 ≤ x_.2 ∧ x_.2 ≤ 18446744073709551615 := fun x_ hx_ => by obtain rfl := List.mem_singleton.1 hx_; rw [show ((xk, xn) : It).2 = xn from rfl, xn_e]; exact hyi 0 (by omega)
    have hxr2 := hxr _ (List.mem_singleton.2 rfl)
    clear xk_e xn_e
    have hdd := dm_drop i1.okd xk
    refine hS.regS [0, 300, 20, 0] [4, 5, 6, 9, 28, 29, 30] fun _ => seg [(45, vb (((yd % 4) : Int) == 3))] [(0, none), (1, none), (2, none), (5, none)] [.p ((4 : Int) ≠ 0 ∧ Int.tmod yd 4 = yd % 4), .e (ν10 0)] ⟨rem2 (by omega) (by omega), trivial⟩ fun ac wd hS => ?_
    refine hS.condC (((yd % 4) : Int) == 3) (fun hb10o hb10 => ?_) (fun hb10o hb10 => ?_)
    ·
     refine wp_region_seq ?_
     refine hS.opsC 3 [0, 0, 300] [4, 5, 6, 9, 28, 29, 30] fun _ => seg [(47, .map (some mp6)), (49, .string xk)] [(0, none), (1, none), (2, none), (3, none)] [.e (ν13 0)] trivial fun ac wd hS => ?_
     refine Runs1.list ?_
     refine St.mapGet2 hS 128 (.tmp 47) (.tmp 49) rfl rfl (by decide) (dk := .string) (ek := (Value.string : ByteArray → Value)) (ev := (vu : Int → Value)) (b := mp6) (q := nN) (F := (one mp6)) (f := fN) 1 xk 0 (fun _ => trivial) (fun _ _ e_ => by injection e_) Tryd.underlying128 Tryd.underlying9 Tryd.zeroValue60 fun ac hS => ?_
     refine hS.opsC 5 [0, 0, 0, 0, 0] [4, 5, 6, 9, 28, 29, 30] fun _ => seg [(11, vb ((fN xk).isSome))] [(0, none), (1, none), (2, none), (3, none)] [] trivial fun ac wd hS => ?_
     refine list_nil_seq ?_
     refine wp_seq ?_
     refine wp_region_seq ?_
     refine hS.opsC 3 [200, 0, 300] [4, 5, 6, 9, 11, 28, 29, 30] fun _ => seg [(53, .agg #[pt b'4 0, vi 40, vi 384]), (55, .string xk)] [(0, none), (1, none), (2, none), (3, none)] [.e (ν13 0), .e (ν6 0), .e (ν6 0), .e (ν6 0)] trivial fun ac wd hS => ?_
     refine hS.callC 67 #[.agg #[pt b'4 0, vi 40, vi 384], .string xk] (d_Drop b'4 Fx mx 40 384 xk tL _ (hS.mem.res 0) (hS.mem.get 0 0 (.fn 0 64 dbT)) (hS.mem.nF (g := 0) (r := arR b'4 Fx mx) 0 0) (by first | assumption | omega | (simp_all; done) | (simp_all; omega)) (by exact i1)) ?_
     rintro _ wd ⟨F11, rfl, hA, hF⟩
     refine ⟨vi (dDroE tL xk), rfl, ?_⟩
     replace hS := (hS.to (hS.mem.stepA 0 rfl hA hF)).put (d := 56) (v := vi (dDroE tL xk)) (by decide)
     clear hF
     refine hS.opsC 3 [0, 0, 0] [4, 5, 6, 9, 28, 29, 30] fun _ => seg [(59, vb (!((((dDroE tL xk) : Int) == 0) == ((fN xk).isSome))))] [(0, none), (1, none), (2, none), (3, none)] [] trivial fun ac wd hS => ?_
     refine list_nil_seq ?_
     refine hS.condK (!((((dDroE tL xk) : Int) == 0) == ((fN xk).isSome))) false (by (rw [i2]; exact dm_is)) ?_
     show Code.wp _ _ _ _ _
     refine wp_skip ?_
     refine pop_then ?_
     refine wp_region_lit ?_
     refine hS.opsC 3 [0, 0, 300] [4, 5, 6, 28, 29, 30] fun _ => seg [(60, .map (some mp6)), (62, .string xk)] [(0, none), (1, none), (2, none)] [.e (ν13 0)] trivial fun ac wd hS => ?_
     refine Runs1.list ?_
     refine St.mapDel hS 128 9 (.tmp 60) (.tmp 62) rfl rfl (dk := .string) (ek := (Value.string : ByteArray → Value)) (ev := (vu : Int → Value)) (b := mp6) (q := nN) (F := (one mp6)) (f := fN) 1 xk (fun _ => trivial) (fun _ _ e_ => by injection e_) Tryd.underlying128 Tryd.underlying9 fun wd hS => ?_
     refine list_nil ?_
     refine pop_then ?_
     refine wp_seq ?_
     have hRc : DtR (dDroM mx 40 384 tL xk) 40 384 (dDroL tL xk) := i1.drop xk
     have hMc : updD fN xk = dMap (dDroL tL xk) ∧ delN nN fN xk = (dDroL tL xk).length := by first | exact ⟨i2, i3⟩ | (rw [i2, i3]; exact ⟨hdd.2, hdd.1⟩) | (rw [i2, i3]; exact ⟨hds.2, hds.1⟩) | (rw [hO0]; exact ⟨i2, i3⟩)
     refine wp_region_seq ?_
     refine hS.opsC 1 [0] [4, 5, 6, 28, 29, 30] fun _ => seg [(90, .map (some mp6))] [(0, none), (1, none), (2, none)] [] trivial fun ac wd hS => ?_
     refine Runs1.list ?_
     refine St.mapRange hS 128 (.tmp 90) rfl rfl (by decide) (dk := .string) (ek := (Value.string : ByteArray → Value)) (ev := (vu : Int → Value)) (b := mp6) (q := (delN nN fN xk)) (F := (one mp6)) (f := (updD fN xk)) 1 Tryd.underlying128 fun ac wd it12 Fi13 hS => ?_
     refine list_nil_seq ?_
     refine wp_block ?_
     refine St.loopC (σ := Nat × (Option (ByteArray × Int))) (fun (x : Nat × (Option (ByteArray × Int))) => match x with | (lfx, cux) => ⟨[(4, [], pt (ν6 0) 0), (5, [], vb true), (6, [], .map (some mp6)), (28, [], sc g7 o7 l.length c7), (29, [], vi ((l.length : Nat) : Int)), (30, [], vi x30), (91, [], pt it12 0)], [(0, .fn 0 64 dbT), (g7, .fn o7 (o7 + l.length * 2) (aDV (gtD l) o7)), ((ν6 0), .cells [pt b'4 0, vi 40, vi 384] 125)], [arR b'4 F11 (dDroM mx 40 384 tL xk), rgR (.string) (Value.string : ByteArray → Value) (vu : Int → Value) mp6 it12 Fi13 ((delN nN fN xk, updD fN xk), lfx, cux)], True, lfx⟩) ((delN nN fN xk), none) trivial hS ?_
     clear hS
     rintro ⟨lfx, cux⟩ - ac wd hS
     refine wp_region_seq ?_
     refine Runs1.list ?_
     refine St.mapNext hS (.tmp 91) rfl rfl (by decide) (dk := .string) (ek := (Value.string : ByteArray → Value)) (ev := (vu : Int → Value)) (b := mp6) (r := it12) (q := (delN nN fN xk)) (left := lfx) (F := Fi13) (f := (updD fN xk)) (cur := cux) 1 (fun hrl0 ac hS => ?_) (fun ac wd rk14 rv15 rl16 hrk17 hrl18 hS => ?_)
     ·
      replace hS := hS.to (hS.mem.mapDone (dk := .string) (ek := (Value.string : ByteArray → Value)) (ev := (vu : Int → Value)) (b := mp6) (r := it12) (q := (delN nN fN xk)) (left := lfx) (F := Fi13) (f := (updD fN xk)) (cur := cux) 1)
      refine hS.opsC 1 [0] [4, 5, 6, 28, 29, 30, 91] fun _ => seg [(93, vb false)] [(0, none), (1, none), (2, none)] [] trivial fun ac wd hS => ?_
      refine list_nil_seq ?_
      refine wp_seq ?_
      refine hS.condF ?_
      refine wp_exit ?_
      refine pop_then_exit ?_
      refine pop_then_exit ?_
      refine pop_block_hit ?_
      refine pop_then ?_
      refine wp_region_seq ?_
      refine hS.opsC 1 [200] [4, 5, 6, 28, 29, 30] fun _ => seg [(110, .agg #[pt b'4 0, vi 40, vi 384])] [(0, none), (1, none), (2, none)] [.e (ν6 0), .e (ν6 0), .e (ν6 0)] trivial fun ac wd hS => ?_
      refine hS.callC 70 #[.agg #[pt b'4 0, vi 40, vi 384]] (d_All b'4 F11 (dDroM mx 40 384 tL xk) 40 384 (dDroL tL xk) _ (hS.mem.res 0) (hS.mem.get 0 0 (.fn 0 64 dbT)) (by first | assumption | omega | (simp_all; done) | (simp_all; omega)) (by exact hRc)) ?_
      rintro _ wd ⟨ao219, c220, g221, o222, rfl, hv223, hog0, hoh0, hF⟩
      have ho24 : g221 = 0 ∨ w.heap.size ≤ g221 := by have := hS.mem.fr.size; have : w.heap.size ≤ _ := this; omega
      refine ⟨.slice ao219 ((dDroL tL xk).length) c220, rfl, ?_⟩
      replace hS := (hS.to (hS.mem.outs hF [(g221, .fn o222 (o222 + (dDroL tL xk).length * 2) (itV (gtD (dDroL tL xk)) o222))] ⟨⟨rfl, hoh0, (fun q_ => q_.elim (fun e => .inl ⟨0, .fn 0 64 dbT, by rw [e]; as_aux_lemma => kernel_rfl, rfl⟩) (fun q_ => .inr q_)) hog0⟩, trivial⟩)).put (d := 111) (v := .slice ao219 ((dDroL tL xk).length) c220) (by decide)
      clear hF
      refine hS.opsC 2 [0, 0] [4, 5, 6, 28, 29, 30] fun _ => seg [(112, vi (((dDroL tL xk).length : Nat) : Int)), (113, .map (some mp6))] [(0, none), (1, none), (2, none)] [] trivial fun ac wd hS => ?_
      refine Runs1.list ?_
      refine St.mapLen hS 128 (.tmp 113) rfl rfl (by decide) (dk := .string) (ek := (Value.string : ByteArray → Value)) (ev := (vu : Int → Value)) (b := mp6) (q := (delN nN fN xk)) (F := (one mp6)) (f := (updD fN xk)) 1 Tryd.underlying128 fun ac hS => ?_
      refine hS.opsC 1 [0] [4, 5, 6, 28, 29, 30] fun _ => seg [(115, vb (((((dDroL tL xk).length : Nat) : Int) : Int) != ((delN nN fN xk : Nat) : Int)))] [(0, none), (1, none), (2, none)] [] trivial fun ac wd hS => ?_
      refine list_nil_seq ?_
      refine hS.condK (((((dDroL tL xk).length : Nat) : Int) : Int) != ((delN nN fN xk : Nat) : Int)) false (by (rw [hMc.2]; simp)) ?_
      show Code.wp _ _ _ _ _
      refine wp_skip ?_
      refine pop_block ?_
      refine pop_then ?_
      refine hS.regC [20, 0] [4, 5, 6, 28, 29] fun _ => seg [(30, vi (x30 + 1))] [(0, none), (1, none), (2, none)] [.p (fit .i64 (x30 + 1))] ⟨fit_i64 (by omega), trivial⟩ fun ac wd hS => ?_
      exact pop_then (hS.next ((x30 + 1), F11, (dDroM mx 40 384 tL xk), (dDroL tL xk), (delN nN fN xk), (updD fN xk)) ⟨(by omega), (by first | exact hRc | exact i1), (by first | exact hMc.1 | exact i2), (by first | exact hMc.2 | exact i3), trivial⟩ (by dsimp only; omega))
     ·
      have hgn := dm_get (hMc.1 ▸ hrk17)
      refine hS.opsC 1 [0] [4, 5, 6, 28, 29, 30, 91] fun _ => seg [(93, vb true)] [(0, none), (1, none), (2, none)] [] trivial fun ac wd hS => ?_
      refine list_nil_seq ?_
      refine wp_seq ?_
      refine hS.condT ?_
      refine wp_skip ?_
      refine pop_then ?_
      refine wp_block ?_
      refine wp_region_seq ?_
      refine Runs1.list ?_
      refine St.mapEntry hS (.tmp 91) rfl rfl (by decide) (dk := .string) (ek := (Value.string : ByteArray → Value)) (ev := (vu : Int → Value)) (b := mp6) (r := it12) (q := (delN nN fN xk)) (left := rl16) (F := Fi13) (f := (updD fN xk)) (kk := rk14) (vv := rv15) 1 fun ac hS => ?_
      refine hS.opsC 4 [0, 0, 0, 0] [4, 5, 6, 28, 29, 30, 91] fun _ => seg [(13, .string rk14), (14, vu rv15)] [(0, none), (1, none), (2, none)] [] trivial fun ac wd hS => ?_
      refine list_nil_seq ?_
      refine wp_region_seq ?_
      refine hS.opsC 2 [200, 0] [4, 5, 6, 14, 28, 29, 30, 91] fun _ => seg [(98, .agg #[pt b'4 0, vi 40, vi 384]), (99, .string rk14)] [(0, none), (1, none), (2, none)] [.e (ν6 0), .e (ν6 0), .e (ν6 0)] trivial fun ac wd hS => ?_
      refine hS.call0 69 #[.agg #[pt b'4 0, vi 40, vi 384], .string rk14] 100 (d_Get b'4 F11 (dDroM mx 40 384 tL xk) 40 384 rk14 (dDroL tL xk) _ (hS.mem.res 0) (hS.mem.get 0 0 (.fn 0 64 dbT)) (by first | assumption | omega | (simp_all; done) | (simp_all; omega)) (by exact hRc)) fun ac wd hS => ?_
      refine hS.opsC 5 [0, 0, 0, 0, 0] [4, 5, 6, 14, 28, 29, 30, 91] fun _ => seg [(15, vu (dGetV (dDroL tL xk) rk14)), (16, vb (dGetB (dDroL tL xk) rk14))] [(0, none), (1, none), (2, none)] [] trivial fun ac wd hS => ?_
      refine list_nil_seq ?_
      refine hS.regS [0, 0, 0, 3, 3, 3, 80] [4, 5, 6, 28, 29, 30, 91] fun _ => seg [(109, vb ((!(dGetB (dDroL tL xk) rk14)) || (((dGetV (dDroL tL xk) rk14) : Int) != rv15)))] [(0, none), (1, none), (2, none)] [] trivial fun ac wd hS => ?_
      refine hS.condK ((!(dGetB (dDroL tL xk) rk14)) || (((dGetV (dDroL tL xk) rk14) : Int) != rv15)) false (by (rw [hgn.1, hgn.2]; simp)) ?_
      show Code.wp _ _ _ _ _
      refine wp_skip ?_
      refine pop_block ?_
      exact pop_then (hS.next (rl16, (some (rk14, rv15))) trivial (by dsimp only; omega))
    ·
     refine wp_region_seq ?_
     refine hS.opsC 5 [200, 0, 300, 0, 300] [4, 5, 6, 9, 28, 29, 30] fun _ => seg [(63, .agg #[pt b'4 0, vi 40, vi 384]), (65, .string xk), (67, vu xn)] [(0, none), (1, none), (2, none), (3, none)] [.e (ν13 0), .e (ν13 0), .e (ν6 0), .e (ν6 0), .e (ν6 0)] trivial fun ac wd hS => ?_
     refine hS.callC 68 #[.agg #[pt b'4 0, vi 40, vi 384], .string xk, vu xn] (d_Set b'4 Fx mx 40 384 xk xn tL _ (hS.mem.res 0) (hS.mem.get 0 0 (.fn 0 64 dbT)) (hS.mem.nF (g := 0) (r := arR b'4 Fx mx) 0 0) (by first | assumption | omega | (simp_all; done) | (simp_all; omega)) (by exact i1)) ?_
     rintro _ wd ⟨F25, rfl, hA, hF⟩
     refine ⟨vi ((dPutT (384 / 32) tL [(xk, xn)]).2), rfl, ?_⟩
     replace hS := (hS.to (hS.mem.stepA 0 rfl hA hF)).put (d := 68) (v := vi ((dPutT (384 / 32) tL [(xk, xn)]).2)) (by decide)
     clear hF
     refine hS.opsC 1 [0] [4, 5, 6, 9, 28, 29, 30] fun _ => seg [(12, vi ((dPutT (384 / 32) tL [(xk, xn)]).2))] [(0, none), (1, none), (2, none), (3, none)] [] trivial fun ac wd hS => ?_
     refine list_nil_seq ?_
     refine hS.regS [0, 0] [4, 5, 6, 9, 28, 29, 30] fun _ => seg [(70, vb (((dPutT (384 / 32) tL [(xk, xn)]).2 : Int) == 0))] [(0, none), (1, none), (2, none), (3, none)] [] trivial fun ac wd hS => ?_
     refine hS.condC (((dPutT (384 / 32) tL [(xk, xn)]).2 : Int) == 0) (fun hb26o hb26 => ?_) (fun hb26o hb26 => ?_)
     ·
      have he0 := hb26
      have hds := dm_set i1.okd hxr2 he0
      refine wp_region_lit ?_
      refine hS.opsC 5 [0, 0, 300, 0, 300] [4, 5, 6, 28, 29, 30] fun _ => seg [(71, .map (some mp6)), (73, .string xk), (75, vu xn)] [(0, none), (1, none), (2, none)] [.e (ν13 0), .e (ν13 0)] trivial fun ac wd hS => ?_
      refine Runs0.list ?_
      refine St.mapPut hS 128 (.tmp 71) (.tmp 73) (.tmp 75) rfl (dk := .string) (ek := (Value.string : ByteArray → Value)) (ev := (vu : Int → Value)) (b := mp6) (q := nN) (F := (one mp6)) (f := fN) 1 xk xn (fun _ => trivial) (fun _ _ e_ => by injection e_) Tryd.underlying128 Tryd.underlying9 fun wd hS => ?_
      refine list_nil ?_
      refine pop_then ?_
      refine wp_seq ?_
      have hRc : DtR (dPutM mx 40 384 tL [(xk, xn)]) 40 384 (dPutL (384 / 32) tL [(xk, xn)]) := i1.put hxr
      have hMc : updO fN xk xn = dMap (dPutL (384 / 32) tL [(xk, xn)]) ∧ updN nN fN xk = (dPutL (384 / 32) tL [(xk, xn)]).length := by first | exact ⟨i2, i3⟩ | (rw [i2, i3]; exact ⟨hdd.2, hdd.1⟩) | (rw [i2, i3]; exact ⟨hds.2, hds.1⟩) | (rw [hO0]; exact ⟨i2, i3⟩)
      refine wp_region_seq ?_
      refine hS.opsC 1 [0] [4, 5, 6, 28, 29, 30] fun _ => seg [(90, .map (some mp6))] [(0, none), (1, none), (2, none)] [] trivial fun ac wd hS => ?_
      refine Runs1.list ?_
      refine St.mapRange hS 128 (.tmp 90) rfl rfl (by decide) (dk := .string) (ek := (Value.string : ByteArray → Value)) (ev := (vu : Int → Value)) (b := mp6) (q := (updN nN fN xk)) (F := (one mp6)) (f := (updO fN xk xn)) 1 Tryd.underlying128 fun ac wd it27 Fi28 hS => ?_
      refine list_nil_seq ?_
      refine wp_block ?_
      refine St.loopC (σ := Nat × (Option (ByteArray × Int))) (fun (x : Nat × (Option (ByteArray × Int))) => match x with | (lfx, cux) => ⟨[(4, [], pt (ν6 0) 0), (5, [], vb true), (6, [], .map (some mp6)), (28, [], sc g7 o7 l.length c7), (29, [], vi ((l.length : Nat) : Int)), (30, [], vi x30), (91, [], pt it27 0)], [(0, .fn 0 64 dbT), (g7, .fn o7 (o7 + l.length * 2) (aDV (gtD l) o7)), ((ν6 0), .cells [pt b'4 0, vi 40, vi 384] 125)], [arR b'4 F25 (dPutM mx 40 384 tL [(xk, xn)]), rgR (.string) (Value.string : ByteArray → Value) (vu : Int → Value) mp6 it27 Fi28 ((updN nN fN xk, updO fN xk xn), lfx, cux)], True, lfx⟩) ((updN nN fN xk), none) trivial hS ?_
      clear hS
      rintro ⟨lfx, cux⟩ - ac wd hS
      refine wp_region_seq ?_
      refine Runs1.list ?_
      refine St.mapNext hS (.tmp 91) rfl rfl (by decide) (dk := .string) (ek := (Value.string : ByteArray → Value)) (ev := (vu : Int → Value)) (b := mp6) (r := it27) (q := (updN nN fN xk)) (left := lfx) (F := Fi28) (f := (updO fN xk xn)) (cur := cux) 1 (fun hrl0 ac hS => ?_) (fun ac wd rk29 rv30 rl31 hrk32 hrl33 hS => ?_)
      ·
       replace hS := hS.to (hS.mem.mapDone (dk := .string) (ek := (Value.string : ByteArray → Value)) (ev := (vu : Int → Value)) (b := mp6) (r := it27) (q := (updN nN fN xk)) (left := lfx) (F := Fi28) (f := (updO fN xk xn)) (cur := cux) 1)
       refine hS.opsC 1 [0] [4, 5, 6, 28, 29, 30, 91] fun _ => seg [(93, vb false)] [(0, none), (1, none), (2, none)] [] trivial fun ac wd hS => ?_
       refine list_nil_seq ?_
       refine wp_seq ?_
       refine hS.condF ?_
       refine wp_exit ?_
       refine pop_then_exit ?_
       refine pop_then_exit ?_
       refine pop_block_hit ?_
       refine pop_then ?_
       refine wp_region_seq ?_
       refine hS.opsC 1 [200] [4, 5, 6, 28, 29, 30] fun _ => seg [(110, .agg #[pt b'4 0, vi 40, vi 384])] [(0, none), (1, none), (2, none)] [.e (ν6 0), .e (ν6 0), .e (ν6 0)] trivial fun ac wd hS => ?_
       refine hS.callC 70 #[.agg #[pt b'4 0, vi 40, vi 384]] (d_All b'4 F25 (dPutM mx 40 384 tL [(xk, xn)]) 40 384 (dPutL (384 / 32) tL [(xk, xn)]) _ (hS.mem.res 0) (hS.mem.get 0 0 (.fn 0 64 dbT)) (by first | assumption | omega | (simp_all; done) | (simp_all; omega)) (by exact hRc)) ?_
       rintro _ wd ⟨ao234, c235, g236, o237, rfl, hv238, hog0, hoh0, hF⟩
       have ho39 : g236 = 0 ∨ w.heap.size ≤ g236 := by have := hS.mem.fr.size; have : w.heap.size ≤ _ := this; omega
       refine ⟨.slice ao234 ((dPutL (384 / 32) tL [(xk, xn)]).length) c235, rfl, ?_⟩
       replace hS := (hS.to (hS.mem.outs hF [(g236, .fn o237 (o237 + (dPutL (384 / 32) tL [(xk, xn)]).length * 2) (itV (gtD (dPutL (384 / 32) tL [(xk, xn)])) o237))] ⟨⟨rfl, hoh0, (fun q_ => q_.elim (fun e => .inl ⟨0, .fn 0 64 dbT, by rw [e]; as_aux_lemma => kernel_rfl, rfl⟩) (fun q_ => .inr q_)) hog0⟩, trivial⟩)).put (d := 111) (v := .slice ao234 ((dPutL (384 / 32) tL [(xk, xn)]).length) c235) (by decide)
       clear hF
       refine hS.opsC 2 [0, 0] [4, 5, 6, 28, 29, 30] fun _ => seg [(112, vi (((dPutL (384 / 32) tL [(xk, xn)]).length : Nat) : Int)), (113, .map (some mp6))] [(0, none), (1, none), (2, none)] [] trivial fun ac wd hS => ?_
       refine Runs1.list ?_
       refine St.mapLen hS 128 (.tmp 113) rfl rfl (by decide) (dk := .string) (ek := (Value.string : ByteArray → Value)) (ev := (vu : Int → Value)) (b := mp6) (q := (updN nN fN xk)) (F := (one mp6)) (f := (updO fN xk xn)) 1 Tryd.underlying128 fun ac hS => ?_
       refine hS.opsC 1 [0] [4, 5, 6, 28, 29, 30] fun _ => seg [(115, vb (((((dPutL (384 / 32) tL [(xk, xn)]).length : Nat) : Int) : Int) != ((updN nN fN xk : Nat) : Int)))] [(0, none), (1, none), (2, none)] [] trivial fun ac wd hS => ?_
       refine list_nil_seq ?_
       refine hS.condK (((((dPutL (384 / 32) tL [(xk, xn)]).length : Nat) : Int) : Int) != ((updN nN fN xk : Nat) : Int)) false (by (rw [hMc.2]; simp)) ?_
       show Code.wp _ _ _ _ _
       refine wp_skip ?_
       refine pop_block ?_
       refine pop_then ?_
       refine hS.regC [20, 0] [4, 5, 6, 28, 29] fun _ => seg [(30, vi (x30 + 1))] [(0, none), (1, none), (2, none)] [.p (fit .i64 (x30 + 1))] ⟨fit_i64 (by omega), trivial⟩ fun ac wd hS => ?_
       exact pop_then (hS.next ((x30 + 1), F25, (dPutM mx 40 384 tL [(xk, xn)]), (dPutL (384 / 32) tL [(xk, xn)]), (updN nN fN xk), (updO fN xk xn)) ⟨(by omega), (by first | exact hRc | exact i1), (by first | exact hMc.1 | exact i2), (by first | exact hMc.2 | exact i3), trivial⟩ (by dsimp only; omega))
      ·
       have hgn := dm_get (hMc.1 ▸ hrk32)
       refine hS.opsC 1 [0] [4, 5, 6, 28, 29, 30, 91] fun _ => seg [(93, vb true)] [(0, none), (1, none), (2, none)] [] trivial fun ac wd hS => ?_
       refine list_nil_seq ?_
       refine wp_seq ?_
       refine hS.condT ?_
       refine wp_skip ?_
       refine pop_then ?_
       refine wp_block ?_
       refine wp_region_seq ?_
       refine Runs1.list ?_
       refine St.mapEntry hS (.tmp 91) rfl rfl (by decide) (dk := .string) (ek := (Value.string : ByteArray → Value)) (ev := (vu : Int → Value)) (b := mp6) (r := it27) (q := (updN nN fN xk)) (left := rl31) (F := Fi28) (f := (updO fN xk xn)) (kk := rk29) (vv := rv30) 1 fun ac hS => ?_
       refine hS.opsC 4 [0, 0, 0, 0] [4, 5, 6, 28, 29, 30, 91] fun _ => seg [(13, .string rk29), (14, vu rv30)] [(0, none), (1, none), (2, none)] [] trivial fun ac wd hS => ?_
       refine list_nil_seq ?_
       refine wp_region_seq ?_
       refine hS.opsC 2 [200, 0] [4, 5, 6, 14, 28, 29, 30, 91] fun _ => seg [(98, .agg #[pt b'4 0, vi 40, vi 384]), (99, .string rk29)] [(0, none), (1, none), (2, none)] [.e (ν6 0), .e (ν6 0), .e (ν6 0)] trivial fun ac wd hS => ?_
       refine hS.call0 69 #[.agg #[pt b'4 0, vi 40, vi 384], .string rk29] 100 (d_Get b'4 F25 (dPutM mx 40 384 tL [(xk, xn)]) 40 384 rk29 (dPutL (384 / 32) tL [(xk, xn)]) _ (hS.mem.res 0) (hS.mem.get 0 0 (.fn 0 64 dbT)) (by first | assumption | omega | (simp_all; done) | (simp_all; omega)) (by exact hRc)) fun ac wd hS => ?_
       refine hS.opsC 5 [0, 0, 0, 0, 0] [4, 5, 6, 14, 28, 29, 30, 91] fun _ => seg [(15, vu (dGetV (dPutL (384 / 32) tL [(xk, xn)]) rk29)), (16, vb (dGetB (dPutL (384 / 32) tL [(xk, xn)]) rk29))] [(0, none), (1, none), (2, none)] [] trivial fun ac wd hS => ?_
       refine list_nil_seq ?_
       refine hS.regS [0, 0, 0, 3, 3, 3, 80] [4, 5, 6, 28, 29, 30, 91] fun _ => seg [(109, vb ((!(dGetB (dPutL (384 / 32) tL [(xk, xn)]) rk29)) || (((dGetV (dPutL (384 / 32) tL [(xk, xn)]) rk29) : Int) != rv30)))] [(0, none), (1, none), (2, none)] [] trivial fun ac wd hS => ?_
       refine hS.condK ((!(dGetB (dPutL (384 / 32) tL [(xk, xn)]) rk29)) || (((dGetV (dPutL (384 / 32) tL [(xk, xn)]) rk29) : Int) != rv30)) false (by (rw [hgn.1, hgn.2]; simp)) ?_
       show Code.wp _ _ _ _ _
       refine wp_skip ?_
       refine pop_block ?_
       exact pop_then (hS.next (rl31, (some (rk29, rv30))) trivial (by dsimp only; omega))
     ·
      have hO0 := ord_set0 (x := (xk, xn)) hb26
      have hbad := dm_bad (k := xk) (v := xn) hb26
      refine wp_region_seq ?_
      refine hS.opsC 10 [0, 300, 0, 0, 3, 303, 3, 3, 80, 0] [4, 5, 6, 28, 29, 30] fun _ => seg [(85, vb ((!(ByteArray.toList xk == ByteArray.toList (⟨#[]⟩ : ByteArray))) && (decide ((((ByteArray.size xk : Nat) : Int) : Int) ≤ 16))))] [(0, none), (1, none), (2, none)] [.p ((((!(ByteArray.toList xk == ByteArray.toList (⟨#[]⟩ : ByteArray))) = true) ∧ True) → AllP [((ν13 0) : Nat) = (ν13 0)]), .e (ν13 0)] ⟨(fun ⟨hc0, _⟩ => by replace hc0 := nrm hc0; exact ⟨rfl, trivial⟩), trivial⟩ fun ac wd hS => ?_
      rcases Bool.eq_false_or_eq_true ((!(ByteArray.toList xk == ByteArray.toList (⟨#[]⟩ : ByteArray))) && (decide ((((ByteArray.size xk : Nat) : Int) : Int) ≤ 16))) with hg40o | hg40o
      ·
       have hg40 := nrm hg40o
       have hkk := hg40o
       rw [Bool.and_eq_true] at hkk
       have hk1 := hkk.1
       rw [Bool.not_eq_true'] at hk1
       have hk0 := e_size0 hk1
       have hk2 := of_decide_eq_true hkk.2
       replace hS := hS.fix 85 (vb true) (congrArg Value.bool hg40o)
       refine hS.opsC 1 [1] [4, 5, 6, 28, 29, 30, 85] fun _ => seg [(86, .map (some mp6))] [(0, none), (1, none), (2, none)] [.t true] trivial fun ac wd hS => ?_
       refine Runs1.listG hS 85 true ?_ (by decide)
       refine St.mapLen hS 128 (.tmp 86) rfl rfl (by decide) (dk := .string) (ek := (Value.string : ByteArray → Value)) (ev := (vu : Int → Value)) (b := mp6) (q := nN) (F := (one mp6)) (f := fN) 1 Tryd.underlying128 fun ac hS => ?_
       refine hS.opsC 2 [1, 70] [4, 5, 6, 28, 29, 30] fun _ => seg [(89, vb (decide ((((nN : Nat) : Int) : Int) < 12)))] [(0, none), (1, none), (2, none)] [.t true, .t true] trivial fun ac wd hS => ?_
       refine list_nil_seq ?_
       refine hS.condK (decide ((((nN : Nat) : Int) : Int) < 12)) false (by exact decide_eq_false (by omega)) ?_
       show Code.wp _ _ _ _ _
       refine wp_skip ?_
       refine pop_then ?_
       refine wp_seq ?_
       have hRc : DtR (dPutM mx 40 384 tL [(xk, xn)]) 40 384 (dPutL (384 / 32) tL [(xk, xn)]) := i1.put hxr
       have hMc : fN = dMap (dPutL (384 / 32) tL [(xk, xn)]) ∧ nN = (dPutL (384 / 32) tL [(xk, xn)]).length := by first | exact ⟨i2, i3⟩ | (rw [i2, i3]; exact ⟨hdd.2, hdd.1⟩) | (rw [i2, i3]; exact ⟨hds.2, hds.1⟩) | (rw [hO0]; exact ⟨i2, i3⟩)
       refine wp_region_seq ?_
       refine hS.opsC 1 [0] [4, 5, 6, 28, 29, 30] fun _ => seg [(90, .map (some mp6))] [(0, none), (1, none), (2, none)] [] trivial fun ac wd hS => ?_
       refine Runs1.list ?_
       refine St.mapRange hS 128 (.tmp 90) rfl rfl (by decide) (dk := .string) (ek := (Value.string : ByteArray → Value)) (ev := (vu : Int → Value)) (b := mp6) (q := nN) (F := (one mp6)) (f := fN) 1 Tryd.underlying128 fun ac wd it41 Fi42 hS => ?_
       refine list_nil_seq ?_
       refine wp_block ?_
       refine St.loopC (σ := Nat × (Option (ByteArray × Int))) (fun (x : Nat × (Option (ByteArray × Int))) => match x with | (lfx, cux) => ⟨[(4, [], pt (ν6 0) 0), (5, [], vb true), (6, [], .map (some mp6)), (28, [], sc g7 o7 l.length c7), (29, [], vi ((l.length : Nat) : Int)), (30, [], vi x30), (91, [], pt it41 0)], [(0, .fn 0 64 dbT), (g7, .fn o7 (o7 + l.length * 2) (aDV (gtD l) o7)), ((ν6 0), .cells [pt b'4 0, vi 40, vi 384] 125)], [arR b'4 F25 (dPutM mx 40 384 tL [(xk, xn)]), rgR (.string) (Value.string : ByteArray → Value) (vu : Int → Value) mp6 it41 Fi42 ((nN, fN), lfx, cux)], True, lfx⟩) (nN, none) trivial hS ?_
       clear hS
       rintro ⟨lfx, cux⟩ - ac wd hS
       refine wp_region_seq ?_
       refine Runs1.list ?_
       refine St.mapNext hS (.tmp 91) rfl rfl (by decide) (dk := .string) (ek := (Value.string : ByteArray → Value)) (ev := (vu : Int → Value)) (b := mp6) (r := it41) (q := nN) (left := lfx) (F := Fi42) (f := fN) (cur := cux) 1 (fun hrl0 ac hS => ?_) (fun ac wd rk43 rv44 rl45 hrk46 hrl47 hS => ?_)
       ·
        replace hS := hS.to (hS.mem.mapDone (dk := .string) (ek := (Value.string : ByteArray → Value)) (ev := (vu : Int → Value)) (b := mp6) (r := it41) (q := nN) (left := lfx) (F := Fi42) (f := fN) (cur := cux) 1)
        refine hS.opsC 1 [0] [4, 5, 6, 28, 29, 30, 91] fun _ => seg [(93, vb false)] [(0, none), (1, none), (2, none)] [] trivial fun ac wd hS => ?_
        refine list_nil_seq ?_
        refine wp_seq ?_
        refine hS.condF ?_
        refine wp_exit ?_
        refine pop_then_exit ?_
        refine pop_then_exit ?_
        refine pop_block_hit ?_
        refine pop_then ?_
        refine wp_region_seq ?_
        refine hS.opsC 1 [200] [4, 5, 6, 28, 29, 30] fun _ => seg [(110, .agg #[pt b'4 0, vi 40, vi 384])] [(0, none), (1, none), (2, none)] [.e (ν6 0), .e (ν6 0), .e (ν6 0)] trivial fun ac wd hS => ?_
        refine hS.callC 70 #[.agg #[pt b'4 0, vi 40, vi 384]] (d_All b'4 F25 (dPutM mx 40 384 tL [(xk, xn)]) 40 384 (dPutL (384 / 32) tL [(xk, xn)]) _ (hS.mem.res 0) (hS.mem.get 0 0 (.fn 0 64 dbT)) (by first | assumption | omega | (simp_all; done) | (simp_all; omega)) (by exact hRc)) ?_
        rintro _ wd ⟨ao248, c249, g250, o251, rfl, hv252, hog0, hoh0, hF⟩
        have ho53 : g250 = 0 ∨ w.heap.size ≤ g250 := by have := hS.mem.fr.size; have : w.heap.size ≤ _ := this; omega
        refine ⟨.slice ao248 ((dPutL (384 / 32) tL [(xk, xn)]).length) c249, rfl, ?_⟩
        replace hS := (hS.to (hS.mem.outs hF [(g250, .fn o251 (o251 + (dPutL (384 / 32) tL [(xk, xn)]).length * 2) (itV (gtD (dPutL (384 / 32) tL [(xk, xn)])) o251))] ⟨⟨rfl, hoh0, (fun q_ => q_.elim (fun e => .inl ⟨0, .fn 0 64 dbT, by rw [e]; as_aux_lemma => kernel_rfl, rfl⟩) (fun q_ => .inr q_)) hog0⟩, trivial⟩)).put (d := 111) (v := .slice ao248 ((dPutL (384 / 32) tL [(xk, xn)]).length) c249) (by decide)
        clear hF
        refine hS.opsC 2 [0, 0] [4, 5, 6, 28, 29, 30] fun _ => seg [(112, vi (((dPutL (384 / 32) tL [(xk, xn)]).length : Nat) : Int)), (113, .map (some mp6))] [(0, none), (1, none), (2, none)] [] trivial fun ac wd hS => ?_
        refine Runs1.list ?_
        refine St.mapLen hS 128 (.tmp 113) rfl rfl (by decide) (dk := .string) (ek := (Value.string : ByteArray → Value)) (ev := (vu : Int → Value)) (b := mp6) (q := nN) (F := (one mp6)) (f := fN) 1 Tryd.underlying128 fun ac hS => ?_
        refine hS.opsC 1 [0] [4, 5, 6, 28, 29, 30] fun _ => seg [(115, vb (((((dPutL (384 / 32) tL [(xk, xn)]).length : Nat) : Int) : Int) != ((nN : Nat) : Int)))] [(0, none), (1, none), (2, none)] [] trivial fun ac wd hS => ?_
        refine list_nil_seq ?_
        refine hS.condK (((((dPutL (384 / 32) tL [(xk, xn)]).length : Nat) : Int) : Int) != ((nN : Nat) : Int)) false (by (rw [hMc.2]; simp)) ?_
        show Code.wp _ _ _ _ _
        refine wp_skip ?_
        refine pop_block ?_
        refine pop_then ?_
        refine hS.regC [20, 0] [4, 5, 6, 28, 29] fun _ => seg [(30, vi (x30 + 1))] [(0, none), (1, none), (2, none)] [.p (fit .i64 (x30 + 1))] ⟨fit_i64 (by omega), trivial⟩ fun ac wd hS => ?_
        exact pop_then (hS.next ((x30 + 1), F25, (dPutM mx 40 384 tL [(xk, xn)]), (dPutL (384 / 32) tL [(xk, xn)]), nN, fN) ⟨(by omega), (by first | exact hRc | exact i1), (by first | exact hMc.1 | exact i2), (by first | exact hMc.2 | exact i3), trivial⟩ (by dsimp only; omega))
       ·
        have hgn := dm_get (hMc.1 ▸ hrk46)
        refine hS.opsC 1 [0] [4, 5, 6, 28, 29, 30, 91] fun _ => seg [(93, vb true)] [(0, none), (1, none), (2, none)] [] trivial fun ac wd hS => ?_
        refine list_nil_seq ?_
        refine wp_seq ?_
        refine hS.condT ?_
        refine wp_skip ?_
        refine pop_then ?_
        refine wp_block ?_
        refine wp_region_seq ?_
        refine Runs1.list ?_
        refine St.mapEntry hS (.tmp 91) rfl rfl (by decide) (dk := .string) (ek := (Value.string : ByteArray → Value)) (ev := (vu : Int → Value)) (b := mp6) (r := it41) (q := nN) (left := rl45) (F := Fi42) (f := fN) (kk := rk43) (vv := rv44) 1 fun ac hS => ?_
        refine hS.opsC 4 [0, 0, 0, 0] [4, 5, 6, 28, 29, 30, 91] fun _ => seg [(13, .string rk43), (14, vu rv44)] [(0, none), (1, none), (2, none)] [] trivial fun ac wd hS => ?_
        refine list_nil_seq ?_
        refine wp_region_seq ?_
        refine hS.opsC 2 [200, 0] [4, 5, 6, 14, 28, 29, 30, 91] fun _ => seg [(98, .agg #[pt b'4 0, vi 40, vi 384]), (99, .string rk43)] [(0, none), (1, none), (2, none)] [.e (ν6 0), .e (ν6 0), .e (ν6 0)] trivial fun ac wd hS => ?_
        refine hS.call0 69 #[.agg #[pt b'4 0, vi 40, vi 384], .string rk43] 100 (d_Get b'4 F25 (dPutM mx 40 384 tL [(xk, xn)]) 40 384 rk43 (dPutL (384 / 32) tL [(xk, xn)]) _ (hS.mem.res 0) (hS.mem.get 0 0 (.fn 0 64 dbT)) (by first | assumption | omega | (simp_all; done) | (simp_all; omega)) (by exact hRc)) fun ac wd hS => ?_
        refine hS.opsC 5 [0, 0, 0, 0, 0] [4, 5, 6, 14, 28, 29, 30, 91] fun _ => seg [(15, vu (dGetV (dPutL (384 / 32) tL [(xk, xn)]) rk43)), (16, vb (dGetB (dPutL (384 / 32) tL [(xk, xn)]) rk43))] [(0, none), (1, none), (2, none)] [] trivial fun ac wd hS => ?_
        refine list_nil_seq ?_
        refine hS.regS [0, 0, 0, 3, 3, 3, 80] [4, 5, 6, 28, 29, 30, 91] fun _ => seg [(109, vb ((!(dGetB (dPutL (384 / 32) tL [(xk, xn)]) rk43)) || (((dGetV (dPutL (384 / 32) tL [(xk, xn)]) rk43) : Int) != rv44)))] [(0, none), (1, none), (2, none)] [] trivial fun ac wd hS => ?_
        refine hS.condK ((!(dGetB (dPutL (384 / 32) tL [(xk, xn)]) rk43)) || (((dGetV (dPutL (384 / 32) tL [(xk, xn)]) rk43) : Int) != rv44)) false (by (rw [hgn.1, hgn.2]; simp)) ?_
        show Code.wp _ _ _ _ _
        refine wp_skip ?_
        refine pop_block ?_
        exact pop_then (hS.next (rl45, (some (rk43, rv44))) trivial (by dsimp only; omega))
      ·
       have hg40 := nrm hg40o
       replace hS := hS.fix 85 (vb false) (congrArg Value.bool hg40o)
       refine hS.opsC 4 [2, 2, 2, 60] [4, 5, 6, 28, 29, 30] fun _ => seg [(89, vb false)] [(0, none), (1, none), (2, none)] [.t false, .t false, .t false, .t false] trivial fun ac wd hS => ?_
       refine list_nil_seq ?_
       refine hS.condF ?_
       refine wp_skip ?_
       refine pop_then ?_
       refine wp_seq ?_
       have hRc : DtR (dPutM mx 40 384 tL [(xk, xn)]) 40 384 (dPutL (384 / 32) tL [(xk, xn)]) := i1.put hxr
       have hMc : fN = dMap (dPutL (384 / 32) tL [(xk, xn)]) ∧ nN = (dPutL (384 / 32) tL [(xk, xn)]).length := by first | exact ⟨i2, i3⟩ | (rw [i2, i3]; exact ⟨hdd.2, hdd.1⟩) | (rw [i2, i3]; exact ⟨hds.2, hds.1⟩) | (rw [hO0]; exact ⟨i2, i3⟩)
       refine wp_region_seq ?_
       refine hS.opsC 1 [0] [4, 5, 6, 28, 29, 30] fun _ => seg [(90, .map (some mp6))] [(0, none), (1, none), (2, none)] [] trivial fun ac wd hS => ?_
       refine Runs1.list ?_
       refine St.mapRange hS 128 (.tmp 90) rfl rfl (by decide) (dk := .string) (ek := (Value.string : ByteArray → Value)) (ev := (vu : Int → Value)) (b := mp6) (q := nN) (F := (one mp6)) (f := fN) 1 Tryd.underlying128 fun ac wd it54 Fi55 hS => ?_
       refine list_nil_seq ?_
       refine wp_block ?_
       refine St.loopC (σ := Nat × (Option (ByteArray × Int))) (fun (x : Nat × (Option (ByteArray × Int))) => match x with | (lfx, cux) => ⟨[(4, [], pt (ν6 0) 0), (5, [], vb true), (6, [], .map (some mp6)), (28, [], sc g7 o7 l.length c7), (29, [], vi ((l.length : Nat) : Int)), (30, [], vi x30), (91, [], pt it54 0)], [(0, .fn 0 64 dbT), (g7, .fn o7 (o7 + l.length * 2) (aDV (gtD l) o7)), ((ν6 0), .cells [pt b'4 0, vi 40, vi 384] 125)], [arR b'4 F25 (dPutM mx 40 384 tL [(xk, xn)]), rgR (.string) (Value.string : ByteArray → Value) (vu : Int → Value) mp6 it54 Fi55 ((nN, fN), lfx, cux)], True, lfx⟩) (nN, none) trivial hS ?_
       clear hS
       rintro ⟨lfx, cux⟩ - ac wd hS
       refine wp_region_seq ?_
       refine Runs1.list ?_
       refine St.mapNext hS (.tmp 91) rfl rfl (by decide) (dk := .string) (ek := (Value.string : ByteArray → Value)) (ev := (vu : Int → Value)) (b := mp6) (r := it54) (q := nN) (left := lfx) (F := Fi55) (f := fN) (cur := cux) 1 (fun hrl0 ac hS => ?_) (fun ac wd rk56 rv57 rl58 hrk59 hrl60 hS => ?_)
       ·
        replace hS := hS.to (hS.mem.mapDone (dk := .string) (ek := (Value.string : ByteArray → Value)) (ev := (vu : Int → Value)) (b := mp6) (r := it54) (q := nN) (left := lfx) (F := Fi55) (f := fN) (cur := cux) 1)
        refine hS.opsC 1 [0] [4, 5, 6, 28, 29, 30, 91] fun _ => seg [(93, vb false)] [(0, none), (1, none), (2, none)] [] trivial fun ac wd hS => ?_
        refine list_nil_seq ?_
        refine wp_seq ?_
        refine hS.condF ?_
        refine wp_exit ?_
        refine pop_then_exit ?_
        refine pop_then_exit ?_
        refine pop_block_hit ?_
        refine pop_then ?_
        refine wp_region_seq ?_
        refine hS.opsC 1 [200] [4, 5, 6, 28, 29, 30] fun _ => seg [(110, .agg #[pt b'4 0, vi 40, vi 384])] [(0, none), (1, none), (2, none)] [.e (ν6 0), .e (ν6 0), .e (ν6 0)] trivial fun ac wd hS => ?_
        refine hS.callC 70 #[.agg #[pt b'4 0, vi 40, vi 384]] (d_All b'4 F25 (dPutM mx 40 384 tL [(xk, xn)]) 40 384 (dPutL (384 / 32) tL [(xk, xn)]) _ (hS.mem.res 0) (hS.mem.get 0 0 (.fn 0 64 dbT)) (by first | assumption | omega | (simp_all; done) | (simp_all; omega)) (by exact hRc)) ?_
        rintro _ wd ⟨ao261, c262, g263, o264, rfl, hv265, hog0, hoh0, hF⟩
        have ho66 : g263 = 0 ∨ w.heap.size ≤ g263 := by have := hS.mem.fr.size; have : w.heap.size ≤ _ := this; omega
        refine ⟨.slice ao261 ((dPutL (384 / 32) tL [(xk, xn)]).length) c262, rfl, ?_⟩
        replace hS := (hS.to (hS.mem.outs hF [(g263, .fn o264 (o264 + (dPutL (384 / 32) tL [(xk, xn)]).length * 2) (itV (gtD (dPutL (384 / 32) tL [(xk, xn)])) o264))] ⟨⟨rfl, hoh0, (fun q_ => q_.elim (fun e => .inl ⟨0, .fn 0 64 dbT, by rw [e]; as_aux_lemma => kernel_rfl, rfl⟩) (fun q_ => .inr q_)) hog0⟩, trivial⟩)).put (d := 111) (v := .slice ao261 ((dPutL (384 / 32) tL [(xk, xn)]).length) c262) (by decide)
        clear hF
        refine hS.opsC 2 [0, 0] [4, 5, 6, 28, 29, 30] fun _ => seg [(112, vi (((dPutL (384 / 32) tL [(xk, xn)]).length : Nat) : Int)), (113, .map (some mp6))] [(0, none), (1, none), (2, none)] [] trivial fun ac wd hS => ?_
        refine Runs1.list ?_
        refine St.mapLen hS 128 (.tmp 113) rfl rfl (by decide) (dk := .string) (ek := (Value.string : ByteArray → Value)) (ev := (vu : Int → Value)) (b := mp6) (q := nN) (F := (one mp6)) (f := fN) 1 Tryd.underlying128 fun ac hS => ?_
        refine hS.opsC 1 [0] [4, 5, 6, 28, 29, 30] fun _ => seg [(115, vb (((((dPutL (384 / 32) tL [(xk, xn)]).length : Nat) : Int) : Int) != ((nN : Nat) : Int)))] [(0, none), (1, none), (2, none)] [] trivial fun ac wd hS => ?_
        refine list_nil_seq ?_
        refine hS.condK (((((dPutL (384 / 32) tL [(xk, xn)]).length : Nat) : Int) : Int) != ((nN : Nat) : Int)) false (by (rw [hMc.2]; simp)) ?_
        show Code.wp _ _ _ _ _
        refine wp_skip ?_
        refine pop_block ?_
        refine pop_then ?_
        refine hS.regC [20, 0] [4, 5, 6, 28, 29] fun _ => seg [(30, vi (x30 + 1))] [(0, none), (1, none), (2, none)] [.p (fit .i64 (x30 + 1))] ⟨fit_i64 (by omega), trivial⟩ fun ac wd hS => ?_
        exact pop_then (hS.next ((x30 + 1), F25, (dPutM mx 40 384 tL [(xk, xn)]), (dPutL (384 / 32) tL [(xk, xn)]), nN, fN) ⟨(by omega), (by first | exact hRc | exact i1), (by first | exact hMc.1 | exact i2), (by first | exact hMc.2 | exact i3), trivial⟩ (by dsimp only; omega))
       ·
        have hgn := dm_get (hMc.1 ▸ hrk59)
        refine hS.opsC 1 [0] [4, 5, 6, 28, 29, 30, 91] fun _ => seg [(93, vb true)] [(0, none), (1, none), (2, none)] [] trivial fun ac wd hS => ?_
        refine list_nil_seq ?_
        refine wp_seq ?_
        refine hS.condT ?_
        refine wp_skip ?_
        refine pop_then ?_
        refine wp_block ?_
        refine wp_region_seq ?_
        refine Runs1.list ?_
        refine St.mapEntry hS (.tmp 91) rfl rfl (by decide) (dk := .string) (ek := (Value.string : ByteArray → Value)) (ev := (vu : Int → Value)) (b := mp6) (r := it54) (q := nN) (left := rl58) (F := Fi55) (f := fN) (kk := rk56) (vv := rv57) 1 fun ac hS => ?_
        refine hS.opsC 4 [0, 0, 0, 0] [4, 5, 6, 28, 29, 30, 91] fun _ => seg [(13, .string rk56), (14, vu rv57)] [(0, none), (1, none), (2, none)] [] trivial fun ac wd hS => ?_
        refine list_nil_seq ?_
        refine wp_region_seq ?_
        refine hS.opsC 2 [200, 0] [4, 5, 6, 14, 28, 29, 30, 91] fun _ => seg [(98, .agg #[pt b'4 0, vi 40, vi 384]), (99, .string rk56)] [(0, none), (1, none), (2, none)] [.e (ν6 0), .e (ν6 0), .e (ν6 0)] trivial fun ac wd hS => ?_
        refine hS.call0 69 #[.agg #[pt b'4 0, vi 40, vi 384], .string rk56] 100 (d_Get b'4 F25 (dPutM mx 40 384 tL [(xk, xn)]) 40 384 rk56 (dPutL (384 / 32) tL [(xk, xn)]) _ (hS.mem.res 0) (hS.mem.get 0 0 (.fn 0 64 dbT)) (by first | assumption | omega | (simp_all; done) | (simp_all; omega)) (by exact hRc)) fun ac wd hS => ?_
        refine hS.opsC 5 [0, 0, 0, 0, 0] [4, 5, 6, 14, 28, 29, 30, 91] fun _ => seg [(15, vu (dGetV (dPutL (384 / 32) tL [(xk, xn)]) rk56)), (16, vb (dGetB (dPutL (384 / 32) tL [(xk, xn)]) rk56))] [(0, none), (1, none), (2, none)] [] trivial fun ac wd hS => ?_
        refine list_nil_seq ?_
        refine hS.regS [0, 0, 0, 3, 3, 3, 80] [4, 5, 6, 28, 29, 30, 91] fun _ => seg [(109, vb ((!(dGetB (dPutL (384 / 32) tL [(xk, xn)]) rk56)) || (((dGetV (dPutL (384 / 32) tL [(xk, xn)]) rk56) : Int) != rv57)))] [(0, none), (1, none), (2, none)] [] trivial fun ac wd hS => ?_
        refine hS.condK ((!(dGetB (dPutL (384 / 32) tL [(xk, xn)]) rk56)) || (((dGetV (dPutL (384 / 32) tL [(xk, xn)]) rk56) : Int) != rv57)) false (by (rw [hgn.1, hgn.2]; simp)) ?_
        show Code.wp _ _ _ _ _
        refine wp_skip ?_
        refine pop_block ?_
        exact pop_then (hS.next (rl58, (some (rk56, rv57))) trivial (by dsimp only; omega))
  ·
   refine wp_exit ?_
   refine pop_then_exit ?_
   refine pop_then_exit ?_
   refine pop_block_hit ?_
   refine pop_then ?_
   refine hS.regS [0, 0] [] fun _ => seg [(2, vb true)] [(0, none)] [] trivial fun ac wd hS => ?_
   refine wp_ret ?_
   refine St.retC 0 hS (vb true) [] trivial fun hw => ?_
   refine ⟨retd rfl, hw.fr0⟩

end Go.Proofs.YtnbkafnikpbmbaaDoor.K
