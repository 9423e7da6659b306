/-
  Walks, printed by w2.py.
-/
import Derived.Test.YtdjhdcaanmkblaaDoorPk
import Derived.Test.YtdjhdcaanmkblaaDoorVu
import Derived.Test.YtdjhdcaanmkblaaDoorOz
import Derived.Test.YtdjhdcaanmkblaaDoorProg
namespace Go.Proofs.YtdjhdcaanmkblaaDoor.K
set_option linter.unusedVariables false
set_option linter.unusedSimpArgs false

theorem bits_CountD (b : Nat) (F : Nat → Prop) (q : AM × Lie) (f : Int) (k : Int) (w : World) (hr : (arD b F q).R w) :
    Calls Tryd.prog 17 #[.agg #[vi ((q.1.cap : Nat) : Int), sc q.2.bw q.2.ow q.2.nw q.2.cw], vi f, vi k] w fun e w' => e = .returned (.tuple #[vi (cntV q.1.com q.1.cap f k), vi (trnE q.1.cap f k)]) ∧ Fr w w' no no := by
 have hd : ArAt w ⟨b, F, q.1⟩ q.2 := hr
 exact bits_Count q.2.bw q.2.ow q.2.cw q.2.nw q.2.ws q.1.cap f k q.1.com w hd.wo hd.set hd.capLe

set_option maxRecDepth 100000 in
set_option maxHeartbeats 1000000 in
theorem law03_ArenaPlays (pp : Int) (ao9 : Option Addr) (c9 : Nat) (g9 : Nat) (o9 : Nat) (l : List (Int × Int × Int × Int × Int × ByteArray)) (w : World) (hh0 : HE.holds w 0 (.fn 0 64 dbT)) (hh1 : HE.holds w g9 (.fn o9 (o9 + l.length * 6) (a3V (gtD l) o9))) (hv9 : (l.length = 0 ∨ ao9 = some ⟨g9, o9, none⟩)) (hpp : 0 ≤ pp ∧ pp ≤ 255) (hAl : ∀ i, i < l.length → rg_a3V (gtD l i)) :
    Calls Tryd.prog 3 #[v8 pp, .slice ao9 l.length c9] w fun e w' => e = .returned (vb true) ∧ Fr w w' no no := by
 refine enter (args := [v8 pp, .slice ao9 l.length c9]) (D := no) (A := []) Tryd.func3 rfl 105 rfl [(0, .fn 0 64 dbT), (g9, .fn o9 (o9 + l.length * 6) (a3V (gtD l) o9))] (WS.startL ⟨⟨rfl, hh0⟩, ⟨rfl, hh1⟩, trivial⟩) fun ac hS => ?_
 refine hS.regS [0] [0, 1] fun _ => seg [] [(0, none), (1, none)] [] trivial fun ac wd hS => ?_
 refine wp_seq ?_
 refine wp_region_seq ?_
 refine hS.call0 7 #[] 11 (law03_awake  _ (hS.mem.get 0 0 (.fn 0 64 dbT)) ) fun ac wd hS => ?_
 refine hS.opsC 1 [0] [0, 1] fun _ => seg [(12, vb false)] [(0, none), (1, none)] [] trivial fun ac wd hS => ?_
 refine list_nil_seq ?_
 refine hS.condF ?_
 refine wp_skip ?_
 refine pop_then ?_
 refine wp_seq ?_
 refine wp_region_seq ?_
 refine hS.opsC 1 [0] [0, 1] fun _ => seg [(13, .slice ao9 l.length c9)] [(0, none), (1, none)] [] trivial fun ac wd hS => ?_
 refine hS.callC 8 #[.slice ao9 l.length c9] (law03_LightR ao9 c9 g9 o9 l _ (hS.mem.get 1 g9 (.fn o9 (o9 + l.length * 6) (a3V (gtD l) o9))) hv9) ?_
 rintro _ wd ⟨r21, rfl, hL2, hF⟩
 refine ⟨vb r21, rfl, ?_⟩
 replace hS := (hS.to (hS.mem.keep0 hF)).put (d := 14) (v := vb r21) (by decide)
 clear hF
 have hLg0 := hL2
 refine hS.opsC 1 [0] [0, 1] fun _ => seg [(15, vb (!r21))] [(0, none), (1, none)] [] trivial fun ac wd hS => ?_
 refine list_nil_seq ?_
 refine hS.condC (!r21) (fun hb3o hb3 => ?_) (fun hb3o hb3 => ?_)
 ·
  refine hS.regS [0] [] fun _ => seg [(4, vb true)] [(0, none)] [] trivial fun ac wd hS => ?_
  refine wp_ret ?_
  refine pop_then_ret ?_
  refine St.retC 0 hS (vb true) [] trivial fun hw => ?_
  refine ⟨retd rfl, hw.fr0⟩
 ·
  have hLg := hLg0 (by first | exact hb3 | exact (hb3).1 | (have h9_ := hb3; simp at h9_; exact h9_))
  refine wp_skip ?_
  refine pop_then ?_
  refine hS.regS [0, 20, 20, 0] [1] fun _ => seg [(5, vi (pp % 9))] [(0, none), (1, none)] [.p ((9 : Int) ≠ 0 ∧ Int.tmod pp 9 = pp % 9), .p (fit .i64 pp)] ⟨rem2 (by omega) (by omega), fit_i64 (by omega), trivial⟩ fun ac wd hS => ?_
  obtain ⟨nn, nn_e⟩ : ∃ q_ : Int, q_ = (pp % 9) := ⟨_, rfl⟩
  replace hS := hS.fix 5 (vi nn) (show (vi (pp % 9) : Value) = vi nn by rw [nn_e])
  have hnn : 0 ≤ nn ∧ nn ≤ 8 := by rw [nn_e]; omega
  clear nn_e
  have hcb := capN_le nn
  have hcn : ((capN nn : Nat) : Int) = nn := by unfold capN imax imin; split <;> split <;> omega
  refine wp_region_seq ?_
  refine hS.opsC 1 [0] [1, 5] fun _ => seg [(19, vi nn)] [(0, none), (1, none)] [] trivial fun ac wd hS => ?_
  refine hS.callC 9 #[vi nn] (ar_New nn _  ) ?_
  rintro _ wd ⟨b'4, F5, rfl, hN, hF⟩
  refine ⟨pt b'4 0, rfl, ?_⟩
  replace hS := (hS.to (hS.mem.newA hN hF)).put (d := 20) (v := pt b'4 0) (by decide)
  clear hF
  refine hS.opsC 1 [0] [1, 5, 20] fun _ => seg [(21, vi nn)] [(0, none), (1, none)] [] trivial fun ac wd hS => ?_
  refine hS.callC 10 #[vi nn] (ref03_New nn _  ) ?_
  rintro _ wd ⟨g26, rfl, hog0, hoh0, hF⟩
  have ho7 : w.heap.size ≤ g26 := Nat.le_trans hS.mem.fr.size hog0
  refine ⟨.agg #[sc g26 0 (capN nn) (capN nn), vi (-1)], rfl, ?_⟩
  replace hS := (hS.to (hS.mem.outs hF [(g26, .fn 0 (0 + (capN nn)) (strs (fun _ => ⟨#[]⟩) 0))] ⟨⟨rfl, hoh0, .inr hog0⟩, trivial⟩)).put (d := 22) (v := .agg #[sc g26 0 (capN nn) (capN nn), vi (-1)]) (by decide)
  clear hF
  refine hS.opsC 3 [0, 0, 0] [1, 5] fun ν9 => seg [(6, pt (ν9 0) 0)] [(0, none), (1, none), (2, none), (3, some ((ν9 0), .cells [pt b'4 0, sc g26 0 (capN nn) (capN nn), vi (-1)] 33))] [] trivial fun ac wd hS => ?_
  refine list_nil_seq ?_
  refine wp_seq ?_
  replace hS := hS.to (hS.mem.tellF (b := g26) (lo := 0) (hi := (0 + (capN nn))) (f := (strs (fun _ => ⟨#[]⟩) 0)) 2 (0 + (capN nn)) (strs (pgS (AM.new nn)) 0) rfl (fun x_ _ _ => rfl))
  refine hS.regS [0, 0, 0] [5, 6] fun _ => seg [(25, .slice ao9 l.length c9), (26, vi ((l.length : Nat) : Int)), (27, vi 0)] [(0, none), (1, none), (2, none), (3, none)] [] trivial fun ac wd hS => ?_
  refine wp_block ?_
  refine St.loopC (σ := Int × (Nat → Prop) × AM × Nat × Nat × Nat × Nat) (fun (x : Int × (Nat → Prop) × AM × Nat × Nat × Nat × Nat) => match x with | (x27, Fx, mx, bx, gx, ux, cx) => ⟨[(5, [], vi nn), (6, [], pt (ν9 0) 0), (25, [], .slice ao9 l.length c9), (26, [], vi ((l.length : Nat) : Int)), (27, [], vi x27)], [(0, .fn 0 64 dbT), (g9, .fn o9 (o9 + l.length * 6) (a3V (gtD l) o9)), (gx, .fn ux (ux + (capN nn)) (strs (pgS mx) ux)), ((ν9 0), .cells [pt bx 0, sc gx ux (capN nn) cx, vi (rfA mx)] 33)], [arR bx Fx mx], (0 ≤ x27 ∧ x27 ≤ ((l.length : Nat) : Int)) ∧ (mx.cap = capN nn) ∧ (w.heap.size ≤ gx) ∧ True, l.length - Int.toNat x27⟩) (0, F5, (AM.new nn), b'4, g26, 0, (capN nn)) ⟨(by first | omega | assumption | rfl), (by first | omega | assumption | rfl), (by first | omega | assumption | rfl), trivial⟩ hS ?_
  clear hS
  rintro ⟨x27, Fx, mx, bx, gx, ux, cx⟩ ⟨i0, i1, i3, -⟩ ac wd hS
  replace i0 : 0 ≤ x27 ∧ x27 ≤ ((l.length : Nat) : Int) := i0
  replace i1 : mx.cap = capN nn := i1
  replace i3 : w.heap.size ≤ gx := i3
  refine hS.regS [0] [5, 6, 25, 26, 27] fun _ => seg [(28, vb (decide ((x27 : Int) < ((l.length : Nat) : Int))))] [(0, none), (1, none), (2, none), (3, none)] [] trivial fun ac wd hS => ?_
  refine wp_seq ?_
  refine hS.condC (decide ((x27 : Int) < ((l.length : Nat) : Int))) (fun hb8o hb8 => ?_) (fun hb8o hb8 => ?_)
  ·
   refine wp_skip ?_
   refine pop_then ?_
   refine wp_seq ?_
   refine wp_block ?_
   obtain rfl : ao9 = some ⟨g9, o9, none⟩ := Or.resolve_left hv9 (by omega)
   refine hS.regS [20, fx 100 (.agg #[v8 (((gtD l) (Int.toNat x27)).1), vi (((gtD l) (Int.toNat x27)).2.1), vi (((gtD l) (Int.toNat x27)).2.2.1), vi (((gtD l) (Int.toNat x27)).2.2.2.1), vu (((gtD l) (Int.toNat x27)).2.2.2.2.1), .string (((gtD l) (Int.toNat x27)).2.2.2.2.2)]), 0, 400] [5, 6, 25, 26, 27] fun ν12 => seg [(8, pt (ν12 0) 0)] [(0, none), (1, none), (2, none), (3, none), (4, some ((ν12 0), .cells [v8 (((gtD l) (Int.toNat x27)).1), vi (((gtD l) (Int.toNat x27)).2.1), vi (((gtD l) (Int.toNat x27)).2.2.1), vi (((gtD l) (Int.toNat x27)).2.2.2.1), vu (((gtD l) (Int.toNat x27)).2.2.2.2.1), .string (((gtD l) (Int.toNat x27)).2.2.2.2.2)] 36))] [.e (ν12 0), .e (ν12 0), .e (ν12 0), .e (ν12 0), .e (ν12 0), .e (ν12 0), .p ((.agg #[((a3V (gtD l) o9) (o9 + Int.toNat x27 * 6)), ((a3V (gtD l) o9) (o9 + Int.toNat x27 * 6 + 1)), ((a3V (gtD l) o9) (o9 + Int.toNat x27 * 6 + 2)), ((a3V (gtD l) o9) (o9 + Int.toNat x27 * 6 + 3)), ((a3V (gtD l) o9) (o9 + Int.toNat x27 * 6 + 4)), ((a3V (gtD l) o9) (o9 + Int.toNat x27 * 6 + 5))] : Value) = .agg #[v8 (((gtD l) (Int.toNat x27)).1), vi (((gtD l) (Int.toNat x27)).2.1), vi (((gtD l) (Int.toNat x27)).2.2.1), vi (((gtD l) (Int.toNat x27)).2.2.2.1), vu (((gtD l) (Int.toNat x27)).2.2.2.2.1), .string (((gtD l) (Int.toNat x27)).2.2.2.2.2)]), .e g9, .p (o9 ≤ o9 + Int.toNat x27 * 6 + 5 ∧ o9 + Int.toNat x27 * 6 + 5 < (o9 + l.length * 6)), .e g9, .p (o9 ≤ o9 + Int.toNat x27 * 6 + 4 ∧ o9 + Int.toNat x27 * 6 + 4 < (o9 + l.length * 6)), .e g9, .p (o9 ≤ o9 + Int.toNat x27 * 6 + 3 ∧ o9 + Int.toNat x27 * 6 + 3 < (o9 + l.length * 6)), .e g9, .p (o9 ≤ o9 + Int.toNat x27 * 6 + 2 ∧ o9 + Int.toNat x27 * 6 + 2 < (o9 + l.length * 6)), .e g9, .p (o9 ≤ o9 + Int.toNat x27 * 6 + 1 ∧ o9 + Int.toNat x27 * 6 + 1 < (o9 + l.length * 6)), .e g9, .p (o9 ≤ o9 + Int.toNat x27 * 6 ∧ o9 + Int.toNat x27 * 6 < (o9 + l.length * 6)), .p ((0 : Int) ≤ x27 ∧ (x27 : Int) < ((l.length : Nat) : Int))] ⟨(agg6 (a3V_0 (gtD l) o9 (Int.toNat x27)) (a3V_1 (gtD l) o9 (Int.toNat x27)) (a3V_2 (gtD l) o9 (Int.toNat x27)) (a3V_3 (gtD l) o9 (Int.toNat x27)) (a3V_4 (gtD l) o9 (Int.toNat x27)) (a3V_5 (gtD l) o9 (Int.toNat x27))), (by omega), (by omega), (by omega), (by omega), (by omega), (by omega), (by omega), trivial⟩ fun ac wd hS => ?_
   refine wp_seq ?_
   obtain ⟨kd, kd_e⟩ : ∃ q_ : Int, q_ = ((gtD l) (Int.toNat x27)).1 := ⟨_, rfl⟩
   obtain ⟨ka, ka_e⟩ : ∃ q_ : Int, q_ = ((gtD l) (Int.toNat x27)).2.1 := ⟨_, rfl⟩
   obtain ⟨kf, kf_e⟩ : ∃ q_ : Int, q_ = ((gtD l) (Int.toNat x27)).2.2.1 := ⟨_, rfl⟩
   obtain ⟨kn, kn_e⟩ : ∃ q_ : Int, q_ = ((gtD l) (Int.toNat x27)).2.2.2.1 := ⟨_, rfl⟩
   obtain ⟨kx, kx_e⟩ : ∃ q_ : Int, q_ = ((gtD l) (Int.toNat x27)).2.2.2.2.1 := ⟨_, rfl⟩
   obtain ⟨ks, ks_e⟩ : ∃ q_ : ByteArray, q_ = ((gtD l) (Int.toNat x27)).2.2.2.2.2 := ⟨_, rfl⟩
   replace hS := hS.to (hS.mem.tell 4 (b := (ν12 0)) (x := (.cells [v8 (((gtD l) (Int.toNat x27)).1), vi (((gtD l) (Int.toNat x27)).2.1), vi (((gtD l) (Int.toNat x27)).2.2.1), vi (((gtD l) (Int.toNat x27)).2.2.2.1), vu (((gtD l) (Int.toNat x27)).2.2.2.2.1), .string (((gtD l) (Int.toNat x27)).2.2.2.2.2)] 36)) (.cells [v8 kd, vi ka, vi kf, vi kn, vu kx, .string ks] 36) (hh := fun h_ => by rw [kd_e, ka_e, kf_e, kn_e, kx_e, ks_e]; exact h_))
   have hac := hAl _ (show Int.toNat x27 < l.length by omega)
   have hsz6 := hLg.2 _ (show Int.toNat x27 < l.length by omega)
   unfold rg_a3V at hac
   rw [← kd_e, ← ka_e, ← kf_e, ← kn_e, ← kx_e] at hac
   rw [← ks_e] at hsz6
   clear kd_e ka_e kf_e kn_e kx_e ks_e
   obtain ⟨hac1, hac2, hac3, hac4, hac5, _⟩ := hac
   refine St.ordBeginTS [(0, 1), (1, 1), (2, 0), (3, 1), (4, 1), (5, 1), (6, 1), (7, 1), (10, 1), (11, 1), (12, 1), (8, 0), (9, 0), (13, 0), (14, 0), (15, 1), (16, 1), (17, 1), (18, 1), (19, 1), (20, 1), (23, 1), (24, 1), (25, 1), (21, 0), (22, 0), (26, 0), (27, 0), (28, 1), (29, 1)] (.two [(0, 1), (1, 1), (2, 0), (3, 1), (4, 1), (5, 1), (6, 1), (7, 1), (10, 1), (11, 1), (12, 1)] 8 (.two [] 9 (.two [(13, 0), (14, 0), (15, 1), (16, 1), (17, 1), (18, 1), (19, 1), (20, 1), (23, 1), (24, 1), (25, 1)] 21 (.two [] 22 (.lin [(26, 0), (27, 0), (28, 1), (29, 1)]) 26 (.lin [(22, 0), (27, 0), (28, 1), (29, 1)])) 26 (.lin [(21, 0), (22, 0), (27, 0), (28, 1), (29, 1)])) 13 (.two [(9, 0), (14, 0), (15, 1), (16, 1), (17, 1), (18, 1), (19, 1), (20, 1), (23, 1), (24, 1), (25, 1)] 21 (.two [] 22 (.lin [(26, 0), (27, 0), (28, 1), (29, 1)]) 26 (.lin [(22, 0), (27, 0), (28, 1), (29, 1)])) 26 (.lin [(21, 0), (22, 0), (27, 0), (28, 1), (29, 1)]))) 13 (.two [(8, 0), (9, 0), (14, 0), (15, 1), (16, 1), (17, 1), (18, 1), (19, 1), (20, 1), (23, 1), (24, 1), (25, 1)] 21 (.two [] 22 (.lin [(26, 0), (27, 0), (28, 1), (29, 1)]) 26 (.lin [(22, 0), (27, 0), (28, 1), (29, 1)])) 26 (.lin [(21, 0), (22, 0), (27, 0), (28, 1), (29, 1)]))) [(0, .fn 0 64 dbT), (g9, .fn o9 (o9 + l.length * 6) (a3V (gtD l) o9)), (gx, .fn ux (ux + (capN nn)) (strs (pgS mx) ux)), ((ν12 0), .cells [v8 kd, vi ka, vi kf, vi kn, vu kx, .string ks] 36)] [0, 1, 2, 4] hS fun wd hS => ?_
   have hap := hS.mem.pairs (Hf := [(0, .fn 0 64 dbT), (g9, .fn o9 (o9 + l.length * 6) (a3V (gtD l) o9)), (gx, .fn ux (ux + (capN nn)) (strs (pgS mx) ux)), ((ν12 0), .cells [v8 kd, vi ka, vi kf, vi kn, vu kx, .string ks] 36)]) (l := [0, 1, 2, 4])
   refine wpT_two ?_
   refine St.ordF [0, 300] [0, 1] [5, 6, 25, 26, 27] (rest := [(2, 0), (3, 1), (4, 1), (5, 1), (6, 1), (7, 1), (10, 1), (11, 1), (12, 1)]) hS hap <| segF [(31, pt (ν9 0) 0), (32, .agg #[v8 kd, vi ka, vi kf, vi kn, vu kx, .string ks])] [.e (ν12 0), .e (ν12 0), .e (ν12 0), .e (ν12 0), .e (ν12 0), .e (ν12 0)] trivial fun ac hS => ?_
   refine hS.ordC 2 11 #[pt (ν9 0) 0, .agg #[v8 kd, vi ka, vi kf, vi kn, vu kx, .string ks]] (law03_do bx Fx mx (ν9 0) kd ka kf kn kx ks gx ux (capN nn) cx _ (hS.mem.res 0) (hS.mem.get 3 (ν9 0) (.cells [pt bx 0, sc gx ux (capN nn) cx, vi (rfA mx)] 33)) (hS.mem.get 2 gx (.fn ux (ux + (capN nn)) (strs (pgS mx) ux))) (hS.mem.nF (g := gx) (r := arR bx Fx mx) 2 0) (hS.mem.nF (g := (ν9 0)) (r := arR bx Fx mx) 3 0) (hS.mem.neq 2 3) (by exact i1) (by exact hcb) (by exact ⟨hac1, hac2, hac3, hac4, hac5, hsz6⟩)) ?_
   rintro _ wd ⟨b29, m210, g211, u212, cp213, F14, rfl, hV15, hA, hWn, hM, hog0, hoh0, hnf0, hF⟩
   have ho16 : w.heap.size ≤ g211 := by rcases hog0 with hx | hx; rw [hx]; exact i3; exact Nat.le_trans hS.mem.fr.size hx
   refine ⟨vb true, rfl, ?_⟩
   replace hS := (hS.to (hS.mem.outAM 0 3 rfl hA (show _ = some ((ν9 0), .cells [pt bx 0, sc gx ux (capN nn) cx, vi (rfA mx)] 33) by as_aux_lemma => kernel_rfl) rfl rfl hM hWn hF (g := g211) (z := .fn u212 (u212 + (capN nn)) (strs (pgS m210) u212)) rfl hoh0 (hog0.imp (fun e => ⟨2, .fn ux (ux + (capN nn)) (strs (pgS mx) ux), by rw [e]; rfl, rfl⟩) id) hnf0)).put (d := 33) (v := vb true) (by decide)
   clear hF
   have hVc := hV15.trans i1
   refine hS.ordV (l := [0, 1, 2, 4]) ?_
   refine St.ordF [0, 0] [3, 4] [5, 6, 25, 26, 27] (rest := [(5, 1), (6, 1), (7, 1), (10, 1), (11, 1), (12, 1)]) hS hap <| segF [(35, vb false)] [] trivial fun ac hS => ?_
   refine St.ordF [1, 1, 1, 1, 1, 1] [5, 6, 7, 10, 11, 12] [5, 6, 25, 26, 27, 35] (rest := []) hS hap <| segF [(38, pt (ν9 0) 0), (43, pt (ν9 0) 1)] [.t false, .t false, .t false, .t false, .t false, .t false] trivial fun ac hS => ?_
   refine ord_nil ?_
   refine ⟨?_, ?_⟩
   ·
    refine St.ord1 8 [301] [5, 6, 25, 26, 27, 35, 43] [0, 1, 2, 4] hS rfl fun _ => seg [(39, pt b29 0)] [(0, none), (1, none), (2, none), (3, none), (4, none), (5, none)] [.t false, .e (ν9 0)] trivial ⟨by as_aux_lemma => kernel_rfl, fun ac wd hS => ?_⟩
    refine ord_nil ?_
    refine wpT_two ?_
    refine ord_nil ?_
    refine ⟨?_, ?_⟩
    ·
     refine hS.ordCG 9 false 12 #[pt b29 0] (ar_Committed b29 F14 m210 _ (hS.mem.res 0) ) ?_
     rintro _ wd ⟨rfl, hF⟩
     refine ⟨vi ((countTo m210.com m210.cap : Nat) : Int), rfl, ?_⟩
     replace hS := (hS.to (hS.mem.keep0 hF)).put (d := 40) (v := vi ((countTo m210.com m210.cap : Nat) : Int)) (by decide)
     clear hF
     refine hS.ordV (l := [0, 1, 2, 4]) ?_
     refine ord_nil ?_
     refine wpT_two ?_
     refine St.ord1 13 [301] [5, 6, 25, 26, 27, 35, 40] [0, 1, 2, 4] hS rfl fun _ => seg [(44, .agg #[sc g211 u212 (capN nn) cp213, vi (rfA m210)])] [(0, none), (1, none), (2, none), (3, none), (4, none), (5, none)] [.t false, .e (ν9 0), .e (ν9 0)] trivial ⟨by as_aux_lemma => kernel_rfl, fun ac wd hS => ?_⟩
     refine hS.ordCG 14 false 13 #[.agg #[sc g211 u212 (capN nn) cp213, vi (rfA m210)]] (ref03_CommittedM g211 u212 (capN nn) cp213 (rfA m210) m210 _ (hS.mem.get 5 g211 (.fn u212 (u212 + (capN nn)) (strs (pgS m210) u212))) (by exact hVc) (by exact hcb)) ?_
     rintro _ wd ⟨rfl, hF⟩
     refine ⟨vi ((countTo m210.com (capN nn) : Nat) : Int), rfl, ?_⟩
     replace hS := (hS.to (hS.mem.keep0 hF)).put (d := 45) (v := vi ((countTo m210.com (capN nn) : Nat) : Int)) (by decide)
     clear hF
     refine hS.ordV (l := [0, 1, 2, 4]) ?_
     refine St.ordF [fx 1 (vb false), 60, 0] [15, 16, 17] [5, 6, 25, 26, 27] (rest := [(18, 1), (19, 1), (20, 1), (23, 1), (24, 1), (25, 1)]) hS hap <| segF [(48, vb false)] [.t false, .t false, .p ((vb ((((countTo m210.com m210.cap : Nat) : Int) : Int) != ((countTo m210.com (capN nn) : Nat) : Int)) : Value) = vb false)] ⟨(congrArg Value.bool (by (rw [hVc]; exact bne_self_eq_false _))), trivial⟩ fun ac hS => ?_
     refine St.ordF [1, 1, 1, 1, 1, 1] [18, 19, 20, 23, 24, 25] [5, 6, 25, 26, 27, 48] (rest := []) hS hap <| segF [(51, pt (ν9 0) 0), (56, pt (ν9 0) 1)] [.t false, .t false, .t false, .t false, .t false, .t false] trivial fun ac hS => ?_
     refine ord_nil ?_
     refine ⟨?_, ?_⟩
     ·
      refine St.ord1 21 [301] [5, 6, 25, 26, 27, 48, 56] [0, 1, 2, 4] hS rfl fun _ => seg [(52, pt b29 0)] [(0, none), (1, none), (2, none), (3, none), (4, none), (5, none)] [.t false, .e (ν9 0)] trivial ⟨by as_aux_lemma => kernel_rfl, fun ac wd hS => ?_⟩
      refine ord_nil ?_
      refine wpT_two ?_
      refine ord_nil ?_
      refine ⟨?_, ?_⟩
      ·
       refine hS.ordCG 22 false 15 #[pt b29 0] (l03_Of b29 F14 m210 _ (hS.mem.res 0) ) ?_
       rintro _ wd ⟨g217, rfl, hog0, hoh0, hF⟩
       have ho18 : w.heap.size ≤ g217 := Nat.le_trans hS.mem.fr.size hog0
       refine ⟨.agg #[sc g217 0 m210.cap m210.cap, vi (-1)], rfl, ?_⟩
       replace hS := (hS.to (hS.mem.outs hF [(g217, .fn 0 (0 + m210.cap) (strs (pgS m210) 0))] ⟨⟨rfl, hoh0, .inr hog0⟩, trivial⟩)).put (d := 53) (v := .agg #[sc g217 0 m210.cap m210.cap, vi (-1)]) (by decide)
       clear hF
       refine hS.ordV (l := [0, 1, 2, 4]) ?_
       refine ord_nil ?_
       refine wpT_lin ?_
       refine St.ord1 26 [301] [5, 6, 25, 26, 27, 48, 53] [0, 1, 2, 4] hS rfl fun _ => seg [(57, .agg #[sc g211 u212 (capN nn) cp213, vi (rfA m210)])] [(0, none), (1, none), (2, none), (3, none), (4, none), (5, none), (6, none)] [.t false, .e (ν9 0), .e (ν9 0)] trivial ⟨by as_aux_lemma => kernel_rfl, fun ac wd hS => ?_⟩
       refine hS.ordCG 27 false 14 #[.agg #[sc g217 0 m210.cap m210.cap, vi (-1)], .agg #[sc g211 u212 (capN nn) cp213, vi (rfA m210)]] (ref03_Same g217 0 m210.cap m210.cap (-1) g211 u212 (capN nn) cp213 (rfA m210) (pgS m210) (pgS m210) _ (hS.mem.get 6 g217 (.fn 0 (0 + m210.cap) (strs (pgS m210) 0))) (hS.mem.get 5 g211 (.fn u212 (u212 + (capN nn)) (strs (pgS m210) u212))) (by omega) (by omega)) ?_
       rintro _ wd ⟨rfl, hF⟩
       refine ⟨vb (sameA (pgS m210) (pgS m210) m210.cap (capN nn)), rfl, ?_⟩
       replace hS := (hS.to (hS.mem.keep0 hF)).put (d := 58) (v := vb (sameA (pgS m210) (pgS m210) m210.cap (capN nn))) (by decide)
       clear hF
       refine hS.ordV (l := [0, 1, 2, 4]) ?_
       refine St.ordF [1, 60] [28, 29] [5, 6, 25, 26, 27] (rest := []) hS hap <| segF [(60, vb (!(sameA (pgS m210) (pgS m210) m210.cap (capN nn))))] [.t false, .t false] trivial fun ac hS => ?_
       refine ord_nil ?_
       refine hS.condK (!(sameA (pgS m210) (pgS m210) m210.cap (capN nn))) false (by (rw [sameA_self _ hVc]; rfl)) ?_
       show Code.wp _ _ _ _ _
       refine wp_skip ?_
       refine pop_then ?_
       obtain ⟨d9, hS9⟩ := WS.toD hS.mem
       replace hS := hS.to hS9
       refine wp_region_seq ?_
       refine hS.opsC 4 [0, 0, 0, 300] [5, 6, 25, 26, 27] fun _ => seg [(65, pt b29 0)] [(0, none), (1, none), (3, none), (5, none)] [.e (ν9 0)] trivial fun ac wd hS => ?_
       refine hS.call0 16 #[pt b29 0] 66 (ar_PagesD b29 F14 (m210, d9) _ (hS.mem.res 0) ) fun ac wd hS => ?_
       refine hS.opsC 1 [0] [5, 6, 25, 26, 27, 66] fun _ => seg [(67, vi nn)] [(0, none), (1, none), (2, none), (3, none)] [] trivial fun ac wd hS => ?_
       refine hS.call0 17 #[.agg #[vi (((m210, d9).1.cap : Nat) : Int), sc ((m210, d9).2.bw) ((m210, d9).2.ow) ((m210, d9).2.nw) ((m210, d9).2.cw)], vi 0, vi nn] 68 (bits_CountD b29 F14 (m210, d9) 0 nn _ (hS.mem.res 0) ) fun ac wd hS => ?_
       refine hS.opsC 5 [0, 0, 0, 0, 0] [5, 6, 25, 26, 27] fun _ => seg [(9, vi (cntV (m210, d9).1.com (m210, d9).1.cap 0 nn)), (10, vi (trnE (m210, d9).1.cap 0 nn))] [(0, none), (1, none), (2, none), (3, none)] [] trivial fun ac wd hS => ?_
       refine list_nil_seq ?_
       replace hS := hS.to (WS.ofD hS.mem)
       refine wp_region_seq ?_
       refine hS.opsC 3 [0, fx 0 (vb false), 0] [5, 6, 9, 25, 26, 27] fun _ => seg [(73, vb false)] [(0, none), (1, none), (2, none), (3, none)] [.p ((vb (((trnE (m210, d9).1.cap 0 nn) : Int) != 0) : Value) = vb false)] ⟨(congrArg Value.bool (by exact trn_ne hVc hcn.symm)), trivial⟩ fun ac wd hS => ?_
       refine hS.opsC 5 [1, 1, 1, 1, 201] [5, 6, 25, 26, 27, 73] fun _ => seg [(74, vi (cntV (m210, d9).1.com (m210, d9).1.cap 0 nn)), (78, .agg #[sc g211 u212 (capN nn) cp213, vi (rfA m210)])] [(0, none), (1, none), (2, none), (3, none)] [.t false, .e (ν9 0), .e (ν9 0), .t false, .t false, .t false, .t false] trivial fun ac wd hS => ?_
       refine hS.callG false 13 #[.agg #[sc g211 u212 (capN nn) cp213, vi (rfA m210)]] (ref03_CommittedM g211 u212 (capN nn) cp213 (rfA m210) m210 _ (hS.mem.get 3 g211 (.fn u212 (u212 + (capN nn)) (strs (pgS m210) u212))) (by exact hVc) (by exact hcb)) ?_
       rintro _ wd ⟨rfl, hF⟩
       refine ⟨vi ((countTo m210.com (capN nn) : Nat) : Int), rfl, ?_⟩
       replace hS := (hS.to (hS.mem.keep0 hF)).put (d := 79) (v := vi ((countTo m210.com (capN nn) : Nat) : Int)) (by decide)
       clear hF
       refine hS.opsC 3 [fx 1 (vb false), 60, 0] [5, 6, 25, 26, 27] fun _ => seg [(82, vb false)] [(0, none), (1, none), (2, none), (3, none)] [.t false, .t false, .p ((vb (((cntV (m210, d9).1.com (m210, d9).1.cap 0 nn) : Int) != ((countTo m210.com (capN nn) : Nat) : Int)) : Value) = vb false)] ⟨(congrArg Value.bool (by exact count_ne hVc hcn.symm)), trivial⟩ fun ac wd hS => ?_
       refine hS.opsC 5 [1, 1, 1, 201, 1] [5, 6, 25, 26, 27, 82] fun _ => seg [(86, pt b29 0), (87, vi nn)] [(0, none), (1, none), (2, none), (3, none)] [.t false, .t false, .e (ν9 0), .t false, .t false, .t false] trivial fun ac wd hS => ?_
       refine hS.callG false 18 #[pt b29 0, vi nn] (ar_Has b29 F14 m210 nn _ (hS.mem.res 0) ) ?_
       rintro _ wd ⟨rfl, hF⟩
       refine ⟨vb (hasV m210.com m210.cap nn), rfl, ?_⟩
       replace hS := (hS.to (hS.mem.keep0 hF)).put (d := 88) (v := vb (hasV m210.com m210.cap nn)) (by decide)
       clear hF
       refine hS.opsC 2 [60, 0] [5, 6, 25, 26, 27] fun _ => seg [(90, vb (hasV m210.com m210.cap nn))] [(0, none), (1, none), (2, none), (3, none)] [.t false] trivial fun ac wd hS => ?_
       have hg19o : (hasV m210.com m210.cap nn) = false := by exact has_out _ _ (by omega)
       replace hS := hS.fix 90 (vb false) (congrArg Value.bool hg19o)
       refine hS.opsC 4 [1, 1, 1, 201] [5, 6, 25, 26, 27, 90] fun _ => seg [(94, pt b29 0)] [(0, none), (1, none), (2, none), (3, none)] [.t false, .e (ν9 0), .t false, .t false, .t false] trivial fun ac wd hS => ?_
       refine hS.callG false 18 #[pt b29 0, vi (-1)] (ar_Has b29 F14 m210 (-1) _ (hS.mem.res 0) ) ?_
       rintro _ wd ⟨rfl, hF⟩
       refine ⟨vb (hasV m210.com m210.cap (-1)), rfl, ?_⟩
       replace hS := (hS.to (hS.mem.keep0 hF)).put (d := 95) (v := vb (hasV m210.com m210.cap (-1))) (by decide)
       clear hF
       refine hS.opsC 1 [60] [5, 6, 25, 26, 27] fun _ => seg [(96, vb (hasV m210.com m210.cap (-1)))] [(0, none), (1, none), (2, none), (3, none)] [.t false] trivial fun ac wd hS => ?_
       refine list_nil_seq ?_
       refine hS.condK (hasV m210.com m210.cap (-1)) false (by exact has_out _ _ (by omega)) ?_
       show Code.wp _ _ _ _ _
       refine wp_skip ?_
       refine pop_block ?_
       refine pop_then ?_
       refine hS.regC [20, 0] [5, 6, 25, 26] fun _ => seg [(27, vi (x27 + 1))] [(0, none), (1, none), (2, none), (3, none)] [.p (fit .i64 (x27 + 1))] ⟨fit_i64 (by omega), trivial⟩ fun ac wd hS => ?_
       replace hS := hS.to (hS.mem.perm [0, 1, 3, 2] (H' := [(0, .fn 0 64 dbT), (g9, .fn o9 (o9 + l.length * 6) (a3V (gtD l) o9)), (g211, .fn u212 (u212 + (capN nn)) (strs (pgS m210) u212)), ((ν9 0), .cells [pt b29 0, sc g211 u212 (capN nn) cp213, vi (rfA m210)] 33)]) (by as_aux_lemma => kernel_rfl) (by decide))
       exact pop_then (hS.next ((x27 + 1), F14, m210, b29, g211, u212, cp213) ⟨(by first | omega | assumption | (simp; done) | (simp; omega)), (by first | omega | assumption | (simp; done) | (simp; omega)), (by first | omega | assumption | (simp; done) | (simp; omega)), trivial⟩ (by dsimp only; omega))
      ·
       refine St.ord1 26 [301] [5, 6, 25, 26, 27, 48, 52] [0, 1, 2, 4] hS rfl fun _ => seg [(57, .agg #[sc g211 u212 (capN nn) cp213, vi (rfA m210)])] [(0, none), (1, none), (2, none), (3, none), (4, none), (5, none)] [.t false, .e (ν9 0), .e (ν9 0)] trivial ⟨by as_aux_lemma => kernel_rfl, fun ac wd hS => ?_⟩
       refine ord_nil ?_
       refine wpT_lin ?_
       refine hS.ordCG 22 false 15 #[pt b29 0] (l03_Of b29 F14 m210 _ (hS.mem.res 0) ) ?_
       rintro _ wd ⟨g220, rfl, hog0, hoh0, hF⟩
       have ho21 : w.heap.size ≤ g220 := Nat.le_trans hS.mem.fr.size hog0
       refine ⟨.agg #[sc g220 0 m210.cap m210.cap, vi (-1)], rfl, ?_⟩
       replace hS := (hS.to (hS.mem.outs hF [(g220, .fn 0 (0 + m210.cap) (strs (pgS m210) 0))] ⟨⟨rfl, hoh0, .inr hog0⟩, trivial⟩)).put (d := 53) (v := .agg #[sc g220 0 m210.cap m210.cap, vi (-1)]) (by decide)
       clear hF
       refine hS.ordV (l := [0, 1, 2, 4]) ?_
       refine hS.ordCG 27 false 14 #[.agg #[sc g220 0 m210.cap m210.cap, vi (-1)], .agg #[sc g211 u212 (capN nn) cp213, vi (rfA m210)]] (ref03_Same g220 0 m210.cap m210.cap (-1) g211 u212 (capN nn) cp213 (rfA m210) (pgS m210) (pgS m210) _ (hS.mem.get 6 g220 (.fn 0 (0 + m210.cap) (strs (pgS m210) 0))) (hS.mem.get 5 g211 (.fn u212 (u212 + (capN nn)) (strs (pgS m210) u212))) (by omega) (by omega)) ?_
       rintro _ wd ⟨rfl, hF⟩
       refine ⟨vb (sameA (pgS m210) (pgS m210) m210.cap (capN nn)), rfl, ?_⟩
       replace hS := (hS.to (hS.mem.keep0 hF)).put (d := 58) (v := vb (sameA (pgS m210) (pgS m210) m210.cap (capN nn))) (by decide)
       clear hF
       refine hS.ordV (l := [0, 1, 2, 4]) ?_
       refine St.ordF [1, 60] [28, 29] [5, 6, 25, 26, 27] (rest := []) hS hap <| segF [(60, vb (!(sameA (pgS m210) (pgS m210) m210.cap (capN nn))))] [.t false, .t false] trivial fun ac hS => ?_
       refine ord_nil ?_
       refine hS.condK (!(sameA (pgS m210) (pgS m210) m210.cap (capN nn))) false (by (rw [sameA_self _ hVc]; rfl)) ?_
       show Code.wp _ _ _ _ _
       refine wp_skip ?_
       refine pop_then ?_
       obtain ⟨d9, hS9⟩ := WS.toD hS.mem
       replace hS := hS.to hS9
       refine wp_region_seq ?_
       refine hS.opsC 4 [0, 0, 0, 300] [5, 6, 25, 26, 27] fun _ => seg [(65, pt b29 0)] [(0, none), (1, none), (3, none), (5, none)] [.e (ν9 0)] trivial fun ac wd hS => ?_
       refine hS.call0 16 #[pt b29 0] 66 (ar_PagesD b29 F14 (m210, d9) _ (hS.mem.res 0) ) fun ac wd hS => ?_
       refine hS.opsC 1 [0] [5, 6, 25, 26, 27, 66] fun _ => seg [(67, vi nn)] [(0, none), (1, none), (2, none), (3, none)] [] trivial fun ac wd hS => ?_
       refine hS.call0 17 #[.agg #[vi (((m210, d9).1.cap : Nat) : Int), sc ((m210, d9).2.bw) ((m210, d9).2.ow) ((m210, d9).2.nw) ((m210, d9).2.cw)], vi 0, vi nn] 68 (bits_CountD b29 F14 (m210, d9) 0 nn _ (hS.mem.res 0) ) fun ac wd hS => ?_
       refine hS.opsC 5 [0, 0, 0, 0, 0] [5, 6, 25, 26, 27] fun _ => seg [(9, vi (cntV (m210, d9).1.com (m210, d9).1.cap 0 nn)), (10, vi (trnE (m210, d9).1.cap 0 nn))] [(0, none), (1, none), (2, none), (3, none)] [] trivial fun ac wd hS => ?_
       refine list_nil_seq ?_
       replace hS := hS.to (WS.ofD hS.mem)
       refine wp_region_seq ?_
       refine hS.opsC 3 [0, fx 0 (vb false), 0] [5, 6, 9, 25, 26, 27] fun _ => seg [(73, vb false)] [(0, none), (1, none), (2, none), (3, none)] [.p ((vb (((trnE (m210, d9).1.cap 0 nn) : Int) != 0) : Value) = vb false)] ⟨(congrArg Value.bool (by exact trn_ne hVc hcn.symm)), trivial⟩ fun ac wd hS => ?_
       refine hS.opsC 5 [1, 1, 1, 1, 201] [5, 6, 25, 26, 27, 73] fun _ => seg [(74, vi (cntV (m210, d9).1.com (m210, d9).1.cap 0 nn)), (78, .agg #[sc g211 u212 (capN nn) cp213, vi (rfA m210)])] [(0, none), (1, none), (2, none), (3, none)] [.t false, .e (ν9 0), .e (ν9 0), .t false, .t false, .t false, .t false] trivial fun ac wd hS => ?_
       refine hS.callG false 13 #[.agg #[sc g211 u212 (capN nn) cp213, vi (rfA m210)]] (ref03_CommittedM g211 u212 (capN nn) cp213 (rfA m210) m210 _ (hS.mem.get 3 g211 (.fn u212 (u212 + (capN nn)) (strs (pgS m210) u212))) (by exact hVc) (by exact hcb)) ?_
       rintro _ wd ⟨rfl, hF⟩
       refine ⟨vi ((countTo m210.com (capN nn) : Nat) : Int), rfl, ?_⟩
       replace hS := (hS.to (hS.mem.keep0 hF)).put (d := 79) (v := vi ((countTo m210.com (capN nn) : Nat) : Int)) (by decide)
       clear hF
       refine hS.opsC 3 [fx 1 (vb false), 60, 0] [5, 6, 25, 26, 27] fun _ => seg [(82, vb false)] [(0, none), (1, none), (2, none), (3, none)] [.t false, .t false, .p ((vb (((cntV (m210, d9).1.com (m210, d9).1.cap 0 nn) : Int) != ((countTo m210.com (capN nn) : Nat) : Int)) : Value) = vb false)] ⟨(congrArg Value.bool (by exact count_ne hVc hcn.symm)), trivial⟩ fun ac wd hS => ?_
       refine hS.opsC 5 [1, 1, 1, 201, 1] [5, 6, 25, 26, 27, 82] fun _ => seg [(86, pt b29 0), (87, vi nn)] [(0, none), (1, none), (2, none), (3, none)] [.t false, .t false, .e (ν9 0), .t false, .t false, .t false] trivial fun ac wd hS => ?_
       refine hS.callG false 18 #[pt b29 0, vi nn] (ar_Has b29 F14 m210 nn _ (hS.mem.res 0) ) ?_
       rintro _ wd ⟨rfl, hF⟩
       refine ⟨vb (hasV m210.com m210.cap nn), rfl, ?_⟩
       replace hS := (hS.to (hS.mem.keep0 hF)).put (d := 88) (v := vb (hasV m210.com m210.cap nn)) (by decide)
       clear hF
       refine hS.opsC 2 [60, 0] [5, 6, 25, 26, 27] fun _ => seg [(90, vb (hasV m210.com m210.cap nn))] [(0, none), (1, none), (2, none), (3, none)] [.t false] trivial fun ac wd hS => ?_
       have hg22o : (hasV m210.com m210.cap nn) = false := by exact has_out _ _ (by omega)
       replace hS := hS.fix 90 (vb false) (congrArg Value.bool hg22o)
       refine hS.opsC 4 [1, 1, 1, 201] [5, 6, 25, 26, 27, 90] fun _ => seg [(94, pt b29 0)] [(0, none), (1, none), (2, none), (3, none)] [.t false, .e (ν9 0), .t false, .t false, .t false] trivial fun ac wd hS => ?_
       refine hS.callG false 18 #[pt b29 0, vi (-1)] (ar_Has b29 F14 m210 (-1) _ (hS.mem.res 0) ) ?_
       rintro _ wd ⟨rfl, hF⟩
       refine ⟨vb (hasV m210.com m210.cap (-1)), rfl, ?_⟩
       replace hS := (hS.to (hS.mem.keep0 hF)).put (d := 95) (v := vb (hasV m210.com m210.cap (-1))) (by decide)
       clear hF
       refine hS.opsC 1 [60] [5, 6, 25, 26, 27] fun _ => seg [(96, vb (hasV m210.com m210.cap (-1)))] [(0, none), (1, none), (2, none), (3, none)] [.t false] trivial fun ac wd hS => ?_
       refine list_nil_seq ?_
       refine hS.condK (hasV m210.com m210.cap (-1)) false (by exact has_out _ _ (by omega)) ?_
       show Code.wp _ _ _ _ _
       refine wp_skip ?_
       refine pop_block ?_
       refine pop_then ?_
       refine hS.regC [20, 0] [5, 6, 25, 26] fun _ => seg [(27, vi (x27 + 1))] [(0, none), (1, none), (2, none), (3, none)] [.p (fit .i64 (x27 + 1))] ⟨fit_i64 (by omega), trivial⟩ fun ac wd hS => ?_
       replace hS := hS.to (hS.mem.perm [0, 1, 3, 2] (H' := [(0, .fn 0 64 dbT), (g9, .fn o9 (o9 + l.length * 6) (a3V (gtD l) o9)), (g211, .fn u212 (u212 + (capN nn)) (strs (pgS m210) u212)), ((ν9 0), .cells [pt b29 0, sc g211 u212 (capN nn) cp213, vi (rfA m210)] 33)]) (by as_aux_lemma => kernel_rfl) (by decide))
       exact pop_then (hS.next ((x27 + 1), F14, m210, b29, g211, u212, cp213) ⟨(by first | omega | assumption | (simp; done) | (simp; omega)), (by first | omega | assumption | (simp; done) | (simp; omega)), (by first | omega | assumption | (simp; done) | (simp; omega)), trivial⟩ (by dsimp only; omega))
     ·
      refine St.ord1 26 [301] [5, 6, 25, 26, 27, 48, 51] [0, 1, 2, 4] hS rfl fun _ => seg [(57, .agg #[sc g211 u212 (capN nn) cp213, vi (rfA m210)])] [(0, none), (1, none), (2, none), (3, none), (4, none), (5, none)] [.t false, .e (ν9 0), .e (ν9 0)] trivial ⟨by as_aux_lemma => kernel_rfl, fun ac wd hS => ?_⟩
      refine ord_nil ?_
      refine wpT_lin ?_
      refine St.ord1 21 [301] [5, 6, 25, 26, 27, 48, 57] [0, 1, 2, 4] hS rfl fun _ => seg [(52, pt b29 0)] [(0, none), (1, none), (2, none), (3, none), (4, none), (5, none)] [.t false, .e (ν9 0)] trivial ⟨by as_aux_lemma => kernel_rfl, fun ac wd hS => ?_⟩
      refine hS.ordCG 22 false 15 #[pt b29 0] (l03_Of b29 F14 m210 _ (hS.mem.res 0) ) ?_
      rintro _ wd ⟨g223, rfl, hog0, hoh0, hF⟩
      have ho24 : w.heap.size ≤ g223 := Nat.le_trans hS.mem.fr.size hog0
      refine ⟨.agg #[sc g223 0 m210.cap m210.cap, vi (-1)], rfl, ?_⟩
      replace hS := (hS.to (hS.mem.outs hF [(g223, .fn 0 (0 + m210.cap) (strs (pgS m210) 0))] ⟨⟨rfl, hoh0, .inr hog0⟩, trivial⟩)).put (d := 53) (v := .agg #[sc g223 0 m210.cap m210.cap, vi (-1)]) (by decide)
      clear hF
      refine hS.ordV (l := [0, 1, 2, 4]) ?_
      refine hS.ordCG 27 false 14 #[.agg #[sc g223 0 m210.cap m210.cap, vi (-1)], .agg #[sc g211 u212 (capN nn) cp213, vi (rfA m210)]] (ref03_Same g223 0 m210.cap m210.cap (-1) g211 u212 (capN nn) cp213 (rfA m210) (pgS m210) (pgS m210) _ (hS.mem.get 6 g223 (.fn 0 (0 + m210.cap) (strs (pgS m210) 0))) (hS.mem.get 5 g211 (.fn u212 (u212 + (capN nn)) (strs (pgS m210) u212))) (by omega) (by omega)) ?_
      rintro _ wd ⟨rfl, hF⟩
      refine ⟨vb (sameA (pgS m210) (pgS m210) m210.cap (capN nn)), rfl, ?_⟩
      replace hS := (hS.to (hS.mem.keep0 hF)).put (d := 58) (v := vb (sameA (pgS m210) (pgS m210) m210.cap (capN nn))) (by decide)
      clear hF
      refine hS.ordV (l := [0, 1, 2, 4]) ?_
      refine St.ordF [1, 60] [28, 29] [5, 6, 25, 26, 27] (rest := []) hS hap <| segF [(60, vb (!(sameA (pgS m210) (pgS m210) m210.cap (capN nn))))] [.t false, .t false] trivial fun ac hS => ?_
      refine ord_nil ?_
      refine hS.condK (!(sameA (pgS m210) (pgS m210) m210.cap (capN nn))) false (by (rw [sameA_self _ hVc]; rfl)) ?_
      show Code.wp _ _ _ _ _
      refine wp_skip ?_
      refine pop_then ?_
      obtain ⟨d9, hS9⟩ := WS.toD hS.mem
      replace hS := hS.to hS9
      refine wp_region_seq ?_
      refine hS.opsC 4 [0, 0, 0, 300] [5, 6, 25, 26, 27] fun _ => seg [(65, pt b29 0)] [(0, none), (1, none), (3, none), (5, none)] [.e (ν9 0)] trivial fun ac wd hS => ?_
      refine hS.call0 16 #[pt b29 0] 66 (ar_PagesD b29 F14 (m210, d9) _ (hS.mem.res 0) ) fun ac wd hS => ?_
      refine hS.opsC 1 [0] [5, 6, 25, 26, 27, 66] fun _ => seg [(67, vi nn)] [(0, none), (1, none), (2, none), (3, none)] [] trivial fun ac wd hS => ?_
      refine hS.call0 17 #[.agg #[vi (((m210, d9).1.cap : Nat) : Int), sc ((m210, d9).2.bw) ((m210, d9).2.ow) ((m210, d9).2.nw) ((m210, d9).2.cw)], vi 0, vi nn] 68 (bits_CountD b29 F14 (m210, d9) 0 nn _ (hS.mem.res 0) ) fun ac wd hS => ?_
      refine hS.opsC 5 [0, 0, 0, 0, 0] [5, 6, 25, 26, 27] fun _ => seg [(9, vi (cntV (m210, d9).1.com (m210, d9).1.cap 0 nn)), (10, vi (trnE (m210, d9).1.cap 0 nn))] [(0, none), (1, none), (2, none), (3, none)] [] trivial fun ac wd hS => ?_
      refine list_nil_seq ?_
      replace hS := hS.to (WS.ofD hS.mem)
      refine wp_region_seq ?_
      refine hS.opsC 3 [0, fx 0 (vb false), 0] [5, 6, 9, 25, 26, 27] fun _ => seg [(73, vb false)] [(0, none), (1, none), (2, none), (3, none)] [.p ((vb (((trnE (m210, d9).1.cap 0 nn) : Int) != 0) : Value) = vb false)] ⟨(congrArg Value.bool (by exact trn_ne hVc hcn.symm)), trivial⟩ fun ac wd hS => ?_
      refine hS.opsC 5 [1, 1, 1, 1, 201] [5, 6, 25, 26, 27, 73] fun _ => seg [(74, vi (cntV (m210, d9).1.com (m210, d9).1.cap 0 nn)), (78, .agg #[sc g211 u212 (capN nn) cp213, vi (rfA m210)])] [(0, none), (1, none), (2, none), (3, none)] [.t false, .e (ν9 0), .e (ν9 0), .t false, .t false, .t false, .t false] trivial fun ac wd hS => ?_
      refine hS.callG false 13 #[.agg #[sc g211 u212 (capN nn) cp213, vi (rfA m210)]] (ref03_CommittedM g211 u212 (capN nn) cp213 (rfA m210) m210 _ (hS.mem.get 3 g211 (.fn u212 (u212 + (capN nn)) (strs (pgS m210) u212))) (by exact hVc) (by exact hcb)) ?_
      rintro _ wd ⟨rfl, hF⟩
      refine ⟨vi ((countTo m210.com (capN nn) : Nat) : Int), rfl, ?_⟩
      replace hS := (hS.to (hS.mem.keep0 hF)).put (d := 79) (v := vi ((countTo m210.com (capN nn) : Nat) : Int)) (by decide)
      clear hF
      refine hS.opsC 3 [fx 1 (vb false), 60, 0] [5, 6, 25, 26, 27] fun _ => seg [(82, vb false)] [(0, none), (1, none), (2, none), (3, none)] [.t false, .t false, .p ((vb (((cntV (m210, d9).1.com (m210, d9).1.cap 0 nn) : Int) != ((countTo m210.com (capN nn) : Nat) : Int)) : Value) = vb false)] ⟨(congrArg Value.bool (by exact count_ne hVc hcn.symm)), trivial⟩ fun ac wd hS => ?_
      refine hS.opsC 5 [1, 1, 1, 201, 1] [5, 6, 25, 26, 27, 82] fun _ => seg [(86, pt b29 0), (87, vi nn)] [(0, none), (1, none), (2, none), (3, none)] [.t false, .t false, .e (ν9 0), .t false, .t false, .t false] trivial fun ac wd hS => ?_
      refine hS.callG false 18 #[pt b29 0, vi nn] (ar_Has b29 F14 m210 nn _ (hS.mem.res 0) ) ?_
      rintro _ wd ⟨rfl, hF⟩
      refine ⟨vb (hasV m210.com m210.cap nn), rfl, ?_⟩
      replace hS := (hS.to (hS.mem.keep0 hF)).put (d := 88) (v := vb (hasV m210.com m210.cap nn)) (by decide)
      clear hF
      refine hS.opsC 2 [60, 0] [5, 6, 25, 26, 27] fun _ => seg [(90, vb (hasV m210.com m210.cap nn))] [(0, none), (1, none), (2, none), (3, none)] [.t false] trivial fun ac wd hS => ?_
      have hg25o : (hasV m210.com m210.cap nn) = false := by exact has_out _ _ (by omega)
      replace hS := hS.fix 90 (vb false) (congrArg Value.bool hg25o)
      refine hS.opsC 4 [1, 1, 1, 201] [5, 6, 25, 26, 27, 90] fun _ => seg [(94, pt b29 0)] [(0, none), (1, none), (2, none), (3, none)] [.t false, .e (ν9 0), .t false, .t false, .t false] trivial fun ac wd hS => ?_
      refine hS.callG false 18 #[pt b29 0, vi (-1)] (ar_Has b29 F14 m210 (-1) _ (hS.mem.res 0) ) ?_
      rintro _ wd ⟨rfl, hF⟩
      refine ⟨vb (hasV m210.com m210.cap (-1)), rfl, ?_⟩
      replace hS := (hS.to (hS.mem.keep0 hF)).put (d := 95) (v := vb (hasV m210.com m210.cap (-1))) (by decide)
      clear hF
      refine hS.opsC 1 [60] [5, 6, 25, 26, 27] fun _ => seg [(96, vb (hasV m210.com m210.cap (-1)))] [(0, none), (1, none), (2, none), (3, none)] [.t false] trivial fun ac wd hS => ?_
      refine list_nil_seq ?_
      refine hS.condK (hasV m210.com m210.cap (-1)) false (by exact has_out _ _ (by omega)) ?_
      show Code.wp _ _ _ _ _
      refine wp_skip ?_
      refine pop_block ?_
      refine pop_then ?_
      refine hS.regC [20, 0] [5, 6, 25, 26] fun _ => seg [(27, vi (x27 + 1))] [(0, none), (1, none), (2, none), (3, none)] [.p (fit .i64 (x27 + 1))] ⟨fit_i64 (by omega), trivial⟩ fun ac wd hS => ?_
      replace hS := hS.to (hS.mem.perm [0, 1, 3, 2] (H' := [(0, .fn 0 64 dbT), (g9, .fn o9 (o9 + l.length * 6) (a3V (gtD l) o9)), (g211, .fn u212 (u212 + (capN nn)) (strs (pgS m210) u212)), ((ν9 0), .cells [pt b29 0, sc g211 u212 (capN nn) cp213, vi (rfA m210)] 33)]) (by as_aux_lemma => kernel_rfl) (by decide))
      exact pop_then (hS.next ((x27 + 1), F14, m210, b29, g211, u212, cp213) ⟨(by first | omega | assumption | (simp; done) | (simp; omega)), (by first | omega | assumption | (simp; done) | (simp; omega)), (by first | omega | assumption | (simp; done) | (simp; omega)), trivial⟩ (by dsimp only; omega))
    ·
     refine St.ord1 13 [301] [5, 6, 25, 26, 27, 35, 39] [0, 1, 2, 4] hS rfl fun _ => seg [(44, .agg #[sc g211 u212 (capN nn) cp213, vi (rfA m210)])] [(0, none), (1, none), (2, none), (3, none), (4, none), (5, none)] [.t false, .e (ν9 0), .e (ν9 0)] trivial ⟨by as_aux_lemma => kernel_rfl, fun ac wd hS => ?_⟩
     refine ord_nil ?_
     refine wpT_two ?_
     refine hS.ordCG 9 false 12 #[pt b29 0] (ar_Committed b29 F14 m210 _ (hS.mem.res 0) ) ?_
     rintro _ wd ⟨rfl, hF⟩
     refine ⟨vi ((countTo m210.com m210.cap : Nat) : Int), rfl, ?_⟩
     replace hS := (hS.to (hS.mem.keep0 hF)).put (d := 40) (v := vi ((countTo m210.com m210.cap : Nat) : Int)) (by decide)
     clear hF
     refine hS.ordV (l := [0, 1, 2, 4]) ?_
     refine hS.ordCG 14 false 13 #[.agg #[sc g211 u212 (capN nn) cp213, vi (rfA m210)]] (ref03_CommittedM g211 u212 (capN nn) cp213 (rfA m210) m210 _ (hS.mem.get 5 g211 (.fn u212 (u212 + (capN nn)) (strs (pgS m210) u212))) (by exact hVc) (by exact hcb)) ?_
     rintro _ wd ⟨rfl, hF⟩
     refine ⟨vi ((countTo m210.com (capN nn) : Nat) : Int), rfl, ?_⟩
     replace hS := (hS.to (hS.mem.keep0 hF)).put (d := 45) (v := vi ((countTo m210.com (capN nn) : Nat) : Int)) (by decide)
     clear hF
     refine hS.ordV (l := [0, 1, 2, 4]) ?_
     refine St.ordF [fx 1 (vb false), 60, 0] [15, 16, 17] [5, 6, 25, 26, 27] (rest := [(18, 1), (19, 1), (20, 1), (23, 1), (24, 1), (25, 1)]) hS hap <| segF [(48, vb false)] [.t false, .t false, .p ((vb ((((countTo m210.com m210.cap : Nat) : Int) : Int) != ((countTo m210.com (capN nn) : Nat) : Int)) : Value) = vb false)] ⟨(congrArg Value.bool (by (rw [hVc]; exact bne_self_eq_false _))), trivial⟩ fun ac hS => ?_
     refine St.ordF [1, 1, 1, 1, 1, 1] [18, 19, 20, 23, 24, 25] [5, 6, 25, 26, 27, 48] (rest := []) hS hap <| segF [(51, pt (ν9 0) 0), (56, pt (ν9 0) 1)] [.t false, .t false, .t false, .t false, .t false, .t false] trivial fun ac hS => ?_
     refine ord_nil ?_
     refine ⟨?_, ?_⟩
     ·
      refine St.ord1 21 [301] [5, 6, 25, 26, 27, 48, 56] [0, 1, 2, 4] hS rfl fun _ => seg [(52, pt b29 0)] [(0, none), (1, none), (2, none), (3, none), (4, none), (5, none)] [.t false, .e (ν9 0)] trivial ⟨by as_aux_lemma => kernel_rfl, fun ac wd hS => ?_⟩
      refine ord_nil ?_
      refine wpT_two ?_
      refine ord_nil ?_
      refine ⟨?_, ?_⟩
      ·
       refine hS.ordCG 22 false 15 #[pt b29 0] (l03_Of b29 F14 m210 _ (hS.mem.res 0) ) ?_
       rintro _ wd ⟨g226, rfl, hog0, hoh0, hF⟩
       have ho27 : w.heap.size ≤ g226 := Nat.le_trans hS.mem.fr.size hog0
       refine ⟨.agg #[sc g226 0 m210.cap m210.cap, vi (-1)], rfl, ?_⟩
       replace hS := (hS.to (hS.mem.outs hF [(g226, .fn 0 (0 + m210.cap) (strs (pgS m210) 0))] ⟨⟨rfl, hoh0, .inr hog0⟩, trivial⟩)).put (d := 53) (v := .agg #[sc g226 0 m210.cap m210.cap, vi (-1)]) (by decide)
       clear hF
       refine hS.ordV (l := [0, 1, 2, 4]) ?_
       refine ord_nil ?_
       refine wpT_lin ?_
       refine St.ord1 26 [301] [5, 6, 25, 26, 27, 48, 53] [0, 1, 2, 4] hS rfl fun _ => seg [(57, .agg #[sc g211 u212 (capN nn) cp213, vi (rfA m210)])] [(0, none), (1, none), (2, none), (3, none), (4, none), (5, none), (6, none)] [.t false, .e (ν9 0), .e (ν9 0)] trivial ⟨by as_aux_lemma => kernel_rfl, fun ac wd hS => ?_⟩
       refine hS.ordCG 27 false 14 #[.agg #[sc g226 0 m210.cap m210.cap, vi (-1)], .agg #[sc g211 u212 (capN nn) cp213, vi (rfA m210)]] (ref03_Same g226 0 m210.cap m210.cap (-1) g211 u212 (capN nn) cp213 (rfA m210) (pgS m210) (pgS m210) _ (hS.mem.get 6 g226 (.fn 0 (0 + m210.cap) (strs (pgS m210) 0))) (hS.mem.get 5 g211 (.fn u212 (u212 + (capN nn)) (strs (pgS m210) u212))) (by omega) (by omega)) ?_
       rintro _ wd ⟨rfl, hF⟩
       refine ⟨vb (sameA (pgS m210) (pgS m210) m210.cap (capN nn)), rfl, ?_⟩
       replace hS := (hS.to (hS.mem.keep0 hF)).put (d := 58) (v := vb (sameA (pgS m210) (pgS m210) m210.cap (capN nn))) (by decide)
       clear hF
       refine hS.ordV (l := [0, 1, 2, 4]) ?_
       refine St.ordF [1, 60] [28, 29] [5, 6, 25, 26, 27] (rest := []) hS hap <| segF [(60, vb (!(sameA (pgS m210) (pgS m210) m210.cap (capN nn))))] [.t false, .t false] trivial fun ac hS => ?_
       refine ord_nil ?_
       refine hS.condK (!(sameA (pgS m210) (pgS m210) m210.cap (capN nn))) false (by (rw [sameA_self _ hVc]; rfl)) ?_
       show Code.wp _ _ _ _ _
       refine wp_skip ?_
       refine pop_then ?_
       obtain ⟨d9, hS9⟩ := WS.toD hS.mem
       replace hS := hS.to hS9
       refine wp_region_seq ?_
       refine hS.opsC 4 [0, 0, 0, 300] [5, 6, 25, 26, 27] fun _ => seg [(65, pt b29 0)] [(0, none), (1, none), (3, none), (5, none)] [.e (ν9 0)] trivial fun ac wd hS => ?_
       refine hS.call0 16 #[pt b29 0] 66 (ar_PagesD b29 F14 (m210, d9) _ (hS.mem.res 0) ) fun ac wd hS => ?_
       refine hS.opsC 1 [0] [5, 6, 25, 26, 27, 66] fun _ => seg [(67, vi nn)] [(0, none), (1, none), (2, none), (3, none)] [] trivial fun ac wd hS => ?_
       refine hS.call0 17 #[.agg #[vi (((m210, d9).1.cap : Nat) : Int), sc ((m210, d9).2.bw) ((m210, d9).2.ow) ((m210, d9).2.nw) ((m210, d9).2.cw)], vi 0, vi nn] 68 (bits_CountD b29 F14 (m210, d9) 0 nn _ (hS.mem.res 0) ) fun ac wd hS => ?_
       refine hS.opsC 5 [0, 0, 0, 0, 0] [5, 6, 25, 26, 27] fun _ => seg [(9, vi (cntV (m210, d9).1.com (m210, d9).1.cap 0 nn)), (10, vi (trnE (m210, d9).1.cap 0 nn))] [(0, none), (1, none), (2, none), (3, none)] [] trivial fun ac wd hS => ?_
       refine list_nil_seq ?_
       replace hS := hS.to (WS.ofD hS.mem)
       refine wp_region_seq ?_
       refine hS.opsC 3 [0, fx 0 (vb false), 0] [5, 6, 9, 25, 26, 27] fun _ => seg [(73, vb false)] [(0, none), (1, none), (2, none), (3, none)] [.p ((vb (((trnE (m210, d9).1.cap 0 nn) : Int) != 0) : Value) = vb false)] ⟨(congrArg Value.bool (by exact trn_ne hVc hcn.symm)), trivial⟩ fun ac wd hS => ?_
       refine hS.opsC 5 [1, 1, 1, 1, 201] [5, 6, 25, 26, 27, 73] fun _ => seg [(74, vi (cntV (m210, d9).1.com (m210, d9).1.cap 0 nn)), (78, .agg #[sc g211 u212 (capN nn) cp213, vi (rfA m210)])] [(0, none), (1, none), (2, none), (3, none)] [.t false, .e (ν9 0), .e (ν9 0), .t false, .t false, .t false, .t false] trivial fun ac wd hS => ?_
       refine hS.callG false 13 #[.agg #[sc g211 u212 (capN nn) cp213, vi (rfA m210)]] (ref03_CommittedM g211 u212 (capN nn) cp213 (rfA m210) m210 _ (hS.mem.get 3 g211 (.fn u212 (u212 + (capN nn)) (strs (pgS m210) u212))) (by exact hVc) (by exact hcb)) ?_
       rintro _ wd ⟨rfl, hF⟩
       refine ⟨vi ((countTo m210.com (capN nn) : Nat) : Int), rfl, ?_⟩
       replace hS := (hS.to (hS.mem.keep0 hF)).put (d := 79) (v := vi ((countTo m210.com (capN nn) : Nat) : Int)) (by decide)
       clear hF
       refine hS.opsC 3 [fx 1 (vb false), 60, 0] [5, 6, 25, 26, 27] fun _ => seg [(82, vb false)] [(0, none), (1, none), (2, none), (3, none)] [.t false, .t false, .p ((vb (((cntV (m210, d9).1.com (m210, d9).1.cap 0 nn) : Int) != ((countTo m210.com (capN nn) : Nat) : Int)) : Value) = vb false)] ⟨(congrArg Value.bool (by exact count_ne hVc hcn.symm)), trivial⟩ fun ac wd hS => ?_
       refine hS.opsC 5 [1, 1, 1, 201, 1] [5, 6, 25, 26, 27, 82] fun _ => seg [(86, pt b29 0), (87, vi nn)] [(0, none), (1, none), (2, none), (3, none)] [.t false, .t false, .e (ν9 0), .t false, .t false, .t false] trivial fun ac wd hS => ?_
       refine hS.callG false 18 #[pt b29 0, vi nn] (ar_Has b29 F14 m210 nn _ (hS.mem.res 0) ) ?_
       rintro _ wd ⟨rfl, hF⟩
       refine ⟨vb (hasV m210.com m210.cap nn), rfl, ?_⟩
       replace hS := (hS.to (hS.mem.keep0 hF)).put (d := 88) (v := vb (hasV m210.com m210.cap nn)) (by decide)
       clear hF
       refine hS.opsC 2 [60, 0] [5, 6, 25, 26, 27] fun _ => seg [(90, vb (hasV m210.com m210.cap nn))] [(0, none), (1, none), (2, none), (3, none)] [.t false] trivial fun ac wd hS => ?_
       have hg28o : (hasV m210.com m210.cap nn) = false := by exact has_out _ _ (by omega)
       replace hS := hS.fix 90 (vb false) (congrArg Value.bool hg28o)
       refine hS.opsC 4 [1, 1, 1, 201] [5, 6, 25, 26, 27, 90] fun _ => seg [(94, pt b29 0)] [(0, none), (1, none), (2, none), (3, none)] [.t false, .e (ν9 0), .t false, .t false, .t false] trivial fun ac wd hS => ?_
       refine hS.callG false 18 #[pt b29 0, vi (-1)] (ar_Has b29 F14 m210 (-1) _ (hS.mem.res 0) ) ?_
       rintro _ wd ⟨rfl, hF⟩
       refine ⟨vb (hasV m210.com m210.cap (-1)), rfl, ?_⟩
       replace hS := (hS.to (hS.mem.keep0 hF)).put (d := 95) (v := vb (hasV m210.com m210.cap (-1))) (by decide)
       clear hF
       refine hS.opsC 1 [60] [5, 6, 25, 26, 27] fun _ => seg [(96, vb (hasV m210.com m210.cap (-1)))] [(0, none), (1, none), (2, none), (3, none)] [.t false] trivial fun ac wd hS => ?_
       refine list_nil_seq ?_
       refine hS.condK (hasV m210.com m210.cap (-1)) false (by exact has_out _ _ (by omega)) ?_
       show Code.wp _ _ _ _ _
       refine wp_skip ?_
       refine pop_block ?_
       refine pop_then ?_
       refine hS.regC [20, 0] [5, 6, 25, 26] fun _ => seg [(27, vi (x27 + 1))] [(0, none), (1, none), (2, none), (3, none)] [.p (fit .i64 (x27 + 1))] ⟨fit_i64 (by omega), trivial⟩ fun ac wd hS => ?_
       replace hS := hS.to (hS.mem.perm [0, 1, 3, 2] (H' := [(0, .fn 0 64 dbT), (g9, .fn o9 (o9 + l.length * 6) (a3V (gtD l) o9)), (g211, .fn u212 (u212 + (capN nn)) (strs (pgS m210) u212)), ((ν9 0), .cells [pt b29 0, sc g211 u212 (capN nn) cp213, vi (rfA m210)] 33)]) (by as_aux_lemma => kernel_rfl) (by decide))
       exact pop_then (hS.next ((x27 + 1), F14, m210, b29, g211, u212, cp213) ⟨(by first | omega | assumption | (simp; done) | (simp; omega)), (by first | omega | assumption | (simp; done) | (simp; omega)), (by first | omega | assumption | (simp; done) | (simp; omega)), trivial⟩ (by dsimp only; omega))
      ·
       refine St.ord1 26 [301] [5, 6, 25, 26, 27, 48, 52] [0, 1, 2, 4] hS rfl fun _ => seg [(57, .agg #[sc g211 u212 (capN nn) cp213, vi (rfA m210)])] [(0, none), (1, none), (2, none), (3, none), (4, none), (5, none)] [.t false, .e (ν9 0), .e (ν9 0)] trivial ⟨by as_aux_lemma => kernel_rfl, fun ac wd hS => ?_⟩
       refine ord_nil ?_
       refine wpT_lin ?_
       refine hS.ordCG 22 false 15 #[pt b29 0] (l03_Of b29 F14 m210 _ (hS.mem.res 0) ) ?_
       rintro _ wd ⟨g229, rfl, hog0, hoh0, hF⟩
       have ho30 : w.heap.size ≤ g229 := Nat.le_trans hS.mem.fr.size hog0
       refine ⟨.agg #[sc g229 0 m210.cap m210.cap, vi (-1)], rfl, ?_⟩
       replace hS := (hS.to (hS.mem.outs hF [(g229, .fn 0 (0 + m210.cap) (strs (pgS m210) 0))] ⟨⟨rfl, hoh0, .inr hog0⟩, trivial⟩)).put (d := 53) (v := .agg #[sc g229 0 m210.cap m210.cap, vi (-1)]) (by decide)
       clear hF
       refine hS.ordV (l := [0, 1, 2, 4]) ?_
       refine hS.ordCG 27 false 14 #[.agg #[sc g229 0 m210.cap m210.cap, vi (-1)], .agg #[sc g211 u212 (capN nn) cp213, vi (rfA m210)]] (ref03_Same g229 0 m210.cap m210.cap (-1) g211 u212 (capN nn) cp213 (rfA m210) (pgS m210) (pgS m210) _ (hS.mem.get 6 g229 (.fn 0 (0 + m210.cap) (strs (pgS m210) 0))) (hS.mem.get 5 g211 (.fn u212 (u212 + (capN nn)) (strs (pgS m210) u212))) (by omega) (by omega)) ?_
       rintro _ wd ⟨rfl, hF⟩
       refine ⟨vb (sameA (pgS m210) (pgS m210) m210.cap (capN nn)), rfl, ?_⟩
       replace hS := (hS.to (hS.mem.keep0 hF)).put (d := 58) (v := vb (sameA (pgS m210) (pgS m210) m210.cap (capN nn))) (by decide)
       clear hF
       refine hS.ordV (l := [0, 1, 2, 4]) ?_
       refine St.ordF [1, 60] [28, 29] [5, 6, 25, 26, 27] (rest := []) hS hap <| segF [(60, vb (!(sameA (pgS m210) (pgS m210) m210.cap (capN nn))))] [.t false, .t false] trivial fun ac hS => ?_
       refine ord_nil ?_
       refine hS.condK (!(sameA (pgS m210) (pgS m210) m210.cap (capN nn))) false (by (rw [sameA_self _ hVc]; rfl)) ?_
       show Code.wp _ _ _ _ _
       refine wp_skip ?_
       refine pop_then ?_
       obtain ⟨d9, hS9⟩ := WS.toD hS.mem
       replace hS := hS.to hS9
       refine wp_region_seq ?_
       refine hS.opsC 4 [0, 0, 0, 300] [5, 6, 25, 26, 27] fun _ => seg [(65, pt b29 0)] [(0, none), (1, none), (3, none), (5, none)] [.e (ν9 0)] trivial fun ac wd hS => ?_
       refine hS.call0 16 #[pt b29 0] 66 (ar_PagesD b29 F14 (m210, d9) _ (hS.mem.res 0) ) fun ac wd hS => ?_
       refine hS.opsC 1 [0] [5, 6, 25, 26, 27, 66] fun _ => seg [(67, vi nn)] [(0, none), (1, none), (2, none), (3, none)] [] trivial fun ac wd hS => ?_
       refine hS.call0 17 #[.agg #[vi (((m210, d9).1.cap : Nat) : Int), sc ((m210, d9).2.bw) ((m210, d9).2.ow) ((m210, d9).2.nw) ((m210, d9).2.cw)], vi 0, vi nn] 68 (bits_CountD b29 F14 (m210, d9) 0 nn _ (hS.mem.res 0) ) fun ac wd hS => ?_
       refine hS.opsC 5 [0, 0, 0, 0, 0] [5, 6, 25, 26, 27] fun _ => seg [(9, vi (cntV (m210, d9).1.com (m210, d9).1.cap 0 nn)), (10, vi (trnE (m210, d9).1.cap 0 nn))] [(0, none), (1, none), (2, none), (3, none)] [] trivial fun ac wd hS => ?_
       refine list_nil_seq ?_
       replace hS := hS.to (WS.ofD hS.mem)
       refine wp_region_seq ?_
       refine hS.opsC 3 [0, fx 0 (vb false), 0] [5, 6, 9, 25, 26, 27] fun _ => seg [(73, vb false)] [(0, none), (1, none), (2, none), (3, none)] [.p ((vb (((trnE (m210, d9).1.cap 0 nn) : Int) != 0) : Value) = vb false)] ⟨(congrArg Value.bool (by exact trn_ne hVc hcn.symm)), trivial⟩ fun ac wd hS => ?_
       refine hS.opsC 5 [1, 1, 1, 1, 201] [5, 6, 25, 26, 27, 73] fun _ => seg [(74, vi (cntV (m210, d9).1.com (m210, d9).1.cap 0 nn)), (78, .agg #[sc g211 u212 (capN nn) cp213, vi (rfA m210)])] [(0, none), (1, none), (2, none), (3, none)] [.t false, .e (ν9 0), .e (ν9 0), .t false, .t false, .t false, .t false] trivial fun ac wd hS => ?_
       refine hS.callG false 13 #[.agg #[sc g211 u212 (capN nn) cp213, vi (rfA m210)]] (ref03_CommittedM g211 u212 (capN nn) cp213 (rfA m210) m210 _ (hS.mem.get 3 g211 (.fn u212 (u212 + (capN nn)) (strs (pgS m210) u212))) (by exact hVc) (by exact hcb)) ?_
       rintro _ wd ⟨rfl, hF⟩
       refine ⟨vi ((countTo m210.com (capN nn) : Nat) : Int), rfl, ?_⟩
       replace hS := (hS.to (hS.mem.keep0 hF)).put (d := 79) (v := vi ((countTo m210.com (capN nn) : Nat) : Int)) (by decide)
       clear hF
       refine hS.opsC 3 [fx 1 (vb false), 60, 0] [5, 6, 25, 26, 27] fun _ => seg [(82, vb false)] [(0, none), (1, none), (2, none), (3, none)] [.t false, .t false, .p ((vb (((cntV (m210, d9).1.com (m210, d9).1.cap 0 nn) : Int) != ((countTo m210.com (capN nn) : Nat) : Int)) : Value) = vb false)] ⟨(congrArg Value.bool (by exact count_ne hVc hcn.symm)), trivial⟩ fun ac wd hS => ?_
       refine hS.opsC 5 [1, 1, 1, 201, 1] [5, 6, 25, 26, 27, 82] fun _ => seg [(86, pt b29 0), (87, vi nn)] [(0, none), (1, none), (2, none), (3, none)] [.t false, .t false, .e (ν9 0), .t false, .t false, .t false] trivial fun ac wd hS => ?_
       refine hS.callG false 18 #[pt b29 0, vi nn] (ar_Has b29 F14 m210 nn _ (hS.mem.res 0) ) ?_
       rintro _ wd ⟨rfl, hF⟩
       refine ⟨vb (hasV m210.com m210.cap nn), rfl, ?_⟩
       replace hS := (hS.to (hS.mem.keep0 hF)).put (d := 88) (v := vb (hasV m210.com m210.cap nn)) (by decide)
       clear hF
       refine hS.opsC 2 [60, 0] [5, 6, 25, 26, 27] fun _ => seg [(90, vb (hasV m210.com m210.cap nn))] [(0, none), (1, none), (2, none), (3, none)] [.t false] trivial fun ac wd hS => ?_
       have hg31o : (hasV m210.com m210.cap nn) = false := by exact has_out _ _ (by omega)
       replace hS := hS.fix 90 (vb false) (congrArg Value.bool hg31o)
       refine hS.opsC 4 [1, 1, 1, 201] [5, 6, 25, 26, 27, 90] fun _ => seg [(94, pt b29 0)] [(0, none), (1, none), (2, none), (3, none)] [.t false, .e (ν9 0), .t false, .t false, .t false] trivial fun ac wd hS => ?_
       refine hS.callG false 18 #[pt b29 0, vi (-1)] (ar_Has b29 F14 m210 (-1) _ (hS.mem.res 0) ) ?_
       rintro _ wd ⟨rfl, hF⟩
       refine ⟨vb (hasV m210.com m210.cap (-1)), rfl, ?_⟩
       replace hS := (hS.to (hS.mem.keep0 hF)).put (d := 95) (v := vb (hasV m210.com m210.cap (-1))) (by decide)
       clear hF
       refine hS.opsC 1 [60] [5, 6, 25, 26, 27] fun _ => seg [(96, vb (hasV m210.com m210.cap (-1)))] [(0, none), (1, none), (2, none), (3, none)] [.t false] trivial fun ac wd hS => ?_
       refine list_nil_seq ?_
       refine hS.condK (hasV m210.com m210.cap (-1)) false (by exact has_out _ _ (by omega)) ?_
       show Code.wp _ _ _ _ _
       refine wp_skip ?_
       refine pop_block ?_
       refine pop_then ?_
       refine hS.regC [20, 0] [5, 6, 25, 26] fun _ => seg [(27, vi (x27 + 1))] [(0, none), (1, none), (2, none), (3, none)] [.p (fit .i64 (x27 + 1))] ⟨fit_i64 (by omega), trivial⟩ fun ac wd hS => ?_
       replace hS := hS.to (hS.mem.perm [0, 1, 3, 2] (H' := [(0, .fn 0 64 dbT), (g9, .fn o9 (o9 + l.length * 6) (a3V (gtD l) o9)), (g211, .fn u212 (u212 + (capN nn)) (strs (pgS m210) u212)), ((ν9 0), .cells [pt b29 0, sc g211 u212 (capN nn) cp213, vi (rfA m210)] 33)]) (by as_aux_lemma => kernel_rfl) (by decide))
       exact pop_then (hS.next ((x27 + 1), F14, m210, b29, g211, u212, cp213) ⟨(by first | omega | assumption | (simp; done) | (simp; omega)), (by first | omega | assumption | (simp; done) | (simp; omega)), (by first | omega | assumption | (simp; done) | (simp; omega)), trivial⟩ (by dsimp only; omega))
     ·
      refine St.ord1 26 [301] [5, 6, 25, 26, 27, 48, 51] [0, 1, 2, 4] hS rfl fun _ => seg [(57, .agg #[sc g211 u212 (capN nn) cp213, vi (rfA m210)])] [(0, none), (1, none), (2, none), (3, none), (4, none), (5, none)] [.t false, .e (ν9 0), .e (ν9 0)] trivial ⟨by as_aux_lemma => kernel_rfl, fun ac wd hS => ?_⟩
      refine ord_nil ?_
      refine wpT_lin ?_
      refine St.ord1 21 [301] [5, 6, 25, 26, 27, 48, 57] [0, 1, 2, 4] hS rfl fun _ => seg [(52, pt b29 0)] [(0, none), (1, none), (2, none), (3, none), (4, none), (5, none)] [.t false, .e (ν9 0)] trivial ⟨by as_aux_lemma => kernel_rfl, fun ac wd hS => ?_⟩
      refine hS.ordCG 22 false 15 #[pt b29 0] (l03_Of b29 F14 m210 _ (hS.mem.res 0) ) ?_
      rintro _ wd ⟨g232, rfl, hog0, hoh0, hF⟩
      have ho33 : w.heap.size ≤ g232 := Nat.le_trans hS.mem.fr.size hog0
      refine ⟨.agg #[sc g232 0 m210.cap m210.cap, vi (-1)], rfl, ?_⟩
      replace hS := (hS.to (hS.mem.outs hF [(g232, .fn 0 (0 + m210.cap) (strs (pgS m210) 0))] ⟨⟨rfl, hoh0, .inr hog0⟩, trivial⟩)).put (d := 53) (v := .agg #[sc g232 0 m210.cap m210.cap, vi (-1)]) (by decide)
      clear hF
      refine hS.ordV (l := [0, 1, 2, 4]) ?_
      refine hS.ordCG 27 false 14 #[.agg #[sc g232 0 m210.cap m210.cap, vi (-1)], .agg #[sc g211 u212 (capN nn) cp213, vi (rfA m210)]] (ref03_Same g232 0 m210.cap m210.cap (-1) g211 u212 (capN nn) cp213 (rfA m210) (pgS m210) (pgS m210) _ (hS.mem.get 6 g232 (.fn 0 (0 + m210.cap) (strs (pgS m210) 0))) (hS.mem.get 5 g211 (.fn u212 (u212 + (capN nn)) (strs (pgS m210) u212))) (by omega) (by omega)) ?_
      rintro _ wd ⟨rfl, hF⟩
      refine ⟨vb (sameA (pgS m210) (pgS m210) m210.cap (capN nn)), rfl, ?_⟩
      replace hS := (hS.to (hS.mem.keep0 hF)).put (d := 58) (v := vb (sameA (pgS m210) (pgS m210) m210.cap (capN nn))) (by decide)
      clear hF
      refine hS.ordV (l := [0, 1, 2, 4]) ?_
      refine St.ordF [1, 60] [28, 29] [5, 6, 25, 26, 27] (rest := []) hS hap <| segF [(60, vb (!(sameA (pgS m210) (pgS m210) m210.cap (capN nn))))] [.t false, .t false] trivial fun ac hS => ?_
      refine ord_nil ?_
      refine hS.condK (!(sameA (pgS m210) (pgS m210) m210.cap (capN nn))) false (by (rw [sameA_self _ hVc]; rfl)) ?_
      show Code.wp _ _ _ _ _
      refine wp_skip ?_
      refine pop_then ?_
      obtain ⟨d9, hS9⟩ := WS.toD hS.mem
      replace hS := hS.to hS9
      refine wp_region_seq ?_
      refine hS.opsC 4 [0, 0, 0, 300] [5, 6, 25, 26, 27] fun _ => seg [(65, pt b29 0)] [(0, none), (1, none), (3, none), (5, none)] [.e (ν9 0)] trivial fun ac wd hS => ?_
      refine hS.call0 16 #[pt b29 0] 66 (ar_PagesD b29 F14 (m210, d9) _ (hS.mem.res 0) ) fun ac wd hS => ?_
      refine hS.opsC 1 [0] [5, 6, 25, 26, 27, 66] fun _ => seg [(67, vi nn)] [(0, none), (1, none), (2, none), (3, none)] [] trivial fun ac wd hS => ?_
      refine hS.call0 17 #[.agg #[vi (((m210, d9).1.cap : Nat) : Int), sc ((m210, d9).2.bw) ((m210, d9).2.ow) ((m210, d9).2.nw) ((m210, d9).2.cw)], vi 0, vi nn] 68 (bits_CountD b29 F14 (m210, d9) 0 nn _ (hS.mem.res 0) ) fun ac wd hS => ?_
      refine hS.opsC 5 [0, 0, 0, 0, 0] [5, 6, 25, 26, 27] fun _ => seg [(9, vi (cntV (m210, d9).1.com (m210, d9).1.cap 0 nn)), (10, vi (trnE (m210, d9).1.cap 0 nn))] [(0, none), (1, none), (2, none), (3, none)] [] trivial fun ac wd hS => ?_
      refine list_nil_seq ?_
      replace hS := hS.to (WS.ofD hS.mem)
      refine wp_region_seq ?_
      refine hS.opsC 3 [0, fx 0 (vb false), 0] [5, 6, 9, 25, 26, 27] fun _ => seg [(73, vb false)] [(0, none), (1, none), (2, none), (3, none)] [.p ((vb (((trnE (m210, d9).1.cap 0 nn) : Int) != 0) : Value) = vb false)] ⟨(congrArg Value.bool (by exact trn_ne hVc hcn.symm)), trivial⟩ fun ac wd hS => ?_
      refine hS.opsC 5 [1, 1, 1, 1, 201] [5, 6, 25, 26, 27, 73] fun _ => seg [(74, vi (cntV (m210, d9).1.com (m210, d9).1.cap 0 nn)), (78, .agg #[sc g211 u212 (capN nn) cp213, vi (rfA m210)])] [(0, none), (1, none), (2, none), (3, none)] [.t false, .e (ν9 0), .e (ν9 0), .t false, .t false, .t false, .t false] trivial fun ac wd hS => ?_
      refine hS.callG false 13 #[.agg #[sc g211 u212 (capN nn) cp213, vi (rfA m210)]] (ref03_CommittedM g211 u212 (capN nn) cp213 (rfA m210) m210 _ (hS.mem.get 3 g211 (.fn u212 (u212 + (capN nn)) (strs (pgS m210) u212))) (by exact hVc) (by exact hcb)) ?_
      rintro _ wd ⟨rfl, hF⟩
      refine ⟨vi ((countTo m210.com (capN nn) : Nat) : Int), rfl, ?_⟩
      replace hS := (hS.to (hS.mem.keep0 hF)).put (d := 79) (v := vi ((countTo m210.com (capN nn) : Nat) : Int)) (by decide)
      clear hF
      refine hS.opsC 3 [fx 1 (vb false), 60, 0] [5, 6, 25, 26, 27] fun _ => seg [(82, vb false)] [(0, none), (1, none), (2, none), (3, none)] [.t false, .t false, .p ((vb (((cntV (m210, d9).1.com (m210, d9).1.cap 0 nn) : Int) != ((countTo m210.com (capN nn) : Nat) : Int)) : Value) = vb false)] ⟨(congrArg Value.bool (by exact count_ne hVc hcn.symm)), trivial⟩ fun ac wd hS => ?_
      refine hS.opsC 5 [1, 1, 1, 201, 1] [5, 6, 25, 26, 27, 82] fun _ => seg [(86, pt b29 0), (87, vi nn)] [(0, none), (1, none), (2, none), (3, none)] [.t false, .t false, .e (ν9 0), .t false, .t false, .t false] trivial fun ac wd hS => ?_
      refine hS.callG false 18 #[pt b29 0, vi nn] (ar_Has b29 F14 m210 nn _ (hS.mem.res 0) ) ?_
      rintro _ wd ⟨rfl, hF⟩
      refine ⟨vb (hasV m210.com m210.cap nn), rfl, ?_⟩
      replace hS := (hS.to (hS.mem.keep0 hF)).put (d := 88) (v := vb (hasV m210.com m210.cap nn)) (by decide)
      clear hF
      refine hS.opsC 2 [60, 0] [5, 6, 25, 26, 27] fun _ => seg [(90, vb (hasV m210.com m210.cap nn))] [(0, none), (1, none), (2, none), (3, none)] [.t false] trivial fun ac wd hS => ?_
      have hg34o : (hasV m210.com m210.cap nn) = false := by exact has_out _ _ (by omega)
      replace hS := hS.fix 90 (vb false) (congrArg Value.bool hg34o)
      refine hS.opsC 4 [1, 1, 1, 201] [5, 6, 25, 26, 27, 90] fun _ => seg [(94, pt b29 0)] [(0, none), (1, none), (2, none), (3, none)] [.t false, .e (ν9 0), .t false, .t false, .t false] trivial fun ac wd hS => ?_
      refine hS.callG false 18 #[pt b29 0, vi (-1)] (ar_Has b29 F14 m210 (-1) _ (hS.mem.res 0) ) ?_
      rintro _ wd ⟨rfl, hF⟩
      refine ⟨vb (hasV m210.com m210.cap (-1)), rfl, ?_⟩
      replace hS := (hS.to (hS.mem.keep0 hF)).put (d := 95) (v := vb (hasV m210.com m210.cap (-1))) (by decide)
      clear hF
      refine hS.opsC 1 [60] [5, 6, 25, 26, 27] fun _ => seg [(96, vb (hasV m210.com m210.cap (-1)))] [(0, none), (1, none), (2, none), (3, none)] [.t false] trivial fun ac wd hS => ?_
      refine list_nil_seq ?_
      refine hS.condK (hasV m210.com m210.cap (-1)) false (by exact has_out _ _ (by omega)) ?_
      show Code.wp _ _ _ _ _
      refine wp_skip ?_
      refine pop_block ?_
      refine pop_then ?_
      refine hS.regC [20, 0] [5, 6, 25, 26] fun _ => seg [(27, vi (x27 + 1))] [(0, none), (1, none), (2, none), (3, none)] [.p (fit .i64 (x27 + 1))] ⟨fit_i64 (by omega), trivial⟩ fun ac wd hS => ?_
      replace hS := hS.to (hS.mem.perm [0, 1, 3, 2] (H' := [(0, .fn 0 64 dbT), (g9, .fn o9 (o9 + l.length * 6) (a3V (gtD l) o9)), (g211, .fn u212 (u212 + (capN nn)) (strs (pgS m210) u212)), ((ν9 0), .cells [pt b29 0, sc g211 u212 (capN nn) cp213, vi (rfA m210)] 33)]) (by as_aux_lemma => kernel_rfl) (by decide))
      exact pop_then (hS.next ((x27 + 1), F14, m210, b29, g211, u212, cp213) ⟨(by first | omega | assumption | (simp; done) | (simp; omega)), (by first | omega | assumption | (simp; done) | (simp; omega)), (by first | omega | assumption | (simp; done) | (simp; omega)), trivial⟩ (by dsimp only; omega))
   ·
    refine St.ord1 13 [301] [5, 6, 25, 26, 27, 35, 38] [0, 1, 2, 4] hS rfl fun _ => seg [(44, .agg #[sc g211 u212 (capN nn) cp213, vi (rfA m210)])] [(0, none), (1, none), (2, none), (3, none), (4, none), (5, none)] [.t false, .e (ν9 0), .e (ν9 0)] trivial ⟨by as_aux_lemma => kernel_rfl, fun ac wd hS => ?_⟩
    refine ord_nil ?_
    refine wpT_two ?_
    refine St.ord1 8 [301] [5, 6, 25, 26, 27, 35, 44] [0, 1, 2, 4] hS rfl fun _ => seg [(39, pt b29 0)] [(0, none), (1, none), (2, none), (3, none), (4, none), (5, none)] [.t false, .e (ν9 0)] trivial ⟨by as_aux_lemma => kernel_rfl, fun ac wd hS => ?_⟩
    refine hS.ordCG 9 false 12 #[pt b29 0] (ar_Committed b29 F14 m210 _ (hS.mem.res 0) ) ?_
    rintro _ wd ⟨rfl, hF⟩
    refine ⟨vi ((countTo m210.com m210.cap : Nat) : Int), rfl, ?_⟩
    replace hS := (hS.to (hS.mem.keep0 hF)).put (d := 40) (v := vi ((countTo m210.com m210.cap : Nat) : Int)) (by decide)
    clear hF
    refine hS.ordV (l := [0, 1, 2, 4]) ?_
    refine hS.ordCG 14 false 13 #[.agg #[sc g211 u212 (capN nn) cp213, vi (rfA m210)]] (ref03_CommittedM g211 u212 (capN nn) cp213 (rfA m210) m210 _ (hS.mem.get 5 g211 (.fn u212 (u212 + (capN nn)) (strs (pgS m210) u212))) (by exact hVc) (by exact hcb)) ?_
    rintro _ wd ⟨rfl, hF⟩
    refine ⟨vi ((countTo m210.com (capN nn) : Nat) : Int), rfl, ?_⟩
    replace hS := (hS.to (hS.mem.keep0 hF)).put (d := 45) (v := vi ((countTo m210.com (capN nn) : Nat) : Int)) (by decide)
    clear hF
    refine hS.ordV (l := [0, 1, 2, 4]) ?_
    refine St.ordF [fx 1 (vb false), 60, 0] [15, 16, 17] [5, 6, 25, 26, 27] (rest := [(18, 1), (19, 1), (20, 1), (23, 1), (24, 1), (25, 1)]) hS hap <| segF [(48, vb false)] [.t false, .t false, .p ((vb ((((countTo m210.com m210.cap : Nat) : Int) : Int) != ((countTo m210.com (capN nn) : Nat) : Int)) : Value) = vb false)] ⟨(congrArg Value.bool (by (rw [hVc]; exact bne_self_eq_false _))), trivial⟩ fun ac hS => ?_
    refine St.ordF [1, 1, 1, 1, 1, 1] [18, 19, 20, 23, 24, 25] [5, 6, 25, 26, 27, 48] (rest := []) hS hap <| segF [(51, pt (ν9 0) 0), (56, pt (ν9 0) 1)] [.t false, .t false, .t false, .t false, .t false, .t false] trivial fun ac hS => ?_
    refine ord_nil ?_
    refine ⟨?_, ?_⟩
    ·
     refine St.ord1 21 [301] [5, 6, 25, 26, 27, 48, 56] [0, 1, 2, 4] hS rfl fun _ => seg [(52, pt b29 0)] [(0, none), (1, none), (2, none), (3, none), (4, none), (5, none)] [.t false, .e (ν9 0)] trivial ⟨by as_aux_lemma => kernel_rfl, fun ac wd hS => ?_⟩
     refine ord_nil ?_
     refine wpT_two ?_
     refine ord_nil ?_
     refine ⟨?_, ?_⟩
     ·
      refine hS.ordCG 22 false 15 #[pt b29 0] (l03_Of b29 F14 m210 _ (hS.mem.res 0) ) ?_
      rintro _ wd ⟨g235, rfl, hog0, hoh0, hF⟩
      have ho36 : w.heap.size ≤ g235 := Nat.le_trans hS.mem.fr.size hog0
      refine ⟨.agg #[sc g235 0 m210.cap m210.cap, vi (-1)], rfl, ?_⟩
      replace hS := (hS.to (hS.mem.outs hF [(g235, .fn 0 (0 + m210.cap) (strs (pgS m210) 0))] ⟨⟨rfl, hoh0, .inr hog0⟩, trivial⟩)).put (d := 53) (v := .agg #[sc g235 0 m210.cap m210.cap, vi (-1)]) (by decide)
      clear hF
      refine hS.ordV (l := [0, 1, 2, 4]) ?_
      refine ord_nil ?_
      refine wpT_lin ?_
      refine St.ord1 26 [301] [5, 6, 25, 26, 27, 48, 53] [0, 1, 2, 4] hS rfl fun _ => seg [(57, .agg #[sc g211 u212 (capN nn) cp213, vi (rfA m210)])] [(0, none), (1, none), (2, none), (3, none), (4, none), (5, none), (6, none)] [.t false, .e (ν9 0), .e (ν9 0)] trivial ⟨by as_aux_lemma => kernel_rfl, fun ac wd hS => ?_⟩
      refine hS.ordCG 27 false 14 #[.agg #[sc g235 0 m210.cap m210.cap, vi (-1)], .agg #[sc g211 u212 (capN nn) cp213, vi (rfA m210)]] (ref03_Same g235 0 m210.cap m210.cap (-1) g211 u212 (capN nn) cp213 (rfA m210) (pgS m210) (pgS m210) _ (hS.mem.get 6 g235 (.fn 0 (0 + m210.cap) (strs (pgS m210) 0))) (hS.mem.get 5 g211 (.fn u212 (u212 + (capN nn)) (strs (pgS m210) u212))) (by omega) (by omega)) ?_
      rintro _ wd ⟨rfl, hF⟩
      refine ⟨vb (sameA (pgS m210) (pgS m210) m210.cap (capN nn)), rfl, ?_⟩
      replace hS := (hS.to (hS.mem.keep0 hF)).put (d := 58) (v := vb (sameA (pgS m210) (pgS m210) m210.cap (capN nn))) (by decide)
      clear hF
      refine hS.ordV (l := [0, 1, 2, 4]) ?_
      refine St.ordF [1, 60] [28, 29] [5, 6, 25, 26, 27] (rest := []) hS hap <| segF [(60, vb (!(sameA (pgS m210) (pgS m210) m210.cap (capN nn))))] [.t false, .t false] trivial fun ac hS => ?_
      refine ord_nil ?_
      refine hS.condK (!(sameA (pgS m210) (pgS m210) m210.cap (capN nn))) false (by (rw [sameA_self _ hVc]; rfl)) ?_
      show Code.wp _ _ _ _ _
      refine wp_skip ?_
      refine pop_then ?_
      obtain ⟨d9, hS9⟩ := WS.toD hS.mem
      replace hS := hS.to hS9
      refine wp_region_seq ?_
      refine hS.opsC 4 [0, 0, 0, 300] [5, 6, 25, 26, 27] fun _ => seg [(65, pt b29 0)] [(0, none), (1, none), (3, none), (5, none)] [.e (ν9 0)] trivial fun ac wd hS => ?_
      refine hS.call0 16 #[pt b29 0] 66 (ar_PagesD b29 F14 (m210, d9) _ (hS.mem.res 0) ) fun ac wd hS => ?_
      refine hS.opsC 1 [0] [5, 6, 25, 26, 27, 66] fun _ => seg [(67, vi nn)] [(0, none), (1, none), (2, none), (3, none)] [] trivial fun ac wd hS => ?_
      refine hS.call0 17 #[.agg #[vi (((m210, d9).1.cap : Nat) : Int), sc ((m210, d9).2.bw) ((m210, d9).2.ow) ((m210, d9).2.nw) ((m210, d9).2.cw)], vi 0, vi nn] 68 (bits_CountD b29 F14 (m210, d9) 0 nn _ (hS.mem.res 0) ) fun ac wd hS => ?_
      refine hS.opsC 5 [0, 0, 0, 0, 0] [5, 6, 25, 26, 27] fun _ => seg [(9, vi (cntV (m210, d9).1.com (m210, d9).1.cap 0 nn)), (10, vi (trnE (m210, d9).1.cap 0 nn))] [(0, none), (1, none), (2, none), (3, none)] [] trivial fun ac wd hS => ?_
      refine list_nil_seq ?_
      replace hS := hS.to (WS.ofD hS.mem)
      refine wp_region_seq ?_
      refine hS.opsC 3 [0, fx 0 (vb false), 0] [5, 6, 9, 25, 26, 27] fun _ => seg [(73, vb false)] [(0, none), (1, none), (2, none), (3, none)] [.p ((vb (((trnE (m210, d9).1.cap 0 nn) : Int) != 0) : Value) = vb false)] ⟨(congrArg Value.bool (by exact trn_ne hVc hcn.symm)), trivial⟩ fun ac wd hS => ?_
      refine hS.opsC 5 [1, 1, 1, 1, 201] [5, 6, 25, 26, 27, 73] fun _ => seg [(74, vi (cntV (m210, d9).1.com (m210, d9).1.cap 0 nn)), (78, .agg #[sc g211 u212 (capN nn) cp213, vi (rfA m210)])] [(0, none), (1, none), (2, none), (3, none)] [.t false, .e (ν9 0), .e (ν9 0), .t false, .t false, .t false, .t false] trivial fun ac wd hS => ?_
      refine hS.callG false 13 #[.agg #[sc g211 u212 (capN nn) cp213, vi (rfA m210)]] (ref03_CommittedM g211 u212 (capN nn) cp213 (rfA m210) m210 _ (hS.mem.get 3 g211 (.fn u212 (u212 + (capN nn)) (strs (pgS m210) u212))) (by exact hVc) (by exact hcb)) ?_
      rintro _ wd ⟨rfl, hF⟩
      refine ⟨vi ((countTo m210.com (capN nn) : Nat) : Int), rfl, ?_⟩
      replace hS := (hS.to (hS.mem.keep0 hF)).put (d := 79) (v := vi ((countTo m210.com (capN nn) : Nat) : Int)) (by decide)
      clear hF
      refine hS.opsC 3 [fx 1 (vb false), 60, 0] [5, 6, 25, 26, 27] fun _ => seg [(82, vb false)] [(0, none), (1, none), (2, none), (3, none)] [.t false, .t false, .p ((vb (((cntV (m210, d9).1.com (m210, d9).1.cap 0 nn) : Int) != ((countTo m210.com (capN nn) : Nat) : Int)) : Value) = vb false)] ⟨(congrArg Value.bool (by exact count_ne hVc hcn.symm)), trivial⟩ fun ac wd hS => ?_
      refine hS.opsC 5 [1, 1, 1, 201, 1] [5, 6, 25, 26, 27, 82] fun _ => seg [(86, pt b29 0), (87, vi nn)] [(0, none), (1, none), (2, none), (3, none)] [.t false, .t false, .e (ν9 0), .t false, .t false, .t false] trivial fun ac wd hS => ?_
      refine hS.callG false 18 #[pt b29 0, vi nn] (ar_Has b29 F14 m210 nn _ (hS.mem.res 0) ) ?_
      rintro _ wd ⟨rfl, hF⟩
      refine ⟨vb (hasV m210.com m210.cap nn), rfl, ?_⟩
      replace hS := (hS.to (hS.mem.keep0 hF)).put (d := 88) (v := vb (hasV m210.com m210.cap nn)) (by decide)
      clear hF
      refine hS.opsC 2 [60, 0] [5, 6, 25, 26, 27] fun _ => seg [(90, vb (hasV m210.com m210.cap nn))] [(0, none), (1, none), (2, none), (3, none)] [.t false] trivial fun ac wd hS => ?_
      have hg37o : (hasV m210.com m210.cap nn) = false := by exact has_out _ _ (by omega)
      replace hS := hS.fix 90 (vb false) (congrArg Value.bool hg37o)
      refine hS.opsC 4 [1, 1, 1, 201] [5, 6, 25, 26, 27, 90] fun _ => seg [(94, pt b29 0)] [(0, none), (1, none), (2, none), (3, none)] [.t false, .e (ν9 0), .t false, .t false, .t false] trivial fun ac wd hS => ?_
      refine hS.callG false 18 #[pt b29 0, vi (-1)] (ar_Has b29 F14 m210 (-1) _ (hS.mem.res 0) ) ?_
      rintro _ wd ⟨rfl, hF⟩
      refine ⟨vb (hasV m210.com m210.cap (-1)), rfl, ?_⟩
      replace hS := (hS.to (hS.mem.keep0 hF)).put (d := 95) (v := vb (hasV m210.com m210.cap (-1))) (by decide)
      clear hF
      refine hS.opsC 1 [60] [5, 6, 25, 26, 27] fun _ => seg [(96, vb (hasV m210.com m210.cap (-1)))] [(0, none), (1, none), (2, none), (3, none)] [.t false] trivial fun ac wd hS => ?_
      refine list_nil_seq ?_
      refine hS.condK (hasV m210.com m210.cap (-1)) false (by exact has_out _ _ (by omega)) ?_
      show Code.wp _ _ _ _ _
      refine wp_skip ?_
      refine pop_block ?_
      refine pop_then ?_
      refine hS.regC [20, 0] [5, 6, 25, 26] fun _ => seg [(27, vi (x27 + 1))] [(0, none), (1, none), (2, none), (3, none)] [.p (fit .i64 (x27 + 1))] ⟨fit_i64 (by omega), trivial⟩ fun ac wd hS => ?_
      replace hS := hS.to (hS.mem.perm [0, 1, 3, 2] (H' := [(0, .fn 0 64 dbT), (g9, .fn o9 (o9 + l.length * 6) (a3V (gtD l) o9)), (g211, .fn u212 (u212 + (capN nn)) (strs (pgS m210) u212)), ((ν9 0), .cells [pt b29 0, sc g211 u212 (capN nn) cp213, vi (rfA m210)] 33)]) (by as_aux_lemma => kernel_rfl) (by decide))
      exact pop_then (hS.next ((x27 + 1), F14, m210, b29, g211, u212, cp213) ⟨(by first | omega | assumption | (simp; done) | (simp; omega)), (by first | omega | assumption | (simp; done) | (simp; omega)), (by first | omega | assumption | (simp; done) | (simp; omega)), trivial⟩ (by dsimp only; omega))
     ·
      refine St.ord1 26 [301] [5, 6, 25, 26, 27, 48, 52] [0, 1, 2, 4] hS rfl fun _ => seg [(57, .agg #[sc g211 u212 (capN nn) cp213, vi (rfA m210)])] [(0, none), (1, none), (2, none), (3, none), (4, none), (5, none)] [.t false, .e (ν9 0), .e (ν9 0)] trivial ⟨by as_aux_lemma => kernel_rfl, fun ac wd hS => ?_⟩
      refine ord_nil ?_
      refine wpT_lin ?_
      refine hS.ordCG 22 false 15 #[pt b29 0] (l03_Of b29 F14 m210 _ (hS.mem.res 0) ) ?_
      rintro _ wd ⟨g238, rfl, hog0, hoh0, hF⟩
      have ho39 : w.heap.size ≤ g238 := Nat.le_trans hS.mem.fr.size hog0
      refine ⟨.agg #[sc g238 0 m210.cap m210.cap, vi (-1)], rfl, ?_⟩
      replace hS := (hS.to (hS.mem.outs hF [(g238, .fn 0 (0 + m210.cap) (strs (pgS m210) 0))] ⟨⟨rfl, hoh0, .inr hog0⟩, trivial⟩)).put (d := 53) (v := .agg #[sc g238 0 m210.cap m210.cap, vi (-1)]) (by decide)
      clear hF
      refine hS.ordV (l := [0, 1, 2, 4]) ?_
      refine hS.ordCG 27 false 14 #[.agg #[sc g238 0 m210.cap m210.cap, vi (-1)], .agg #[sc g211 u212 (capN nn) cp213, vi (rfA m210)]] (ref03_Same g238 0 m210.cap m210.cap (-1) g211 u212 (capN nn) cp213 (rfA m210) (pgS m210) (pgS m210) _ (hS.mem.get 6 g238 (.fn 0 (0 + m210.cap) (strs (pgS m210) 0))) (hS.mem.get 5 g211 (.fn u212 (u212 + (capN nn)) (strs (pgS m210) u212))) (by omega) (by omega)) ?_
      rintro _ wd ⟨rfl, hF⟩
      refine ⟨vb (sameA (pgS m210) (pgS m210) m210.cap (capN nn)), rfl, ?_⟩
      replace hS := (hS.to (hS.mem.keep0 hF)).put (d := 58) (v := vb (sameA (pgS m210) (pgS m210) m210.cap (capN nn))) (by decide)
      clear hF
      refine hS.ordV (l := [0, 1, 2, 4]) ?_
      refine St.ordF [1, 60] [28, 29] [5, 6, 25, 26, 27] (rest := []) hS hap <| segF [(60, vb (!(sameA (pgS m210) (pgS m210) m210.cap (capN nn))))] [.t false, .t false] trivial fun ac hS => ?_
      refine ord_nil ?_
      refine hS.condK (!(sameA (pgS m210) (pgS m210) m210.cap (capN nn))) false (by (rw [sameA_self _ hVc]; rfl)) ?_
      show Code.wp _ _ _ _ _
      refine wp_skip ?_
      refine pop_then ?_
      obtain ⟨d9, hS9⟩ := WS.toD hS.mem
      replace hS := hS.to hS9
      refine wp_region_seq ?_
      refine hS.opsC 4 [0, 0, 0, 300] [5, 6, 25, 26, 27] fun _ => seg [(65, pt b29 0)] [(0, none), (1, none), (3, none), (5, none)] [.e (ν9 0)] trivial fun ac wd hS => ?_
      refine hS.call0 16 #[pt b29 0] 66 (ar_PagesD b29 F14 (m210, d9) _ (hS.mem.res 0) ) fun ac wd hS => ?_
      refine hS.opsC 1 [0] [5, 6, 25, 26, 27, 66] fun _ => seg [(67, vi nn)] [(0, none), (1, none), (2, none), (3, none)] [] trivial fun ac wd hS => ?_
      refine hS.call0 17 #[.agg #[vi (((m210, d9).1.cap : Nat) : Int), sc ((m210, d9).2.bw) ((m210, d9).2.ow) ((m210, d9).2.nw) ((m210, d9).2.cw)], vi 0, vi nn] 68 (bits_CountD b29 F14 (m210, d9) 0 nn _ (hS.mem.res 0) ) fun ac wd hS => ?_
      refine hS.opsC 5 [0, 0, 0, 0, 0] [5, 6, 25, 26, 27] fun _ => seg [(9, vi (cntV (m210, d9).1.com (m210, d9).1.cap 0 nn)), (10, vi (trnE (m210, d9).1.cap 0 nn))] [(0, none), (1, none), (2, none), (3, none)] [] trivial fun ac wd hS => ?_
      refine list_nil_seq ?_
      replace hS := hS.to (WS.ofD hS.mem)
      refine wp_region_seq ?_
      refine hS.opsC 3 [0, fx 0 (vb false), 0] [5, 6, 9, 25, 26, 27] fun _ => seg [(73, vb false)] [(0, none), (1, none), (2, none), (3, none)] [.p ((vb (((trnE (m210, d9).1.cap 0 nn) : Int) != 0) : Value) = vb false)] ⟨(congrArg Value.bool (by exact trn_ne hVc hcn.symm)), trivial⟩ fun ac wd hS => ?_
      refine hS.opsC 5 [1, 1, 1, 1, 201] [5, 6, 25, 26, 27, 73] fun _ => seg [(74, vi (cntV (m210, d9).1.com (m210, d9).1.cap 0 nn)), (78, .agg #[sc g211 u212 (capN nn) cp213, vi (rfA m210)])] [(0, none), (1, none), (2, none), (3, none)] [.t false, .e (ν9 0), .e (ν9 0), .t false, .t false, .t false, .t false] trivial fun ac wd hS => ?_
      refine hS.callG false 13 #[.agg #[sc g211 u212 (capN nn) cp213, vi (rfA m210)]] (ref03_CommittedM g211 u212 (capN nn) cp213 (rfA m210) m210 _ (hS.mem.get 3 g211 (.fn u212 (u212 + (capN nn)) (strs (pgS m210) u212))) (by exact hVc) (by exact hcb)) ?_
      rintro _ wd ⟨rfl, hF⟩
      refine ⟨vi ((countTo m210.com (capN nn) : Nat) : Int), rfl, ?_⟩
      replace hS := (hS.to (hS.mem.keep0 hF)).put (d := 79) (v := vi ((countTo m210.com (capN nn) : Nat) : Int)) (by decide)
      clear hF
      refine hS.opsC 3 [fx 1 (vb false), 60, 0] [5, 6, 25, 26, 27] fun _ => seg [(82, vb false)] [(0, none), (1, none), (2, none), (3, none)] [.t false, .t false, .p ((vb (((cntV (m210, d9).1.com (m210, d9).1.cap 0 nn) : Int) != ((countTo m210.com (capN nn) : Nat) : Int)) : Value) = vb false)] ⟨(congrArg Value.bool (by exact count_ne hVc hcn.symm)), trivial⟩ fun ac wd hS => ?_
      refine hS.opsC 5 [1, 1, 1, 201, 1] [5, 6, 25, 26, 27, 82] fun _ => seg [(86, pt b29 0), (87, vi nn)] [(0, none), (1, none), (2, none), (3, none)] [.t false, .t false, .e (ν9 0), .t false, .t false, .t false] trivial fun ac wd hS => ?_
      refine hS.callG false 18 #[pt b29 0, vi nn] (ar_Has b29 F14 m210 nn _ (hS.mem.res 0) ) ?_
      rintro _ wd ⟨rfl, hF⟩
      refine ⟨vb (hasV m210.com m210.cap nn), rfl, ?_⟩
      replace hS := (hS.to (hS.mem.keep0 hF)).put (d := 88) (v := vb (hasV m210.com m210.cap nn)) (by decide)
      clear hF
      refine hS.opsC 2 [60, 0] [5, 6, 25, 26, 27] fun _ => seg [(90, vb (hasV m210.com m210.cap nn))] [(0, none), (1, none), (2, none), (3, none)] [.t false] trivial fun ac wd hS => ?_
      have hg40o : (hasV m210.com m210.cap nn) = false := by exact has_out _ _ (by omega)
      replace hS := hS.fix 90 (vb false) (congrArg Value.bool hg40o)
      refine hS.opsC 4 [1, 1, 1, 201] [5, 6, 25, 26, 27, 90] fun _ => seg [(94, pt b29 0)] [(0, none), (1, none), (2, none), (3, none)] [.t false, .e (ν9 0), .t false, .t false, .t false] trivial fun ac wd hS => ?_
      refine hS.callG false 18 #[pt b29 0, vi (-1)] (ar_Has b29 F14 m210 (-1) _ (hS.mem.res 0) ) ?_
      rintro _ wd ⟨rfl, hF⟩
      refine ⟨vb (hasV m210.com m210.cap (-1)), rfl, ?_⟩
      replace hS := (hS.to (hS.mem.keep0 hF)).put (d := 95) (v := vb (hasV m210.com m210.cap (-1))) (by decide)
      clear hF
      refine hS.opsC 1 [60] [5, 6, 25, 26, 27] fun _ => seg [(96, vb (hasV m210.com m210.cap (-1)))] [(0, none), (1, none), (2, none), (3, none)] [.t false] trivial fun ac wd hS => ?_
      refine list_nil_seq ?_
      refine hS.condK (hasV m210.com m210.cap (-1)) false (by exact has_out _ _ (by omega)) ?_
      show Code.wp _ _ _ _ _
      refine wp_skip ?_
      refine pop_block ?_
      refine pop_then ?_
      refine hS.regC [20, 0] [5, 6, 25, 26] fun _ => seg [(27, vi (x27 + 1))] [(0, none), (1, none), (2, none), (3, none)] [.p (fit .i64 (x27 + 1))] ⟨fit_i64 (by omega), trivial⟩ fun ac wd hS => ?_
      replace hS := hS.to (hS.mem.perm [0, 1, 3, 2] (H' := [(0, .fn 0 64 dbT), (g9, .fn o9 (o9 + l.length * 6) (a3V (gtD l) o9)), (g211, .fn u212 (u212 + (capN nn)) (strs (pgS m210) u212)), ((ν9 0), .cells [pt b29 0, sc g211 u212 (capN nn) cp213, vi (rfA m210)] 33)]) (by as_aux_lemma => kernel_rfl) (by decide))
      exact pop_then (hS.next ((x27 + 1), F14, m210, b29, g211, u212, cp213) ⟨(by first | omega | assumption | (simp; done) | (simp; omega)), (by first | omega | assumption | (simp; done) | (simp; omega)), (by first | omega | assumption | (simp; done) | (simp; omega)), trivial⟩ (by dsimp only; omega))
    ·
     refine St.ord1 26 [301] [5, 6, 25, 26, 27, 48, 51] [0, 1, 2, 4] hS rfl fun _ => seg [(57, .agg #[sc g211 u212 (capN nn) cp213, vi (rfA m210)])] [(0, none), (1, none), (2, none), (3, none), (4, none), (5, none)] [.t false, .e (ν9 0), .e (ν9 0)] trivial ⟨by as_aux_lemma => kernel_rfl, fun ac wd hS => ?_⟩
     refine ord_nil ?_
     refine wpT_lin ?_
     refine St.ord1 21 [301] [5, 6, 25, 26, 27, 48, 57] [0, 1, 2, 4] hS rfl fun _ => seg [(52, pt b29 0)] [(0, none), (1, none), (2, none), (3, none), (4, none), (5, none)] [.t false, .e (ν9 0)] trivial ⟨by as_aux_lemma => kernel_rfl, fun ac wd hS => ?_⟩
     refine hS.ordCG 22 false 15 #[pt b29 0] (l03_Of b29 F14 m210 _ (hS.mem.res 0) ) ?_
     rintro _ wd ⟨g241, rfl, hog0, hoh0, hF⟩
     have ho42 : w.heap.size ≤ g241 := Nat.le_trans hS.mem.fr.size hog0
     refine ⟨.agg #[sc g241 0 m210.cap m210.cap, vi (-1)], rfl, ?_⟩
     replace hS := (hS.to (hS.mem.outs hF [(g241, .fn 0 (0 + m210.cap) (strs (pgS m210) 0))] ⟨⟨rfl, hoh0, .inr hog0⟩, trivial⟩)).put (d := 53) (v := .agg #[sc g241 0 m210.cap m210.cap, vi (-1)]) (by decide)
     clear hF
     refine hS.ordV (l := [0, 1, 2, 4]) ?_
     refine hS.ordCG 27 false 14 #[.agg #[sc g241 0 m210.cap m210.cap, vi (-1)], .agg #[sc g211 u212 (capN nn) cp213, vi (rfA m210)]] (ref03_Same g241 0 m210.cap m210.cap (-1) g211 u212 (capN nn) cp213 (rfA m210) (pgS m210) (pgS m210) _ (hS.mem.get 6 g241 (.fn 0 (0 + m210.cap) (strs (pgS m210) 0))) (hS.mem.get 5 g211 (.fn u212 (u212 + (capN nn)) (strs (pgS m210) u212))) (by omega) (by omega)) ?_
     rintro _ wd ⟨rfl, hF⟩
     refine ⟨vb (sameA (pgS m210) (pgS m210) m210.cap (capN nn)), rfl, ?_⟩
     replace hS := (hS.to (hS.mem.keep0 hF)).put (d := 58) (v := vb (sameA (pgS m210) (pgS m210) m210.cap (capN nn))) (by decide)
     clear hF
     refine hS.ordV (l := [0, 1, 2, 4]) ?_
     refine St.ordF [1, 60] [28, 29] [5, 6, 25, 26, 27] (rest := []) hS hap <| segF [(60, vb (!(sameA (pgS m210) (pgS m210) m210.cap (capN nn))))] [.t false, .t false] trivial fun ac hS => ?_
     refine ord_nil ?_
     refine hS.condK (!(sameA (pgS m210) (pgS m210) m210.cap (capN nn))) false (by (rw [sameA_self _ hVc]; rfl)) ?_
     show Code.wp _ _ _ _ _
     refine wp_skip ?_
     refine pop_then ?_
     obtain ⟨d9, hS9⟩ := WS.toD hS.mem
     replace hS := hS.to hS9
     refine wp_region_seq ?_
     refine hS.opsC 4 [0, 0, 0, 300] [5, 6, 25, 26, 27] fun _ => seg [(65, pt b29 0)] [(0, none), (1, none), (3, none), (5, none)] [.e (ν9 0)] trivial fun ac wd hS => ?_
     refine hS.call0 16 #[pt b29 0] 66 (ar_PagesD b29 F14 (m210, d9) _ (hS.mem.res 0) ) fun ac wd hS => ?_
     refine hS.opsC 1 [0] [5, 6, 25, 26, 27, 66] fun _ => seg [(67, vi nn)] [(0, none), (1, none), (2, none), (3, none)] [] trivial fun ac wd hS => ?_
     refine hS.call0 17 #[.agg #[vi (((m210, d9).1.cap : Nat) : Int), sc ((m210, d9).2.bw) ((m210, d9).2.ow) ((m210, d9).2.nw) ((m210, d9).2.cw)], vi 0, vi nn] 68 (bits_CountD b29 F14 (m210, d9) 0 nn _ (hS.mem.res 0) ) fun ac wd hS => ?_
     refine hS.opsC 5 [0, 0, 0, 0, 0] [5, 6, 25, 26, 27] fun _ => seg [(9, vi (cntV (m210, d9).1.com (m210, d9).1.cap 0 nn)), (10, vi (trnE (m210, d9).1.cap 0 nn))] [(0, none), (1, none), (2, none), (3, none)] [] trivial fun ac wd hS => ?_
     refine list_nil_seq ?_
     replace hS := hS.to (WS.ofD hS.mem)
     refine wp_region_seq ?_
     refine hS.opsC 3 [0, fx 0 (vb false), 0] [5, 6, 9, 25, 26, 27] fun _ => seg [(73, vb false)] [(0, none), (1, none), (2, none), (3, none)] [.p ((vb (((trnE (m210, d9).1.cap 0 nn) : Int) != 0) : Value) = vb false)] ⟨(congrArg Value.bool (by exact trn_ne hVc hcn.symm)), trivial⟩ fun ac wd hS => ?_
     refine hS.opsC 5 [1, 1, 1, 1, 201] [5, 6, 25, 26, 27, 73] fun _ => seg [(74, vi (cntV (m210, d9).1.com (m210, d9).1.cap 0 nn)), (78, .agg #[sc g211 u212 (capN nn) cp213, vi (rfA m210)])] [(0, none), (1, none), (2, none), (3, none)] [.t false, .e (ν9 0), .e (ν9 0), .t false, .t false, .t false, .t false] trivial fun ac wd hS => ?_
     refine hS.callG false 13 #[.agg #[sc g211 u212 (capN nn) cp213, vi (rfA m210)]] (ref03_CommittedM g211 u212 (capN nn) cp213 (rfA m210) m210 _ (hS.mem.get 3 g211 (.fn u212 (u212 + (capN nn)) (strs (pgS m210) u212))) (by exact hVc) (by exact hcb)) ?_
     rintro _ wd ⟨rfl, hF⟩
     refine ⟨vi ((countTo m210.com (capN nn) : Nat) : Int), rfl, ?_⟩
     replace hS := (hS.to (hS.mem.keep0 hF)).put (d := 79) (v := vi ((countTo m210.com (capN nn) : Nat) : Int)) (by decide)
     clear hF
     refine hS.opsC 3 [fx 1 (vb false), 60, 0] [5, 6, 25, 26, 27] fun _ => seg [(82, vb false)] [(0, none), (1, none), (2, none), (3, none)] [.t false, .t false, .p ((vb (((cntV (m210, d9).1.com (m210, d9).1.cap 0 nn) : Int) != ((countTo m210.com (capN nn) : Nat) : Int)) : Value) = vb false)] ⟨(congrArg Value.bool (by exact count_ne hVc hcn.symm)), trivial⟩ fun ac wd hS => ?_
     refine hS.opsC 5 [1, 1, 1, 201, 1] [5, 6, 25, 26, 27, 82] fun _ => seg [(86, pt b29 0), (87, vi nn)] [(0, none), (1, none), (2, none), (3, none)] [.t false, .t false, .e (ν9 0), .t false, .t false, .t false] trivial fun ac wd hS => ?_
     refine hS.callG false 18 #[pt b29 0, vi nn] (ar_Has b29 F14 m210 nn _ (hS.mem.res 0) ) ?_
     rintro _ wd ⟨rfl, hF⟩
     refine ⟨vb (hasV m210.com m210.cap nn), rfl, ?_⟩
     replace hS := (hS.to (hS.mem.keep0 hF)).put (d := 88) (v := vb (hasV m210.com m210.cap nn)) (by decide)
     clear hF
     refine hS.opsC 2 [60, 0] [5, 6, 25, 26, 27] fun _ => seg [(90, vb (hasV m210.com m210.cap nn))] [(0, none), (1, none), (2, none), (3, none)] [.t false] trivial fun ac wd hS => ?_
     have hg43o : (hasV m210.com m210.cap nn) = false := by exact has_out _ _ (by omega)
     replace hS := hS.fix 90 (vb false) (congrArg Value.bool hg43o)
     refine hS.opsC 4 [1, 1, 1, 201] [5, 6, 25, 26, 27, 90] fun _ => seg [(94, pt b29 0)] [(0, none), (1, none), (2, none), (3, none)] [.t false, .e (ν9 0), .t false, .t false, .t false] trivial fun ac wd hS => ?_
     refine hS.callG false 18 #[pt b29 0, vi (-1)] (ar_Has b29 F14 m210 (-1) _ (hS.mem.res 0) ) ?_
     rintro _ wd ⟨rfl, hF⟩
     refine ⟨vb (hasV m210.com m210.cap (-1)), rfl, ?_⟩
     replace hS := (hS.to (hS.mem.keep0 hF)).put (d := 95) (v := vb (hasV m210.com m210.cap (-1))) (by decide)
     clear hF
     refine hS.opsC 1 [60] [5, 6, 25, 26, 27] fun _ => seg [(96, vb (hasV m210.com m210.cap (-1)))] [(0, none), (1, none), (2, none), (3, none)] [.t false] trivial fun ac wd hS => ?_
     refine list_nil_seq ?_
     refine hS.condK (hasV m210.com m210.cap (-1)) false (by exact has_out _ _ (by omega)) ?_
     show Code.wp _ _ _ _ _
     refine wp_skip ?_
     refine pop_block ?_
     refine pop_then ?_
     refine hS.regC [20, 0] [5, 6, 25, 26] fun _ => seg [(27, vi (x27 + 1))] [(0, none), (1, none), (2, none), (3, none)] [.p (fit .i64 (x27 + 1))] ⟨fit_i64 (by omega), trivial⟩ fun ac wd hS => ?_
     replace hS := hS.to (hS.mem.perm [0, 1, 3, 2] (H' := [(0, .fn 0 64 dbT), (g9, .fn o9 (o9 + l.length * 6) (a3V (gtD l) o9)), (g211, .fn u212 (u212 + (capN nn)) (strs (pgS m210) u212)), ((ν9 0), .cells [pt b29 0, sc g211 u212 (capN nn) cp213, vi (rfA m210)] 33)]) (by as_aux_lemma => kernel_rfl) (by decide))
     exact pop_then (hS.next ((x27 + 1), F14, m210, b29, g211, u212, cp213) ⟨(by first | omega | assumption | (simp; done) | (simp; omega)), (by first | omega | assumption | (simp; done) | (simp; omega)), (by first | omega | assumption | (simp; done) | (simp; omega)), trivial⟩ (by dsimp only; omega))
  ·
   refine wp_exit ?_
   refine pop_then_exit ?_
   refine pop_then_exit ?_
   refine pop_block_hit ?_
   refine pop_then ?_
   refine wp_region_seq ?_
   refine hS.opsC 4 [0, 0, 0, 300] [5] fun _ => seg [(101, pt bx 0)] [(0, none)] [.e (ν9 0)] trivial fun ac wd hS => ?_
   refine hS.call0 19 #[pt bx 0] 102 (ar_Cap bx Fx mx _ (hS.mem.res 0) ) fun ac wd hS => ?_
   refine hS.opsC 3 [0, 0, 0] [] fun _ => seg [(4, vb ((((mx.cap : Nat) : Int) : Int) == nn))] [(0, none)] [] trivial fun ac wd hS => ?_
   refine list_nil_seq ?_
   refine wp_ret ?_
   refine St.retC 0 hS (vb ((((mx.cap : Nat) : Int) : Int) == nn)) [] trivial fun hw => ?_
   refine ⟨retd (vbool ?_), hw.fr0⟩
   all_goals (first | rfl | exact beq_iff_eq.2 (by omega))

end Go.Proofs.YtdjhdcaanmkblaaDoor.K
