/-
  Walks, printed by w2.py.
-/
import Derived.Test.YtnbkafnikpbmbaaDoorLo
import Derived.Test.YtnbkafnikpbmbaaDoorLh
import Derived.Test.YtnbkafnikpbmbaaDoorProg
namespace Go.Proofs.YtnbkafnikpbmbaaDoor.K
set_option linter.unusedVariables false
set_option linter.unusedSimpArgs false

set_option maxRecDepth 100000 in
set_option maxHeartbeats 1000000 in
theorem law07_openN (n : Int) (w : World) (hn : 0 ≤ n ∧ n ≤ 12) :
    Calls Tryd.prog 43 #[vi n] w fun e w' => ∃ (b' : Nat) (F' : Nat → Prop), e = .returned (.tuple #[pt b' 0, .agg #[pt b' 0, vi 64, vi ((8 * n) + 3)], vb true]) ∧ (arR b' F' (comM (AM.new 3) 0 2)).R w' ∧ Fr w w' no F' := by
 refine enter (args := [vi n]) (D := no) (A := []) Tryd.func43 rfl 29 rfl [] (WS.startL trivial) fun ac hS => ?_
 refine hS.regS [0, 0, 0] [0] fun ν1 => seg [(3, pt (ν1 0) 0)] [(0, some ((ν1 0), .cells [pnil, vi 0, vi 0] 89))] [] trivial fun ac wd hS => ?_
 refine wp_region_seq ?_
 refine hS.callC 26 #[vi 3] (ar_New 3 _  ) ?_
 rintro _ wd ⟨b'1, F2, rfl, hN, hF⟩
 refine ⟨pt b'1 0, rfl, ?_⟩
 replace hS := (hS.to (hS.mem.newA hN hF)).put (d := 9) (v := pt b'1 0) (by decide)
 clear hF
 refine hS.opsC 1 [0] [0, 3] fun _ => seg [(5, pt b'1 0)] [(0, none)] [] trivial fun ac wd hS => ?_
 refine list_nil_seq ?_
 refine wp_region_seq ?_
 refine hS.opsC 1 [0] [0, 3, 5] fun _ => seg [(10, pt b'1 0)] [(0, none)] [] trivial fun ac wd hS => ?_
 refine hS.callC 56 #[pt b'1 0, vi 0, vi 2] (ar_Commit b'1 F2 (AM.new 3) 0 2 _ (hS.mem.res 0) ) ?_
 rintro _ wd ⟨F3, rfl, hA, hF⟩
 refine ⟨vi (comE (AM.new 3) 0 2), rfl, ?_⟩
 replace hS := (hS.to (hS.mem.stepA 0 rfl hA hF)).put (d := 11) (v := vi (comE (AM.new 3) 0 2)) (by decide)
 clear hF
 refine hS.opsC 1 [0] [0, 3, 5] fun _ => seg [(6, vi (comE (AM.new 3) 0 2))] [(0, none)] [] trivial fun ac wd hS => ?_
 refine list_nil_seq ?_
 refine wp_region_seq ?_
 refine hS.opsC 4 [0, 0, 20, 20] [3, 5, 6] fun _ => seg [(13, pt b'1 0), (16, vi ((8 * n) + 3))] [(0, none)] [.p (fit .i64 ((8 * n) + 3)), .p (fit .i64 (8 * n))] ⟨fit_i64 (by omega), fit_i64 (by omega), trivial⟩ fun ac wd hS => ?_
 refine hS.call0 52 #[pt b'1 0, vi 64, vi ((8 * n) + 3)] 17 (vw_Of b'1 F3 (comM (AM.new 3) 0 2) 64 ((8 * n) + 3) _ (hS.mem.res 0) (by exact lBase_thr (by omega))) fun ac wd hS => ?_
 refine hS.opsC 6 [0, 0, 0, 0, 100, 0] [3, 5, 6] fun ν6 => seg [(7, pt (ν6 0) 0), (8, vi 0)] [(0, none), (1, some ((ν6 0), .cells [pt b'1 0, vi 64, vi ((8 * n) + 3)] 72))] [.e (ν6 0), .e (ν6 0), .e (ν6 0)] trivial fun ac wd hS => ?_
 refine list_nil_seq ?_
 refine wp_region_seq ?_
 refine hS.opsC 2 [0, 100] [3, 6, 8] fun _ => seg [(20, pt b'1 0), (21, .agg #[pt b'1 0, vi 64, vi ((8 * n) + 3)])] [(0, none)] [.e (ν6 0), .e (ν6 0), .e (ν6 0)] trivial fun ac wd hS => ?_
 refine hS.call0 54 #[.agg #[pt b'1 0, vi 64, vi ((8 * n) + 3)]] 22 (ls_Open b'1 64 ((8 * n) + 3) _  ) fun ac wd hS => ?_
 refine hS.opsC 9 [0, 0, 0, 3, 3, 80, 0, 0, 0] [3] fun _ => seg [(2, pt b'1 0), (4, vb ((((comE (AM.new 3) 0 2) : Int) == 0) && true))] [(0, some ((ν1 0), .cells [pt b'1 0, vi 64, vi ((8 * n) + 3)] 89))] [.e (ν1 0), .e (ν1 0), .e (ν1 0)] trivial fun ac wd hS => ?_
 refine list_nil_seq ?_
 refine wp_ret ?_
 refine St.retC 0 hS (.tuple #[pt b'1 0, .agg #[pt b'1 0, vi 64, vi ((8 * n) + 3)], vb ((((comE (AM.new 3) 0 2) : Int) == 0) && true)]) [.e (ν1 0), .e (ν1 0), .e (ν1 0)] trivial fun hw => ?_
 refine ⟨b'1, F3, retd (tuple3 rfl rfl (vbool ?_)), (hw.res 0), hw.frA⟩
 all_goals (first | rfl | decide +kernel)

set_option maxRecDepth 100000 in
set_option maxHeartbeats 1000000 in
theorem law07_place (yb : Bool) (yk : Int) (yh : Int) (w : World) (hh : 0 ≤ yh ∧ yh ≤ 65535) :
    Calls Tryd.prog 44 #[.agg #[vb yb, vi yk, .int .u16 yh]] w fun e w' => e = .returned (.tuple #[vi (4096 + (16 * (yh % 512))), vb (decide ((4096 + (16 * (yh % 512)) : Int) < 8192))]) ∧ Fr w w' no no := by
 refine enter (args := [.agg #[vb yb, vi yk, .int .u16 yh]]) (D := no) (A := []) Tryd.func44 rfl 14 rfl [] (WS.startL trivial) fun ac hS => ?_
 refine hS.regS [0, 0, 0] [] fun ν1 => seg [(1, pt (ν1 0) 0)] [(0, some ((ν1 0), .cells [vb yb, vi yk, .int .u16 yh] 95))] [] trivial fun ac wd hS => ?_
 refine hS.regS [0, 0, 20, 20, 20, 20, 0] [] fun _ => seg [(4, vi (4096 + (16 * (yh % 512))))] [] [.p (fit .i64 (4096 + (16 * (yh % 512)))), .p (fit .i64 (16 * (yh % 512))), .p (fit .i64 (yh % 512)), .p ((512 : Int) ≠ 0 ∧ Int.tmod yh 512 = yh % 512), .e (ν1 0)] ⟨fit_i64 (by omega), fit_i64 (by omega), fit_i64 (by omega), rem2 (by omega) (by omega), trivial⟩ fun ac wd hS => ?_
 refine hS.regS [0, 0, 0, 0, 0] [] fun _ => seg [(2, vi (4096 + (16 * (yh % 512)))), (3, vb (decide (((4096 + (16 * (yh % 512))) : Int) < 8192)))] [] [] trivial fun ac wd hS => ?_
 refine wp_ret ?_
 refine St.retC 0 hS (.tuple #[vi (4096 + (16 * (yh % 512))), vb (decide (((4096 + (16 * (yh % 512))) : Int) < 8192))]) [] trivial fun hw => ?_
 refine ⟨retd (tuple2 rfl (vbool ?_)), hw.fr0⟩
 all_goals (first | rfl | (simp; done))

set_option maxRecDepth 100000 in
set_option maxHeartbeats 1000000 in
theorem law07_ListPlays (size : Int) (ao7 : Option Addr) (c7 : Nat) (g7 : Nat) (o7 : Nat) (l : List (Bool × Int × Int)) (w : World) (hh0 : HE.holds w 0 (.fn 0 64 dbT)) (hh1 : HE.holds w g7 (.fn o7 (o7 + l.length * 3) (a7V (gtD l) o7))) (hv7 : (l.length = 0 ∨ ao7 = some ⟨g7, o7, none⟩)) (hsz : 0 ≤ size ∧ size ≤ 255) (hA : ∀ i, i < l.length → rg_a7V (gtD l i)) :
    Calls Tryd.prog 7 #[v8 size, .slice ao7 l.length c7] w fun e w' => e = .returned (vb true) ∧ Fr w w' no no := by
 refine enter (args := [v8 size, .slice ao7 l.length c7]) (D := no) (A := []) Tryd.func7 rfl 141 rfl [(0, .fn 0 64 dbT), (g7, .fn o7 (o7 + l.length * 3) (a7V (gtD l) o7))] (WS.startL ⟨⟨rfl, hh0⟩, ⟨rfl, hh1⟩, trivial⟩) fun ac hS => ?_
 refine hS.regS [0] [0, 1] fun _ => seg [] [(0, none), (1, none)] [] trivial fun ac wd hS => ?_
 refine wp_seq ?_
 refine wp_region_seq ?_
 refine hS.call0 42 #[] 20 (law07_awake  _ (hS.mem.get 0 0 (.fn 0 64 dbT)) ) fun ac wd hS => ?_
 refine hS.opsC 1 [0] [0, 1] fun _ => seg [(21, vb false)] [(0, none), (1, none)] [] trivial fun ac wd hS => ?_
 refine list_nil_seq ?_
 refine hS.condF ?_
 refine wp_skip ?_
 refine pop_then ?_
 refine wp_seq ?_
 refine hS.regS [0, 0, 0] [0, 1] fun _ => seg [(24, vb (decide ((80 : Int) < ((l.length : Nat) : Int))))] [(0, none), (1, none)] [] trivial fun ac wd hS => ?_
 refine hS.condC (decide ((80 : Int) < ((l.length : Nat) : Int))) (fun hb1o hb1 => ?_) (fun hb1o hb1 => ?_)
 ·
  refine hS.regS [0] [] fun _ => seg [(4, vb true)] [(0, none)] [] trivial fun ac wd hS => ?_
  refine wp_ret ?_
  refine pop_then_ret ?_
  refine St.retC 0 hS (vb true) [] trivial fun hw => ?_
  refine ⟨retd rfl, hw.fr0⟩
 ·
  refine wp_skip ?_
  refine pop_then ?_
  refine hS.regS [0, 20, 20, 0] [1] fun _ => seg [(5, vi (size % 13))] [(0, none), (1, none)] [.p ((13 : Int) ≠ 0 ∧ Int.tmod size 13 = size % 13), .p (fit .i64 size)] ⟨rem2 (by omega) (by omega), fit_i64 (by omega), trivial⟩ fun ac wd hS => ?_
  obtain ⟨nn, nn_e⟩ : ∃ q_ : Int, q_ = (size % 13) := ⟨_, rfl⟩
  replace hS := hS.fix 5 (vi nn) (show (vi (size % 13) : Value) = vi nn by rw [nn_e])
  have hnn : 0 ≤ nn ∧ nn ≤ 12 := by omega
  clear nn_e
  refine wp_region_seq ?_
  refine hS.opsC 1 [0] [1, 5] fun _ => seg [(29, vi nn)] [(0, none), (1, none)] [] trivial fun ac wd hS => ?_
  refine hS.callC 43 #[vi nn] (law07_openN nn _  (by omega)) ?_
  rintro _ wd ⟨b'2, F3, rfl, hN, hF⟩
  refine ⟨.tuple #[pt b'2 0, .agg #[pt b'2 0, vi 64, vi ((8 * nn) + 3)], vb true], rfl, ?_⟩
  replace hS := (hS.to (hS.mem.newA hN hF)).put (d := 30) (v := .tuple #[pt b'2 0, .agg #[pt b'2 0, vi 64, vi ((8 * nn) + 3)], vb true]) (by decide)
  clear hF
  refine hS.opsC 8 [0, 0, 0, 0, 0, 0, 200, 0] [1, 5] fun ν7 => seg [(6, pt b'2 0), (7, pt (ν7 0) 0), (8, vb true)] [(0, none), (1, none), (2, some ((ν7 0), .cells [pt b'2 0, vi 64, vi ((8 * nn) + 3)] 89))] [.e (ν7 0), .e (ν7 0), .e (ν7 0)] trivial fun ac wd hS => ?_
  refine list_nil_seq ?_
  refine wp_seq ?_
  refine hS.regS [0, 0] [1, 5, 6, 7] fun _ => seg [(35, vb false)] [(0, none), (1, none), (2, none)] [] trivial fun ac wd hS => ?_
  refine hS.condF ?_
  refine wp_skip ?_
  refine pop_then ?_
  refine wp_region_seq ?_
  refine hS.opsC 1 [0] [1, 5, 6, 7] fun _ => seg [(36, vi nn)] [(0, none), (1, none), (2, none)] [] trivial fun ac wd hS => ?_
  refine Runs1.list ?_
  obtain ⟨i_, hi_, hz_, hs_, hb_⟩ := info_get (P := Tryd.prog) (e := 34) (z := vnil) (s := 1) (b := 24) (by kernel_rfl)
  refine St.makeV hS 92 (.tmp 36) (.tmp 36) rfl rfl (by decide) Tryd.underlying92 hi_ hz_ hs_ rfl (by omega) (by decide) (q := nn) (q2 := nn) rfl (by omega) (f := (hdV (fun _ => (((none, 0, []) : HdI))) 0)) (hdV_zero) fun ac wd gm4 hm5 hS => ?_
  rw [Nat.mul_one] at hS
  refine hS.opsC 1 [0] [1, 5, 6, 7] fun _ => seg [(9, sc gm4 0 (Int.toNat nn) (Int.toNat nn))] [(0, none), (1, none), (2, none), (3, none)] [] trivial fun ac wd hS => ?_
  refine list_nil_seq ?_
  refine wp_seq ?_
  replace hS := hS.to (hS.mem.llNew 0 no (List.replicate (Int.toNat nn) ((none, 0, []) : HdI)) (fun i_ hi_ => by rw [gtD_rep (by simpa using hi_)]; rfl))
  refine hS.regS [0, 0, 0] [5, 6, 7, 9] fun _ => seg [(38, .slice ao7 l.length c7), (39, vi ((l.length : Nat) : Int)), (40, vi 0)] [(0, none), (1, none), (2, none), (3, none)] [] trivial fun ac wd hS => ?_
  refine wp_block ?_
  have hn_ : (List.replicate (Int.toNat nn) ((none, 0, []) : HdI)).length = (Int.toNat nn) := by first | rfl | simp
  replace hS := hS.fix 9 (sc gm4 0 ((List.replicate (Int.toNat nn) ((none, 0, []) : HdI)).length) (Int.toNat nn)) (show (sc gm4 0 (Int.toNat nn) (Int.toNat nn) : Value) = sc gm4 0 ((List.replicate (Int.toNat nn) ((none, 0, []) : HdI)).length) (Int.toNat nn) by rw [hn_])
  replace hS := hS.to (hS.mem.share (b := gm4) (e := 34) (m := (Int.toNat nn)) (tot := (Int.toNat nn)) (f := (hdV (fun _ => (((none, 0, []) : HdI))) 0)) 3 (0 + (List.replicate (Int.toNat nn) ((none, 0, []) : HdI)).length) (hdV (gtD (List.replicate (Int.toNat nn) ((none, 0, []) : HdI))) 0) (by omega) (fun x_ hx_ => hdV_cg0 (E := fun _ => ((none, 0, []) : HdI)) (n := Int.toNat nn) (fun i hi => (gtD_rep hi).symm) x_ (by omega)))
  refine St.loopC (σ := Int × (Nat → Prop) × AM × Option Addr × Nat × Nat × Nat × List (HdI)) (fun (x : Int × (Nat → Prop) × AM × Option Addr × Nat × Nat × Nat × List (HdI)) => match x with | (x40, Fx, mx, aoq, cq, gq, oq, lq) => ⟨[(5, [], vi nn), (6, [], pt b'2 0), (7, [], pt (ν7 0) 0), (9, [], .slice aoq lq.length cq), (38, [], .slice ao7 l.length c7), (39, [], vi ((l.length : Nat) : Int)), (40, [], vi x40)], [(0, .fn 0 64 dbT), (g7, .fn o7 (o7 + l.length * 3) (a7V (gtD l) o7)), ((ν7 0), .cells [pt b'2 0, vi 64, vi ((8 * nn) + 3)] 89), (gq, .fn oq (oq + lq.length) (hdV (gtD lq) oq))], [arR b'2 Fx mx, llR 0 no lq], (0 ≤ x40 ∧ x40 ≤ ((l.length : Nat) : Int)) ∧ (LsT mx ((8 * nn) + 3) lq (Int.toNat x40)) ∧ (lq.length = 0 ∨ aoq = some ⟨gq, oq, none⟩) ∧ True, l.length - Int.toNat x40⟩) (0, F3, (comM (AM.new 3) 0 2), (some ⟨gm4, 0, none⟩), (Int.toNat nn), gm4, 0, (List.replicate (Int.toNat nn) ((none, 0, []) : HdI))) ⟨(by omega), (by (have h9_ := LsT.zero (n := Int.toNat nn) (by omega); rw [Int.toNat_of_nonneg hnn.1] at h9_; exact h9_)), (by exact (.inr rfl)), trivial⟩ hS ?_
  clear hS
  rintro ⟨x40, Fx, mx, aoq, cq, gq, oq, lq⟩ ⟨i0, i1, hvq, -⟩ ac wd hS
  replace i0 : 0 ≤ x40 ∧ x40 ≤ ((l.length : Nat) : Int) := i0
  replace i1 : LsT mx ((8 * nn) + 3) lq (Int.toNat x40) := i1
  replace hvq : lq.length = 0 ∨ aoq = some ⟨gq, oq, none⟩ := hvq
  refine hS.regS [0] [5, 6, 7, 9, 38, 39, 40] fun _ => seg [(41, vb (decide ((x40 : Int) < ((l.length : Nat) : Int))))] [(0, none), (1, none), (2, none), (3, none)] [] trivial fun ac wd hS => ?_
  refine wp_seq ?_
  refine hS.condC (decide ((x40 : Int) < ((l.length : Nat) : Int))) (fun hb6o hb6 => ?_) (fun hb6o hb6 => ?_)
  ·
   refine wp_skip ?_
   refine pop_then ?_
   refine wp_seq ?_
   refine wp_block ?_
   obtain rfl : ao7 = some ⟨g7, o7, none⟩ := Or.resolve_left hv7 (by omega)
   refine hS.regS [20, fx 100 (.agg #[vb (((gtD l) (Int.toNat x40)).1), vi (((gtD l) (Int.toNat x40)).2.1), .int .u16 (((gtD l) (Int.toNat x40)).2.2)]), 0, 400] [5, 6, 7, 9, 38, 39, 40] fun ν13 => seg [(11, pt (ν13 0) 0)] [(0, none), (1, none), (2, none), (3, none), (4, some ((ν13 0), .cells [vb (((gtD l) (Int.toNat x40)).1), vi (((gtD l) (Int.toNat x40)).2.1), .int .u16 (((gtD l) (Int.toNat x40)).2.2)] 95))] [.e (ν13 0), .e (ν13 0), .e (ν13 0), .p ((.agg #[((a7V (gtD l) o7) (o7 + Int.toNat x40 * 3)), ((a7V (gtD l) o7) (o7 + Int.toNat x40 * 3 + 1)), ((a7V (gtD l) o7) (o7 + Int.toNat x40 * 3 + 2))] : Value) = .agg #[vb (((gtD l) (Int.toNat x40)).1), vi (((gtD l) (Int.toNat x40)).2.1), .int .u16 (((gtD l) (Int.toNat x40)).2.2)]), .e g7, .p (o7 ≤ o7 + Int.toNat x40 * 3 + 2 ∧ o7 + Int.toNat x40 * 3 + 2 < (o7 + l.length * 3)), .e g7, .p (o7 ≤ o7 + Int.toNat x40 * 3 + 1 ∧ o7 + Int.toNat x40 * 3 + 1 < (o7 + l.length * 3)), .e g7, .p (o7 ≤ o7 + Int.toNat x40 * 3 ∧ o7 + Int.toNat x40 * 3 < (o7 + l.length * 3)), .p ((0 : Int) ≤ x40 ∧ (x40 : Int) < ((l.length : Nat) : Int))] ⟨(agg3 (a7V_0 (gtD l) o7 (Int.toNat x40)) (a7V_1 (gtD l) o7 (Int.toNat x40)) (a7V_2 (gtD l) o7 (Int.toNat x40))), (by omega), (by omega), (by omega), (by omega), trivial⟩ fun ac wd hS => ?_
   obtain ⟨yb, yb_e⟩ : ∃ q_ : Bool, q_ = (((gtD l) (Int.toNat x40)).1) := ⟨_, rfl⟩
   obtain ⟨yK, yK_e⟩ : ∃ q_ : Int, q_ = ((gtD l) (Int.toNat x40)).2.1 := ⟨_, rfl⟩
   obtain ⟨yh, yh_e⟩ : ∃ q_ : Int, q_ = ((gtD l) (Int.toNat x40)).2.2 := ⟨_, rfl⟩
   replace hS := hS.to (hS.mem.tell 4 (b := (ν13 0)) (x := (.cells [vb (((gtD l) (Int.toNat x40)).1), vi (((gtD l) (Int.toNat x40)).2.1), .int .u16 (((gtD l) (Int.toNat x40)).2.2)] 95)) (.cells [vb yb, vi yK, .int .u16 yh] 95) (hh := fun h_ => by rw [yb_e, yK_e, yh_e]; exact h_))
   have hac := hA _ (show Int.toNat x40 < l.length by omega)
   unfold rg_a7V at hac
   rw [← yK_e, ← yh_e] at hac
   clear yb_e yK_e yh_e
   obtain ⟨hac1, hac2, _⟩ := hac
   have hn8 := i1.n12
   refine wp_region_seq ?_
   refine hS.opsC 1 [400] [5, 6, 7, 9, 11, 38, 39, 40] fun _ => seg [(45, .agg #[vb yb, vi yK, .int .u16 yh])] [(0, none), (1, none), (2, none), (3, none), (4, none)] [.e (ν13 0), .e (ν13 0), .e (ν13 0)] trivial fun ac wd hS => ?_
   refine hS.call0 44 #[.agg #[vb yb, vi yK, .int .u16 yh]] 46 (law07_place yb yK yh _  (by omega)) fun ac wd hS => ?_
   refine hS.opsC 5 [0, 0, 0, 0, 0] [5, 6, 7, 9, 11, 38, 39, 40] fun _ => seg [(12, vi (4096 + (16 * (yh % 512)))), (13, vb (decide ((4096 + (16 * (yh % 512)) : Int) < 8192)))] [(0, none), (1, none), (2, none), (3, none), (4, none)] [] trivial fun ac wd hS => ?_
   refine list_nil_seq ?_
   refine wp_seq ?_
   obtain ⟨yA, yA_e⟩ : ∃ q_ : Int, q_ = (4096 + (16 * (yh % 512))) := ⟨_, rfl⟩
   replace hS := hS.fix 12 (vi yA) (show (vi (4096 + (16 * (yh % 512))) : Value) = vi yA by rw [yA_e])
   obtain ⟨t_, hyt, hyt2⟩ : ∃ t_ : Nat, yA = 4096 + 16 * (t_ : Int) ∧ t_ < 512 := ⟨(yh % 512).toNat, by omega, by omega⟩
   replace hS := hS.fix 13 (vb (decide (yA < 8192))) (show (vb (decide ((4096 + (16 * (yh % 512)) : Int) < 8192)) : Value) = vb (decide (yA < 8192)) by rw [yA_e])
   clear yA_e
   refine hS.regS [0, 400, 0] [5, 6, 7, 9, 11, 12, 13, 38, 39, 40] fun _ => seg [(51, vb (!yb))] [(0, none), (1, none), (2, none), (3, none), (4, none)] [.e (ν13 0)] trivial fun ac wd hS => ?_
   refine hS.condC (!yb) (fun hb7o hb7 => ?_) (fun hb7o hb7 => ?_)
   ·
    refine hS.regS [0] [5, 6, 7, 9, 11, 12, 13, 38, 39, 40] fun _ => seg [(14, vb false)] [(0, none), (1, none), (2, none), (3, none), (4, none)] [] trivial fun ac wd hS => ?_
    refine wp_seq ?_
    refine hS.regS [0, 0, 0] [5, 6, 7, 9, 11, 12, 13, 14, 38, 39, 40] fun _ => seg [(53, vi ((lq.length : Nat) : Int)), (54, vi 0)] [(0, none), (1, none), (2, none), (3, none), (4, none)] [] trivial fun ac wd hS => ?_
    refine wp_block ?_
    refine St.loopC (σ := Bool × Int) (fun (x : Bool × Int) => match x with | (x14, x54) => ⟨[(5, [], vi nn), (6, [], pt b'2 0), (7, [], pt (ν7 0) 0), (9, [], .slice aoq lq.length cq), (11, [], pt (ν13 0) 0), (12, [], vi yA), (13, [], vb (decide (yA < 8192))), (14, [], vb x14), (38, [], sc g7 o7 l.length c7), (39, [], vi ((l.length : Nat) : Int)), (40, [], vi x40), (53, [], vi ((lq.length : Nat) : Int)), (54, [], vi x54)], [(0, .fn 0 64 dbT), (g7, .fn o7 (o7 + l.length * 3) (a7V (gtD l) o7)), ((ν7 0), .cells [pt b'2 0, vi 64, vi ((8 * nn) + 3)] 89), (gq, .fn oq (oq + lq.length) (hdV (gtD lq) oq)), ((ν13 0), .cells [vb yb, vi yK, .int .u16 yh] 95)], [arR b'2 Fx mx, llR 0 no lq], (0 ≤ x54 ∧ x54 ≤ ((lq.length : Nat) : Int)) ∧ (x14 = elsF lq yK yA (Int.toNat x54)) ∧ True, lq.length - Int.toNat x54⟩) (false, 0) ⟨(by first | omega | rfl), (by first | omega | rfl), trivial⟩ hS ?_
    clear hS
    rintro ⟨x14, x54⟩ ⟨j0, j1, -⟩ ac wd hS
    replace j0 : 0 ≤ x54 ∧ x54 ≤ ((lq.length : Nat) : Int) := j0
    replace j1 : x14 = elsF lq yK yA (Int.toNat x54) := j1
    refine hS.regS [0] [5, 6, 7, 9, 11, 12, 13, 14, 38, 39, 40, 53, 54] fun _ => seg [(55, vb (decide ((x54 : Int) < ((lq.length : Nat) : Int))))] [(0, none), (1, none), (2, none), (3, none), (4, none)] [] trivial fun ac wd hS => ?_
    refine wp_seq ?_
    refine hS.condC (decide ((x54 : Int) < ((lq.length : Nat) : Int))) (fun hb8o hb8 => ?_) (fun hb8o hb8 => ?_)
    ·
     refine wp_skip ?_
     refine pop_then ?_
     refine wp_seq ?_
     refine wp_block ?_
     refine hS.regS [0, 0] [5, 6, 7, 9, 11, 12, 13, 14, 38, 39, 40, 53, 54] fun _ => seg [(15, vi x54)] [(0, none), (1, none), (2, none), (3, none), (4, none)] [] trivial fun ac wd hS => ?_
     refine wp_region_lit ?_
     refine hS.opsC 2 [0, 0] [5, 6, 7, 9, 11, 12, 13, 14, 15, 38, 39, 40, 53, 54] fun _ => seg [(58, vb x14)] [(0, none), (1, none), (2, none), (3, none), (4, none)] [] trivial fun ac wd hS => ?_
     rcases Bool.eq_false_or_eq_true x14 with hg9o | hg9o
     ·
      have hg9 := nrm hg9o
      replace hS := hS.fix 14 (vb true) (congrArg Value.bool hg9o)
      replace hS := hS.fix 58 (vb true) (congrArg Value.bool hg9o)
      refine hS.opsC 5 [2, 2, 2, 2, 2] [5, 6, 7, 9, 11, 12, 13, 14, 15, 38, 39, 40, 53, 54, 58] fun _ => seg [(63, undef)] [(0, none), (1, none), (2, none), (3, none), (4, none)] [.t true, .t true, .t true, .t true, .t true] trivial fun ac wd hS => ?_
      refine hS.opsC 7 [4, 4, 4, 4, 2, 70, 0] [5, 6, 7, 9, 11, 12, 13, 38, 39, 40, 53, 54] fun _ => seg [(14, vb true)] [(0, none), (1, none), (2, none), (3, none), (4, none)] [.t true, .t true, .u, .u, .u, .u] trivial fun ac wd hS => ?_
      refine list_nil ?_
      refine pop_block ?_
      refine pop_then ?_
      refine hS.regC [20, 0] [5, 6, 7, 9, 11, 12, 13, 14, 38, 39, 40, 53] fun _ => seg [(54, vi (x54 + 1))] [(0, none), (1, none), (2, none), (3, none), (4, none)] [.p (fit .i64 (x54 + 1))] ⟨fit_i64 (by omega), trivial⟩ fun ac wd hS => ?_
      exact pop_then (hS.next (true, (x54 + 1)) ⟨(by first | omega | assumption | (simp; done) | (simp; omega)), (by (rw [els_step _ _ _ j0.1, ← j1]; first | rfl | (simp_all; done))), trivial⟩ (by dsimp only; omega))
     ·
      have hg9 := nrm hg9o
      replace hS := hS.fix 14 (vb false) (congrArg Value.bool hg9o)
      replace hS := hS.fix 58 (vb false) (congrArg Value.bool hg9o)
      refine hS.opsC 5 [1, 1, 401, 1, 1] [5, 6, 7, 9, 11, 12, 13, 14, 15, 38, 39, 40, 53, 54, 58] fun _ => seg [(63, vb ((x54 : Int) != yK))] [(0, none), (1, none), (2, none), (3, none), (4, none)] [.t false, .t false, .t false, .e (ν13 0), .t false, .t false] trivial fun ac wd hS => ?_
      rcases Bool.eq_false_or_eq_true ((x54 : Int) != yK) with hg10o | hg10o
      ·
       have hg10 := nrm hg10o
       replace hS := hS.fix 63 (vb true) (congrArg Value.bool hg10o)
       refine hS.opsC 3 [1, 1, 1] [5, 6, 7, 9, 11, 12, 13, 14, 38, 39, 40, 53, 54, 58, 63] fun _ => seg [(64, .slice aoq lq.length cq), (65, vi x54), (66, vi yA)] [(0, none), (1, none), (2, none), (3, none), (4, none)] [.t true, .t true, .t true] trivial fun ac wd hS => ?_
       refine hS.callG true 45 #[.slice aoq lq.length cq, vi x54, vi yA] (r7_Has aoq cq gq oq lq x54 yA _ (hS.mem.get 0 0 (.fn 0 64 dbT)) (hS.mem.get 3 gq (.fn oq (oq + lq.length) (hdV (gtD lq) oq))) hvq (by omega) (by exact hS.mem.llGet 1) (by first | exact hR9.hB (by omega) | exact i1.hB (by omega))) ?_
       rintro _ wd ⟨rfl, hF⟩
       refine ⟨vb (rHas lq x54 yA), rfl, ?_⟩
       replace hS := (hS.to (hS.mem.keep0 hF)).put (d := 67) (v := vb (rHas lq x54 yA)) (by decide)
       clear hF
       refine hS.opsC 3 [71, 60, 0] [5, 6, 7, 9, 11, 12, 13, 38, 39, 40, 53, 54] fun _ => seg [(14, vb (rHas lq x54 yA))] [(0, none), (1, none), (2, none), (3, none), (4, none)] [.t false, .t false, .t true] trivial fun ac wd hS => ?_
       refine list_nil ?_
       refine pop_block ?_
       refine pop_then ?_
       refine hS.regC [20, 0] [5, 6, 7, 9, 11, 12, 13, 14, 38, 39, 40, 53] fun _ => seg [(54, vi (x54 + 1))] [(0, none), (1, none), (2, none), (3, none), (4, none)] [.p (fit .i64 (x54 + 1))] ⟨fit_i64 (by omega), trivial⟩ fun ac wd hS => ?_
       exact pop_then (hS.next ((rHas lq x54 yA), (x54 + 1)) ⟨(by first | omega | assumption | (simp; done) | (simp; omega)), (by (rw [els_step _ _ _ j0.1, ← j1]; first | rfl | (simp_all; done))), trivial⟩ (by dsimp only; omega))
      ·
       have hg10 := nrm hg10o
       replace hS := hS.fix 63 (vb false) (congrArg Value.bool hg10o)
       refine hS.opsC 7 [2, 2, 2, 2, 61, 60, 0] [5, 6, 7, 9, 11, 12, 13, 38, 39, 40, 53, 54] fun _ => seg [(14, vb false)] [(0, none), (1, none), (2, none), (3, none), (4, none)] [.t false, .t false, .t false, .t false, .t false, .t false, .t false] trivial fun ac wd hS => ?_
       refine list_nil ?_
       refine pop_block ?_
       refine pop_then ?_
       refine hS.regC [20, 0] [5, 6, 7, 9, 11, 12, 13, 14, 38, 39, 40, 53] fun _ => seg [(54, vi (x54 + 1))] [(0, none), (1, none), (2, none), (3, none), (4, none)] [.p (fit .i64 (x54 + 1))] ⟨fit_i64 (by omega), trivial⟩ fun ac wd hS => ?_
       exact pop_then (hS.next (false, (x54 + 1)) ⟨(by first | omega | assumption | (simp; done) | (simp; omega)), (by (rw [els_step _ _ _ j0.1, ← j1]; first | rfl | (simp_all; done))), trivial⟩ (by dsimp only; omega))
    ·
     refine wp_exit ?_
     refine pop_then_exit ?_
     refine pop_then_exit ?_
     refine pop_block_hit ?_
     refine pop_then ?_
     refine hS.regS [0] [5, 6, 7, 9, 11, 12, 13, 38, 39, 40] fun _ => seg [(71, vb x14)] [(0, none), (1, none), (2, none), (3, none), (4, none)] [] trivial fun ac wd hS => ?_
     refine hS.condC x14 (fun hb11o hb11 => ?_) (fun hb11o hb11 => ?_)
     ·
      refine wp_exit ?_
      refine pop_then_exit ?_
      refine pop_block_hit ?_
      refine pop_then ?_
      refine hS.regC [20, 0] [5, 6, 7, 9, 38, 39] fun _ => seg [(40, vi (x40 + 1))] [(0, none), (1, none), (2, none), (3, none)] [.p (fit .i64 (x40 + 1))] ⟨fit_i64 (by omega), trivial⟩ fun ac wd hS => ?_
      replace hS := hS.perm (H' := [(0, .fn 0 64 dbT), (g7, .fn o7 (o7 + l.length * 3) (a7V (gtD l) o7)), ((ν7 0), .cells [pt b'2 0, vi 64, vi ((8 * nn) + 3)] 89), (gq, .fn oq (oq + lq.length) (hdV (gtD lq) oq))]) [0, 1, 2, 3] (by as_aux_lemma => kernel_rfl) (by decide)
      exact pop_then (hS.next ((x40 + 1), Fx, mx, aoq, cq, gq, oq, lq) ⟨(by omega), (by first | exact hR9.more (by omega) | exact i1.more (by omega)), (by exact hvq), trivial⟩ (by dsimp only; omega))
     ·
      refine wp_skip ?_
      refine pop_then ?_
      refine hS.regS [0] [5, 6, 7, 9, 11, 12, 13, 38, 39, 40] fun _ => seg [] [(0, none), (1, none), (2, none), (3, none), (4, none)] [] trivial fun ac wd hS => ?_
      refine hS.regS [0] [5, 6, 7, 9, 11, 12, 13, 38, 39, 40] fun _ => seg [] [(0, none), (1, none), (2, none), (3, none), (4, none)] [] trivial fun ac wd hS => ?_
      refine wp_seq ?_
      refine hS.regS [0, 400] [5, 6, 7, 9, 11, 12, 13, 38, 39, 40] fun _ => seg [(73, vb yb)] [(0, none), (1, none), (2, none), (3, none), (4, none)] [.e (ν13 0)] trivial fun ac wd hS => ?_
      refine hS.condC yb (fun hb12o hb12 => ?_) (fun hb12o hb12 => ?_)
      ·
       refine wp_region_seq ?_
       refine hS.opsC 4 [200, 0, 400, 0] [5, 6, 7, 9, 11, 12, 38, 39, 40] fun _ => seg [(74, .agg #[pt b'2 0, vi 64, vi ((8 * nn) + 3)]), (76, vi yK), (77, vi yA)] [(0, none), (1, none), (2, none), (3, none), (4, none)] [.e (ν13 0), .e (ν7 0), .e (ν7 0), .e (ν7 0)] trivial fun ac wd hS => ?_
       refine hS.callC 46 #[.agg #[pt b'2 0, vi 64, vi ((8 * nn) + 3)], vi yK, vi yA] (ls_RemQ b'2 Fx mx 64 ((8 * nn) + 3) yK yA lq (Int.toNat x40) _ (hS.mem.res 0) (by first | assumption | omega | (simp_all; done) | (simp_all; omega)) (by rfl) (by first | exact hR9 | exact i1)) ?_
       rintro _ wd ⟨F13, rfl, hA, hF⟩
       refine ⟨vi (qRemE ((8 * nn) + 3) lq yK yA), rfl, ?_⟩
       replace hS := (hS.to (hS.mem.stepA 0 rfl hA hF)).put (d := 78) (v := vi (qRemE ((8 * nn) + 3) lq yK yA)) (by decide)
       clear hF
       refine hS.opsC 1 [0] [5, 6, 7, 9, 11, 12, 38, 39, 40] fun _ => seg [(16, vi (qRemE ((8 * nn) + 3) lq yK yA))] [(0, none), (1, none), (2, none), (3, none), (4, none)] [] trivial fun ac wd hS => ?_
       refine list_nil_seq ?_
       refine wp_region_lit ?_
       refine hS.opsC 4 [0, 0, 400, 0] [5, 6, 7, 9, 11, 12, 16, 38, 39, 40] fun _ => seg [(80, .slice aoq lq.length cq), (82, vi yK), (83, vi yA)] [(0, none), (1, none), (2, none), (3, none), (4, none)] [.e (ν13 0)] trivial fun ac wd hS => ?_
       refine hS.callC 47 #[.slice aoq lq.length cq, vi yK, vi yA] (r7_Remove aoq cq gq oq lq yK yA _ (hS.mem.get 0 0 (.fn 0 64 dbT)) (hS.mem.get 3 gq (.fn oq (oq + lq.length) (hdV (gtD lq) oq))) hvq (by omega) (by exact hS.mem.llGet 1) (by first | exact hR9.hB (by omega) | exact i1.hB (by omega))) ?_
       rintro _ wd ⟨ao214, c215, nl216, ao317, c318, g319, o320, F21, rfl, hN222, hv323, hN, hog0, hoh0, hnf0, hF⟩
       have ho24 : g319 = gq ∨ g319 = 0 ∨ w.heap.size ≤ g319 := by have := hS.mem.fr.size; have : w.heap.size ≤ _ := this; omega
       refine ⟨.tuple #[.slice ao317 ((rSetL lq yK (rRemE lq yK yA) ((ao214, c215, nl216) : HdI)).length) c318, vi (rRemE lq yK yA)], rfl, ?_⟩
       replace hS := (hS.to (hS.mem.outA1 hN hF (g := g319) (x := .fn o320 (o320 + (rSetL lq yK (rRemE lq yK yA) ((ao214, c215, nl216) : HdI)).length) (hdV (gtD (rSetL lq yK (rRemE lq yK yA) ((ao214, c215, nl216) : HdI))) o320)) rfl hoh0 ((fun q_ => q_.elim (fun e => .inl ⟨3, .fn oq (oq + lq.length) (hdV (gtD lq) oq), by rw [e]; as_aux_lemma => kernel_rfl, rfl⟩) (fun q_ => q_.elim (fun e => .inl ⟨0, .fn 0 64 dbT, by rw [e]; as_aux_lemma => kernel_rfl, rfl⟩) (fun q_ => .inr q_))) hog0) hnf0)).put (d := 84) (v := .tuple #[.slice ao317 ((rSetL lq yK (rRemE lq yK yA) ((ao214, c215, nl216) : HdI)).length) c318, vi (rRemE lq yK yA)]) (by decide)
       clear hF
       have hN9 := hN222
       refine hS.opsC 5 [0, 0, 0, 0, 0] [5, 6, 7, 11, 12, 16, 38, 39, 40] fun _ => seg [(9, .slice ao317 ((rSetL lq yK (rRemE lq yK yA) ((ao214, c215, nl216) : HdI)).length) c318), (17, vi (rRemE lq yK yA))] [(0, none), (1, none), (2, none), (4, none), (5, none)] [] trivial fun ac wd hS => ?_
       refine list_nil ?_
       refine pop_then ?_
       replace hS := hS.to (WS.llTurn (k := Int.toNat yK) (ao := ao214) (cp := c215) (nl := nl216) (q2 := (rSetL lq yK (rRemE lq yK yA) ((ao214, c215, nl216) : HdI))) hS.mem (rSetL_or _ _ _ _) no)
       obtain ⟨hEq, hR8⟩ := i1.rem yK yA ao214 c215
       rw [← hN9] at hR8
       have hR9 : LsT (qRemM mx ((8 * nn) + 3) lq yK yA) ((8 * nn) + 3) (rSetL lq yK (rRemE lq yK yA) ((ao214, c215, nl216) : HdI)) ((Int.toNat x40) + 1) := hR8.more (by omega)
       have hn9 := hR9.n12
       refine St.ordBeginS [(0, 1), (1, 1), (2, 1), (3, 1), (4, 1), (5, 1), (6, 0), (7, 1), (8, 1), (9, 1), (10, 1), (11, 1), (12, 1), (13, 1), (15, 1), (16, 1), (17, 1), (18, 1), (14, 0), (19, 0), (20, 1), (21, 1)] [(0, .fn 0 64 dbT), (g7, .fn o7 (o7 + l.length * 3) (a7V (gtD l) o7)), ((ν7 0), .cells [pt b'2 0, vi 64, vi ((8 * nn) + 3)] 89), ((ν13 0), .cells [vb yb, vi yK, .int .u16 yh] 95), (g319, .fn o320 (o320 + (rSetL lq yK (rRemE lq yK yA) ((ao214, c215, nl216) : HdI)).length) (hdV (gtD (rSetL lq yK (rRemE lq yK yA) ((ao214, c215, nl216) : HdI))) o320))] [0, 1, 2, 3, 4] hS fun wd hS => ?_
       have hap := hS.mem.pairs (Hf := [(0, .fn 0 64 dbT), (g7, .fn o7 (o7 + l.length * 3) (a7V (gtD l) o7)), ((ν7 0), .cells [pt b'2 0, vi 64, vi ((8 * nn) + 3)] 89), ((ν13 0), .cells [vb yb, vi yK, .int .u16 yh] 95), (g319, .fn o320 (o320 + (rSetL lq yK (rRemE lq yK yA) ((ao214, c215, nl216) : HdI)).length) (hdV (gtD (rSetL lq yK (rRemE lq yK yA) ((ao214, c215, nl216) : HdI))) o320))]) (l := [0, 1, 2, 3, 4])
       refine St.ordF [0, 0, fx 0 (vb false), 0, 201, 1] [0, 1, 2, 3, 4, 5] [5, 6, 7, 9, 11, 12, 38, 39, 40] (rest := [(6, 0), (7, 1), (8, 1), (9, 1), (10, 1), (11, 1), (12, 1), (13, 1), (15, 1), (16, 1), (17, 1), (18, 1), (14, 0), (19, 0), (20, 1), (21, 1)]) hS hap <| segF [(104, vb false), (105, .agg #[pt b'2 0, vi 64, vi ((8 * nn) + 3)]), (106, .slice ao317 ((rSetL lq yK (rRemE lq yK yA) ((ao214, c215, nl216) : HdI)).length) c318)] [.t false, .t false, .e (ν7 0), .e (ν7 0), .e (ν7 0), .p ((vb (((qRemE ((8 * nn) + 3) lq yK yA) : Int) != (rRemE lq yK yA)) : Value) = vb false)] ⟨(congrArg Value.bool (by (rw [hEq]; exact bne_self_eq_false _))), trivial⟩ fun ac hS => ?_
       refine hS.ordCG 6 false 50 #[.agg #[pt b'2 0, vi 64, vi ((8 * nn) + 3)], .slice ao317 ((rSetL lq yK (rRemE lq yK yA) ((ao214, c215, nl216) : HdI)).length) c318] (law07_told b'2 F13 (qRemM mx ((8 * nn) + 3) lq yK yA) 64 ((8 * nn) + 3) ao317 c318 g319 o320 (rSetL lq yK (rRemE lq yK yA) ((ao214, c215, nl216) : HdI)) ((Int.toNat x40) + 1) _ (hS.mem.res 0) (hS.mem.get 0 0 (.fn 0 64 dbT)) (hS.mem.get 4 g319 (.fn o320 (o320 + (rSetL lq yK (rRemE lq yK yA) ((ao214, c215, nl216) : HdI)).length) (hdV (gtD (rSetL lq yK (rRemE lq yK yA) ((ao214, c215, nl216) : HdI))) o320))) (by first | assumption | omega | (simp_all; done) | (simp_all; omega)) (by rfl) hv323 (by exact hS.mem.llGet 1) (by first | exact hR9 | exact i1) (by first | assumption | omega | (simp_all; done) | (simp_all; omega))) ?_
       rintro _ wd ⟨rfl, hF⟩
       refine ⟨vb true, rfl, ?_⟩
       replace hS := (hS.to (hS.mem.keep0 hF)).put (d := 107) (v := vb true) (by decide)
       clear hF
       refine hS.ordV (l := [0, 1, 2, 3, 4]) ?_
       refine St.ordF [1, 60, 0, 201, 1, 301, 1, 1, 1, 301, 1] [7, 8, 9, 10, 11, 12, 13, 15, 16, 17, 18] [5, 6, 7, 9, 38, 39, 40] (rest := [(14, 0), (19, 0), (20, 1), (21, 1)]) hS hap <| segF [(110, vb false), (111, .agg #[pt b'2 0, vi 64, vi ((8 * nn) + 3)]), (113, vi yK), (114, vi yA), (116, .slice ao317 ((rSetL lq yK (rRemE lq yK yA) ((ao214, c215, nl216) : HdI)).length) c318), (118, vi yK), (119, vi yA)] [.t false, .t false, .e (ν13 0), .t false, .t false, .t false, .t false, .e (ν13 0), .t false, .t false, .e (ν7 0), .e (ν7 0), .e (ν7 0), .t false, .t false] trivial fun ac hS => ?_
       refine hS.ordCG 14 false 51 #[.agg #[pt b'2 0, vi 64, vi ((8 * nn) + 3)], vi yK, vi yA] (ls_HasQ b'2 F13 (qRemM mx ((8 * nn) + 3) lq yK yA) 64 ((8 * nn) + 3) yK yA (rSetL lq yK (rRemE lq yK yA) ((ao214, c215, nl216) : HdI)) ((Int.toNat x40) + 1) _ (hS.mem.res 0) (by first | assumption | omega | (simp_all; done) | (simp_all; omega)) (by rfl) (by first | exact hR9 | exact i1)) ?_
       rintro _ wd ⟨rfl, hF⟩
       refine ⟨vb (qHas ((8 * nn) + 3) (rSetL lq yK (rRemE lq yK yA) ((ao214, c215, nl216) : HdI)) yK yA), rfl, ?_⟩
       replace hS := (hS.to (hS.mem.keep0 hF)).put (d := 115) (v := vb (qHas ((8 * nn) + 3) (rSetL lq yK (rRemE lq yK yA) ((ao214, c215, nl216) : HdI)) yK yA)) (by decide)
       clear hF
       refine hS.ordV (l := [0, 1, 2, 3, 4]) ?_
       refine hS.ordCG 19 false 45 #[.slice ao317 ((rSetL lq yK (rRemE lq yK yA) ((ao214, c215, nl216) : HdI)).length) c318, vi yK, vi yA] (r7_Has ao317 c318 g319 o320 (rSetL lq yK (rRemE lq yK yA) ((ao214, c215, nl216) : HdI)) yK yA _ (hS.mem.get 0 0 (.fn 0 64 dbT)) (hS.mem.get 4 g319 (.fn o320 (o320 + (rSetL lq yK (rRemE lq yK yA) ((ao214, c215, nl216) : HdI)).length) (hdV (gtD (rSetL lq yK (rRemE lq yK yA) ((ao214, c215, nl216) : HdI))) o320))) hv323 (by omega) (by exact hS.mem.llGet 1) (by first | exact hR9.hB (by omega) | exact i1.hB (by omega))) ?_
       rintro _ wd ⟨rfl, hF⟩
       refine ⟨vb (rHas (rSetL lq yK (rRemE lq yK yA) ((ao214, c215, nl216) : HdI)) yK yA), rfl, ?_⟩
       replace hS := (hS.to (hS.mem.keep0 hF)).put (d := 120) (v := vb (rHas (rSetL lq yK (rRemE lq yK yA) ((ao214, c215, nl216) : HdI)) yK yA)) (by decide)
       clear hF
       refine hS.ordV (l := [0, 1, 2, 3, 4]) ?_
       refine St.ordF [fx 1 (vb false), 60] [20, 21] [5, 6, 7, 9, 38, 39, 40] (rest := []) hS hap <| segF [(122, vb false)] [.t false, .t false, .p ((vb (!((qHas ((8 * nn) + 3) (rSetL lq yK (rRemE lq yK yA) ((ao214, c215, nl216) : HdI)) yK yA) == (rHas (rSetL lq yK (rRemE lq yK yA) ((ao214, c215, nl216) : HdI)) yK yA))) : Value) = vb false)] ⟨(congrArg Value.bool (by (rw [hR9.has]; exact bne_self_eq_false _))), trivial⟩ fun ac hS => ?_
       refine ord_nil ?_
       refine hS.condF ?_
       refine wp_skip ?_
       refine pop_block ?_
       refine pop_then ?_
       refine hS.regC [20, 0] [5, 6, 7, 9, 38, 39] fun _ => seg [(40, vi (x40 + 1))] [(0, none), (1, none), (2, none), (4, none)] [.p (fit .i64 (x40 + 1))] ⟨fit_i64 (by omega), trivial⟩ fun ac wd hS => ?_
       replace hS := hS.perm (H' := [(0, .fn 0 64 dbT), (g7, .fn o7 (o7 + l.length * 3) (a7V (gtD l) o7)), ((ν7 0), .cells [pt b'2 0, vi 64, vi ((8 * nn) + 3)] 89), (g319, .fn o320 (o320 + (rSetL lq yK (rRemE lq yK yA) ((ao214, c215, nl216) : HdI)).length) (hdV (gtD (rSetL lq yK (rRemE lq yK yA) ((ao214, c215, nl216) : HdI))) o320))]) [0, 1, 2, 3] (by as_aux_lemma => kernel_rfl) (by decide)
       exact pop_then (hS.next ((x40 + 1), F13, (qRemM mx ((8 * nn) + 3) lq yK yA), ao317, c318, g319, o320, (rSetL lq yK (rRemE lq yK yA) ((ao214, c215, nl216) : HdI))) ⟨(by omega), (by first | exact hR9.more (by omega) | exact i1.more (by omega)), (by exact hv323), trivial⟩ (by dsimp only; omega))
      ·
       refine wp_region_seq ?_
       refine hS.opsC 4 [200, 0, 400, 0] [5, 6, 7, 9, 11, 12, 13, 38, 39, 40] fun _ => seg [(87, .agg #[pt b'2 0, vi 64, vi ((8 * nn) + 3)]), (89, vi yK), (90, vi yA)] [(0, none), (1, none), (2, none), (3, none), (4, none)] [.e (ν13 0), .e (ν7 0), .e (ν7 0), .e (ν7 0)] trivial fun ac wd hS => ?_
       refine hS.callC 48 #[.agg #[pt b'2 0, vi 64, vi ((8 * nn) + 3)], vi yK, vi yA] (ls_AddQ b'2 Fx mx 64 ((8 * nn) + 3) yK yA lq (Int.toNat x40) _ (hS.mem.res 0) (by first | assumption | omega | (simp_all; done) | (simp_all; omega)) (by rfl) (by first | exact hR9 | exact i1) (by omega)) ?_
       rintro _ wd ⟨F25, rfl, hA, hF⟩
       refine ⟨vi (qAddE mx ((8 * nn) + 3) lq yK yA), rfl, ?_⟩
       replace hS := (hS.to (hS.mem.stepA 0 rfl hA hF)).put (d := 91) (v := vi (qAddE mx ((8 * nn) + 3) lq yK yA)) (by decide)
       clear hF
       refine hS.opsC 1 [0] [5, 6, 7, 9, 11, 12, 13, 38, 39, 40] fun _ => seg [(16, vi (qAddE mx ((8 * nn) + 3) lq yK yA))] [(0, none), (1, none), (2, none), (3, none), (4, none)] [] trivial fun ac wd hS => ?_
       refine list_nil_seq ?_
       refine wp_region_lit ?_
       refine hS.opsC 5 [0, 0, 400, 0, 0] [5, 6, 7, 9, 11, 12, 16, 38, 39, 40] fun _ => seg [(93, .slice aoq lq.length cq), (95, vi yK), (96, vi yA), (97, vb (decide (yA < 8192)))] [(0, none), (1, none), (2, none), (3, none), (4, none)] [.e (ν13 0)] trivial fun ac wd hS => ?_
       refine hS.callC 49 #[.slice aoq lq.length cq, vi yK, vi yA, vb (decide (yA < 8192))] (r7_Add aoq cq gq oq lq yK yA (decide (yA < 8192)) _ (hS.mem.get 0 0 (.fn 0 64 dbT)) (hS.mem.get 3 gq (.fn oq (oq + lq.length) (hdV (gtD lq) oq))) hvq (by omega) (by exact hS.mem.llGet 1) (by first | exact hR9.hB (by omega) | exact i1.hB (by omega))) ?_
       rintro _ wd ⟨ao226, c227, nl228, ao329, c330, g331, o332, F33, rfl, hN234, hv335, hN, hog0, hoh0, hnf0, hF⟩
       have ho36 : g331 = gq ∨ g331 = 0 ∨ w.heap.size ≤ g331 := by have := hS.mem.fr.size; have : w.heap.size ≤ _ := this; omega
       refine ⟨.tuple #[.slice ao329 ((rSetL lq yK (rAddE lq yK yA (decide (yA < 8192))) ((ao226, c227, nl228) : HdI)).length) c330, vi (rAddE lq yK yA (decide (yA < 8192)))], rfl, ?_⟩
       replace hS := (hS.to (hS.mem.outA1 hN hF (g := g331) (x := .fn o332 (o332 + (rSetL lq yK (rAddE lq yK yA (decide (yA < 8192))) ((ao226, c227, nl228) : HdI)).length) (hdV (gtD (rSetL lq yK (rAddE lq yK yA (decide (yA < 8192))) ((ao226, c227, nl228) : HdI))) o332)) rfl hoh0 ((fun q_ => q_.elim (fun e => .inl ⟨3, .fn oq (oq + lq.length) (hdV (gtD lq) oq), by rw [e]; as_aux_lemma => kernel_rfl, rfl⟩) (fun q_ => q_.elim (fun e => .inl ⟨0, .fn 0 64 dbT, by rw [e]; as_aux_lemma => kernel_rfl, rfl⟩) (fun q_ => .inr q_))) hog0) hnf0)).put (d := 98) (v := .tuple #[.slice ao329 ((rSetL lq yK (rAddE lq yK yA (decide (yA < 8192))) ((ao226, c227, nl228) : HdI)).length) c330, vi (rAddE lq yK yA (decide (yA < 8192)))]) (by decide)
       clear hF
       have hN9 := hN234
       refine hS.opsC 5 [0, 0, 0, 0, 0] [5, 6, 7, 11, 12, 16, 38, 39, 40] fun _ => seg [(9, .slice ao329 ((rSetL lq yK (rAddE lq yK yA (decide (yA < 8192))) ((ao226, c227, nl228) : HdI)).length) c330), (17, vi (rAddE lq yK yA (decide (yA < 8192))))] [(0, none), (1, none), (2, none), (4, none), (5, none)] [] trivial fun ac wd hS => ?_
       refine list_nil ?_
       refine pop_then ?_
       replace hS := hS.to (WS.llTurn (k := Int.toNat yK) (ao := ao226) (cp := c227) (nl := nl228) (q2 := (rSetL lq yK (rAddE lq yK yA (decide (yA < 8192))) ((ao226, c227, nl228) : HdI))) hS.mem (rSetL_or _ _ _ _) no)
       obtain ⟨hEq, hR8⟩ := i1.add yK hyt hyt2 (fun k_ hk_ hn_ => by first | exact els_no (by first | assumption | (rw [← j1]; assumption)) k_ (by omega) hn_ | (exfalso; simp_all; done)) ao226 c227
       rw [← hN9] at hR8
       have hR9 : LsT (qAddM mx ((8 * nn) + 3) lq yK yA) ((8 * nn) + 3) (rSetL lq yK (rAddE lq yK yA (decide (yA < 8192))) ((ao226, c227, nl228) : HdI)) ((Int.toNat x40) + 1) := hR8.more (by omega)
       have hn9 := hR9.n12
       refine St.ordBeginS [(0, 1), (1, 1), (2, 1), (3, 1), (4, 1), (5, 1), (6, 0), (7, 1), (8, 1), (9, 1), (10, 1), (11, 1), (12, 1), (13, 1), (15, 1), (16, 1), (17, 1), (18, 1), (14, 0), (19, 0), (20, 1), (21, 1)] [(0, .fn 0 64 dbT), (g7, .fn o7 (o7 + l.length * 3) (a7V (gtD l) o7)), ((ν7 0), .cells [pt b'2 0, vi 64, vi ((8 * nn) + 3)] 89), ((ν13 0), .cells [vb yb, vi yK, .int .u16 yh] 95), (g331, .fn o332 (o332 + (rSetL lq yK (rAddE lq yK yA (decide (yA < 8192))) ((ao226, c227, nl228) : HdI)).length) (hdV (gtD (rSetL lq yK (rAddE lq yK yA (decide (yA < 8192))) ((ao226, c227, nl228) : HdI))) o332))] [0, 1, 2, 3, 4] hS fun wd hS => ?_
       have hap := hS.mem.pairs (Hf := [(0, .fn 0 64 dbT), (g7, .fn o7 (o7 + l.length * 3) (a7V (gtD l) o7)), ((ν7 0), .cells [pt b'2 0, vi 64, vi ((8 * nn) + 3)] 89), ((ν13 0), .cells [vb yb, vi yK, .int .u16 yh] 95), (g331, .fn o332 (o332 + (rSetL lq yK (rAddE lq yK yA (decide (yA < 8192))) ((ao226, c227, nl228) : HdI)).length) (hdV (gtD (rSetL lq yK (rAddE lq yK yA (decide (yA < 8192))) ((ao226, c227, nl228) : HdI))) o332))]) (l := [0, 1, 2, 3, 4])
       refine St.ordF [0, 0, fx 0 (vb false), 0, 201, 1] [0, 1, 2, 3, 4, 5] [5, 6, 7, 9, 11, 12, 38, 39, 40] (rest := [(6, 0), (7, 1), (8, 1), (9, 1), (10, 1), (11, 1), (12, 1), (13, 1), (15, 1), (16, 1), (17, 1), (18, 1), (14, 0), (19, 0), (20, 1), (21, 1)]) hS hap <| segF [(104, vb false), (105, .agg #[pt b'2 0, vi 64, vi ((8 * nn) + 3)]), (106, .slice ao329 ((rSetL lq yK (rAddE lq yK yA (decide (yA < 8192))) ((ao226, c227, nl228) : HdI)).length) c330)] [.t false, .t false, .e (ν7 0), .e (ν7 0), .e (ν7 0), .p ((vb (((qAddE mx ((8 * nn) + 3) lq yK yA) : Int) != (rAddE lq yK yA (decide (yA < 8192)))) : Value) = vb false)] ⟨(congrArg Value.bool (by (rw [hEq]; exact bne_self_eq_false _))), trivial⟩ fun ac hS => ?_
       refine hS.ordCG 6 false 50 #[.agg #[pt b'2 0, vi 64, vi ((8 * nn) + 3)], .slice ao329 ((rSetL lq yK (rAddE lq yK yA (decide (yA < 8192))) ((ao226, c227, nl228) : HdI)).length) c330] (law07_told b'2 F25 (qAddM mx ((8 * nn) + 3) lq yK yA) 64 ((8 * nn) + 3) ao329 c330 g331 o332 (rSetL lq yK (rAddE lq yK yA (decide (yA < 8192))) ((ao226, c227, nl228) : HdI)) ((Int.toNat x40) + 1) _ (hS.mem.res 0) (hS.mem.get 0 0 (.fn 0 64 dbT)) (hS.mem.get 4 g331 (.fn o332 (o332 + (rSetL lq yK (rAddE lq yK yA (decide (yA < 8192))) ((ao226, c227, nl228) : HdI)).length) (hdV (gtD (rSetL lq yK (rAddE lq yK yA (decide (yA < 8192))) ((ao226, c227, nl228) : HdI))) o332))) (by first | assumption | omega | (simp_all; done) | (simp_all; omega)) (by rfl) hv335 (by exact hS.mem.llGet 1) (by first | exact hR9 | exact i1) (by first | assumption | omega | (simp_all; done) | (simp_all; omega))) ?_
       rintro _ wd ⟨rfl, hF⟩
       refine ⟨vb true, rfl, ?_⟩
       replace hS := (hS.to (hS.mem.keep0 hF)).put (d := 107) (v := vb true) (by decide)
       clear hF
       refine hS.ordV (l := [0, 1, 2, 3, 4]) ?_
       refine St.ordF [1, 60, 0, 201, 1, 301, 1, 1, 1, 301, 1] [7, 8, 9, 10, 11, 12, 13, 15, 16, 17, 18] [5, 6, 7, 9, 38, 39, 40] (rest := [(14, 0), (19, 0), (20, 1), (21, 1)]) hS hap <| segF [(110, vb false), (111, .agg #[pt b'2 0, vi 64, vi ((8 * nn) + 3)]), (113, vi yK), (114, vi yA), (116, .slice ao329 ((rSetL lq yK (rAddE lq yK yA (decide (yA < 8192))) ((ao226, c227, nl228) : HdI)).length) c330), (118, vi yK), (119, vi yA)] [.t false, .t false, .e (ν13 0), .t false, .t false, .t false, .t false, .e (ν13 0), .t false, .t false, .e (ν7 0), .e (ν7 0), .e (ν7 0), .t false, .t false] trivial fun ac hS => ?_
       refine hS.ordCG 14 false 51 #[.agg #[pt b'2 0, vi 64, vi ((8 * nn) + 3)], vi yK, vi yA] (ls_HasQ b'2 F25 (qAddM mx ((8 * nn) + 3) lq yK yA) 64 ((8 * nn) + 3) yK yA (rSetL lq yK (rAddE lq yK yA (decide (yA < 8192))) ((ao226, c227, nl228) : HdI)) ((Int.toNat x40) + 1) _ (hS.mem.res 0) (by first | assumption | omega | (simp_all; done) | (simp_all; omega)) (by rfl) (by first | exact hR9 | exact i1)) ?_
       rintro _ wd ⟨rfl, hF⟩
       refine ⟨vb (qHas ((8 * nn) + 3) (rSetL lq yK (rAddE lq yK yA (decide (yA < 8192))) ((ao226, c227, nl228) : HdI)) yK yA), rfl, ?_⟩
       replace hS := (hS.to (hS.mem.keep0 hF)).put (d := 115) (v := vb (qHas ((8 * nn) + 3) (rSetL lq yK (rAddE lq yK yA (decide (yA < 8192))) ((ao226, c227, nl228) : HdI)) yK yA)) (by decide)
       clear hF
       refine hS.ordV (l := [0, 1, 2, 3, 4]) ?_
       refine hS.ordCG 19 false 45 #[.slice ao329 ((rSetL lq yK (rAddE lq yK yA (decide (yA < 8192))) ((ao226, c227, nl228) : HdI)).length) c330, vi yK, vi yA] (r7_Has ao329 c330 g331 o332 (rSetL lq yK (rAddE lq yK yA (decide (yA < 8192))) ((ao226, c227, nl228) : HdI)) yK yA _ (hS.mem.get 0 0 (.fn 0 64 dbT)) (hS.mem.get 4 g331 (.fn o332 (o332 + (rSetL lq yK (rAddE lq yK yA (decide (yA < 8192))) ((ao226, c227, nl228) : HdI)).length) (hdV (gtD (rSetL lq yK (rAddE lq yK yA (decide (yA < 8192))) ((ao226, c227, nl228) : HdI))) o332))) hv335 (by omega) (by exact hS.mem.llGet 1) (by first | exact hR9.hB (by omega) | exact i1.hB (by omega))) ?_
       rintro _ wd ⟨rfl, hF⟩
       refine ⟨vb (rHas (rSetL lq yK (rAddE lq yK yA (decide (yA < 8192))) ((ao226, c227, nl228) : HdI)) yK yA), rfl, ?_⟩
       replace hS := (hS.to (hS.mem.keep0 hF)).put (d := 120) (v := vb (rHas (rSetL lq yK (rAddE lq yK yA (decide (yA < 8192))) ((ao226, c227, nl228) : HdI)) yK yA)) (by decide)
       clear hF
       refine hS.ordV (l := [0, 1, 2, 3, 4]) ?_
       refine St.ordF [fx 1 (vb false), 60] [20, 21] [5, 6, 7, 9, 38, 39, 40] (rest := []) hS hap <| segF [(122, vb false)] [.t false, .t false, .p ((vb (!((qHas ((8 * nn) + 3) (rSetL lq yK (rAddE lq yK yA (decide (yA < 8192))) ((ao226, c227, nl228) : HdI)) yK yA) == (rHas (rSetL lq yK (rAddE lq yK yA (decide (yA < 8192))) ((ao226, c227, nl228) : HdI)) yK yA))) : Value) = vb false)] ⟨(congrArg Value.bool (by (rw [hR9.has]; exact bne_self_eq_false _))), trivial⟩ fun ac hS => ?_
       refine ord_nil ?_
       refine hS.condF ?_
       refine wp_skip ?_
       refine pop_block ?_
       refine pop_then ?_
       refine hS.regC [20, 0] [5, 6, 7, 9, 38, 39] fun _ => seg [(40, vi (x40 + 1))] [(0, none), (1, none), (2, none), (4, none)] [.p (fit .i64 (x40 + 1))] ⟨fit_i64 (by omega), trivial⟩ fun ac wd hS => ?_
       replace hS := hS.perm (H' := [(0, .fn 0 64 dbT), (g7, .fn o7 (o7 + l.length * 3) (a7V (gtD l) o7)), ((ν7 0), .cells [pt b'2 0, vi 64, vi ((8 * nn) + 3)] 89), (g331, .fn o332 (o332 + (rSetL lq yK (rAddE lq yK yA (decide (yA < 8192))) ((ao226, c227, nl228) : HdI)).length) (hdV (gtD (rSetL lq yK (rAddE lq yK yA (decide (yA < 8192))) ((ao226, c227, nl228) : HdI))) o332))]) [0, 1, 2, 3] (by as_aux_lemma => kernel_rfl) (by decide)
       exact pop_then (hS.next ((x40 + 1), F25, (qAddM mx ((8 * nn) + 3) lq yK yA), ao329, c330, g331, o332, (rSetL lq yK (rAddE lq yK yA (decide (yA < 8192))) ((ao226, c227, nl228) : HdI))) ⟨(by omega), (by first | exact hR9.more (by omega) | exact i1.more (by omega)), (by exact hv335), trivial⟩ (by dsimp only; omega))
   ·
    refine wp_skip ?_
    refine pop_then ?_
    refine hS.regS [0] [5, 6, 7, 9, 11, 12, 13, 38, 39, 40] fun _ => seg [] [(0, none), (1, none), (2, none), (3, none), (4, none)] [] trivial fun ac wd hS => ?_
    refine hS.regS [0] [5, 6, 7, 9, 11, 12, 13, 38, 39, 40] fun _ => seg [] [(0, none), (1, none), (2, none), (3, none), (4, none)] [] trivial fun ac wd hS => ?_
    refine wp_seq ?_
    refine hS.regS [0, 400] [5, 6, 7, 9, 11, 12, 13, 38, 39, 40] fun _ => seg [(73, vb yb)] [(0, none), (1, none), (2, none), (3, none), (4, none)] [.e (ν13 0)] trivial fun ac wd hS => ?_
    refine hS.condC yb (fun hb37o hb37 => ?_) (fun hb37o hb37 => ?_)
    ·
     refine wp_region_seq ?_
     refine hS.opsC 4 [200, 0, 400, 0] [5, 6, 7, 9, 11, 12, 38, 39, 40] fun _ => seg [(74, .agg #[pt b'2 0, vi 64, vi ((8 * nn) + 3)]), (76, vi yK), (77, vi yA)] [(0, none), (1, none), (2, none), (3, none), (4, none)] [.e (ν13 0), .e (ν7 0), .e (ν7 0), .e (ν7 0)] trivial fun ac wd hS => ?_
     refine hS.callC 46 #[.agg #[pt b'2 0, vi 64, vi ((8 * nn) + 3)], vi yK, vi yA] (ls_RemQ b'2 Fx mx 64 ((8 * nn) + 3) yK yA lq (Int.toNat x40) _ (hS.mem.res 0) (by first | assumption | omega | (simp_all; done) | (simp_all; omega)) (by rfl) (by first | exact hR9 | exact i1)) ?_
     rintro _ wd ⟨F38, rfl, hA, hF⟩
     refine ⟨vi (qRemE ((8 * nn) + 3) lq yK yA), rfl, ?_⟩
     replace hS := (hS.to (hS.mem.stepA 0 rfl hA hF)).put (d := 78) (v := vi (qRemE ((8 * nn) + 3) lq yK yA)) (by decide)
     clear hF
     refine hS.opsC 1 [0] [5, 6, 7, 9, 11, 12, 38, 39, 40] fun _ => seg [(16, vi (qRemE ((8 * nn) + 3) lq yK yA))] [(0, none), (1, none), (2, none), (3, none), (4, none)] [] trivial fun ac wd hS => ?_
     refine list_nil_seq ?_
     refine wp_region_lit ?_
     refine hS.opsC 4 [0, 0, 400, 0] [5, 6, 7, 9, 11, 12, 16, 38, 39, 40] fun _ => seg [(80, .slice aoq lq.length cq), (82, vi yK), (83, vi yA)] [(0, none), (1, none), (2, none), (3, none), (4, none)] [.e (ν13 0)] trivial fun ac wd hS => ?_
     refine hS.callC 47 #[.slice aoq lq.length cq, vi yK, vi yA] (r7_Remove aoq cq gq oq lq yK yA _ (hS.mem.get 0 0 (.fn 0 64 dbT)) (hS.mem.get 3 gq (.fn oq (oq + lq.length) (hdV (gtD lq) oq))) hvq (by omega) (by exact hS.mem.llGet 1) (by first | exact hR9.hB (by omega) | exact i1.hB (by omega))) ?_
     rintro _ wd ⟨ao239, c240, nl241, ao342, c343, g344, o345, F46, rfl, hN247, hv348, hN, hog0, hoh0, hnf0, hF⟩
     have ho49 : g344 = gq ∨ g344 = 0 ∨ w.heap.size ≤ g344 := by have := hS.mem.fr.size; have : w.heap.size ≤ _ := this; omega
     refine ⟨.tuple #[.slice ao342 ((rSetL lq yK (rRemE lq yK yA) ((ao239, c240, nl241) : HdI)).length) c343, vi (rRemE lq yK yA)], rfl, ?_⟩
     replace hS := (hS.to (hS.mem.outA1 hN hF (g := g344) (x := .fn o345 (o345 + (rSetL lq yK (rRemE lq yK yA) ((ao239, c240, nl241) : HdI)).length) (hdV (gtD (rSetL lq yK (rRemE lq yK yA) ((ao239, c240, nl241) : HdI))) o345)) rfl hoh0 ((fun q_ => q_.elim (fun e => .inl ⟨3, .fn oq (oq + lq.length) (hdV (gtD lq) oq), by rw [e]; as_aux_lemma => kernel_rfl, rfl⟩) (fun q_ => q_.elim (fun e => .inl ⟨0, .fn 0 64 dbT, by rw [e]; as_aux_lemma => kernel_rfl, rfl⟩) (fun q_ => .inr q_))) hog0) hnf0)).put (d := 84) (v := .tuple #[.slice ao342 ((rSetL lq yK (rRemE lq yK yA) ((ao239, c240, nl241) : HdI)).length) c343, vi (rRemE lq yK yA)]) (by decide)
     clear hF
     have hN9 := hN247
     refine hS.opsC 5 [0, 0, 0, 0, 0] [5, 6, 7, 11, 12, 16, 38, 39, 40] fun _ => seg [(9, .slice ao342 ((rSetL lq yK (rRemE lq yK yA) ((ao239, c240, nl241) : HdI)).length) c343), (17, vi (rRemE lq yK yA))] [(0, none), (1, none), (2, none), (4, none), (5, none)] [] trivial fun ac wd hS => ?_
     refine list_nil ?_
     refine pop_then ?_
     replace hS := hS.to (WS.llTurn (k := Int.toNat yK) (ao := ao239) (cp := c240) (nl := nl241) (q2 := (rSetL lq yK (rRemE lq yK yA) ((ao239, c240, nl241) : HdI))) hS.mem (rSetL_or _ _ _ _) no)
     obtain ⟨hEq, hR8⟩ := i1.rem yK yA ao239 c240
     rw [← hN9] at hR8
     have hR9 : LsT (qRemM mx ((8 * nn) + 3) lq yK yA) ((8 * nn) + 3) (rSetL lq yK (rRemE lq yK yA) ((ao239, c240, nl241) : HdI)) ((Int.toNat x40) + 1) := hR8.more (by omega)
     have hn9 := hR9.n12
     refine St.ordBeginS [(0, 1), (1, 1), (2, 1), (3, 1), (4, 1), (5, 1), (6, 0), (7, 1), (8, 1), (9, 1), (10, 1), (11, 1), (12, 1), (13, 1), (15, 1), (16, 1), (17, 1), (18, 1), (14, 0), (19, 0), (20, 1), (21, 1)] [(0, .fn 0 64 dbT), (g7, .fn o7 (o7 + l.length * 3) (a7V (gtD l) o7)), ((ν7 0), .cells [pt b'2 0, vi 64, vi ((8 * nn) + 3)] 89), ((ν13 0), .cells [vb yb, vi yK, .int .u16 yh] 95), (g344, .fn o345 (o345 + (rSetL lq yK (rRemE lq yK yA) ((ao239, c240, nl241) : HdI)).length) (hdV (gtD (rSetL lq yK (rRemE lq yK yA) ((ao239, c240, nl241) : HdI))) o345))] [0, 1, 2, 3, 4] hS fun wd hS => ?_
     have hap := hS.mem.pairs (Hf := [(0, .fn 0 64 dbT), (g7, .fn o7 (o7 + l.length * 3) (a7V (gtD l) o7)), ((ν7 0), .cells [pt b'2 0, vi 64, vi ((8 * nn) + 3)] 89), ((ν13 0), .cells [vb yb, vi yK, .int .u16 yh] 95), (g344, .fn o345 (o345 + (rSetL lq yK (rRemE lq yK yA) ((ao239, c240, nl241) : HdI)).length) (hdV (gtD (rSetL lq yK (rRemE lq yK yA) ((ao239, c240, nl241) : HdI))) o345))]) (l := [0, 1, 2, 3, 4])
     refine St.ordF [0, 0, fx 0 (vb false), 0, 201, 1] [0, 1, 2, 3, 4, 5] [5, 6, 7, 9, 11, 12, 38, 39, 40] (rest := [(6, 0), (7, 1), (8, 1), (9, 1), (10, 1), (11, 1), (12, 1), (13, 1), (15, 1), (16, 1), (17, 1), (18, 1), (14, 0), (19, 0), (20, 1), (21, 1)]) hS hap <| segF [(104, vb false), (105, .agg #[pt b'2 0, vi 64, vi ((8 * nn) + 3)]), (106, .slice ao342 ((rSetL lq yK (rRemE lq yK yA) ((ao239, c240, nl241) : HdI)).length) c343)] [.t false, .t false, .e (ν7 0), .e (ν7 0), .e (ν7 0), .p ((vb (((qRemE ((8 * nn) + 3) lq yK yA) : Int) != (rRemE lq yK yA)) : Value) = vb false)] ⟨(congrArg Value.bool (by (rw [hEq]; exact bne_self_eq_false _))), trivial⟩ fun ac hS => ?_
     refine hS.ordCG 6 false 50 #[.agg #[pt b'2 0, vi 64, vi ((8 * nn) + 3)], .slice ao342 ((rSetL lq yK (rRemE lq yK yA) ((ao239, c240, nl241) : HdI)).length) c343] (law07_told b'2 F38 (qRemM mx ((8 * nn) + 3) lq yK yA) 64 ((8 * nn) + 3) ao342 c343 g344 o345 (rSetL lq yK (rRemE lq yK yA) ((ao239, c240, nl241) : HdI)) ((Int.toNat x40) + 1) _ (hS.mem.res 0) (hS.mem.get 0 0 (.fn 0 64 dbT)) (hS.mem.get 4 g344 (.fn o345 (o345 + (rSetL lq yK (rRemE lq yK yA) ((ao239, c240, nl241) : HdI)).length) (hdV (gtD (rSetL lq yK (rRemE lq yK yA) ((ao239, c240, nl241) : HdI))) o345))) (by first | assumption | omega | (simp_all; done) | (simp_all; omega)) (by rfl) hv348 (by exact hS.mem.llGet 1) (by first | exact hR9 | exact i1) (by first | assumption | omega | (simp_all; done) | (simp_all; omega))) ?_
     rintro _ wd ⟨rfl, hF⟩
     refine ⟨vb true, rfl, ?_⟩
     replace hS := (hS.to (hS.mem.keep0 hF)).put (d := 107) (v := vb true) (by decide)
     clear hF
     refine hS.ordV (l := [0, 1, 2, 3, 4]) ?_
     refine St.ordF [1, 60, 0, 201, 1, 301, 1, 1, 1, 301, 1] [7, 8, 9, 10, 11, 12, 13, 15, 16, 17, 18] [5, 6, 7, 9, 38, 39, 40] (rest := [(14, 0), (19, 0), (20, 1), (21, 1)]) hS hap <| segF [(110, vb false), (111, .agg #[pt b'2 0, vi 64, vi ((8 * nn) + 3)]), (113, vi yK), (114, vi yA), (116, .slice ao342 ((rSetL lq yK (rRemE lq yK yA) ((ao239, c240, nl241) : HdI)).length) c343), (118, vi yK), (119, vi yA)] [.t false, .t false, .e (ν13 0), .t false, .t false, .t false, .t false, .e (ν13 0), .t false, .t false, .e (ν7 0), .e (ν7 0), .e (ν7 0), .t false, .t false] trivial fun ac hS => ?_
     refine hS.ordCG 14 false 51 #[.agg #[pt b'2 0, vi 64, vi ((8 * nn) + 3)], vi yK, vi yA] (ls_HasQ b'2 F38 (qRemM mx ((8 * nn) + 3) lq yK yA) 64 ((8 * nn) + 3) yK yA (rSetL lq yK (rRemE lq yK yA) ((ao239, c240, nl241) : HdI)) ((Int.toNat x40) + 1) _ (hS.mem.res 0) (by first | assumption | omega | (simp_all; done) | (simp_all; omega)) (by rfl) (by first | exact hR9 | exact i1)) ?_
     rintro _ wd ⟨rfl, hF⟩
     refine ⟨vb (qHas ((8 * nn) + 3) (rSetL lq yK (rRemE lq yK yA) ((ao239, c240, nl241) : HdI)) yK yA), rfl, ?_⟩
     replace hS := (hS.to (hS.mem.keep0 hF)).put (d := 115) (v := vb (qHas ((8 * nn) + 3) (rSetL lq yK (rRemE lq yK yA) ((ao239, c240, nl241) : HdI)) yK yA)) (by decide)
     clear hF
     refine hS.ordV (l := [0, 1, 2, 3, 4]) ?_
     refine hS.ordCG 19 false 45 #[.slice ao342 ((rSetL lq yK (rRemE lq yK yA) ((ao239, c240, nl241) : HdI)).length) c343, vi yK, vi yA] (r7_Has ao342 c343 g344 o345 (rSetL lq yK (rRemE lq yK yA) ((ao239, c240, nl241) : HdI)) yK yA _ (hS.mem.get 0 0 (.fn 0 64 dbT)) (hS.mem.get 4 g344 (.fn o345 (o345 + (rSetL lq yK (rRemE lq yK yA) ((ao239, c240, nl241) : HdI)).length) (hdV (gtD (rSetL lq yK (rRemE lq yK yA) ((ao239, c240, nl241) : HdI))) o345))) hv348 (by omega) (by exact hS.mem.llGet 1) (by first | exact hR9.hB (by omega) | exact i1.hB (by omega))) ?_
     rintro _ wd ⟨rfl, hF⟩
     refine ⟨vb (rHas (rSetL lq yK (rRemE lq yK yA) ((ao239, c240, nl241) : HdI)) yK yA), rfl, ?_⟩
     replace hS := (hS.to (hS.mem.keep0 hF)).put (d := 120) (v := vb (rHas (rSetL lq yK (rRemE lq yK yA) ((ao239, c240, nl241) : HdI)) yK yA)) (by decide)
     clear hF
     refine hS.ordV (l := [0, 1, 2, 3, 4]) ?_
     refine St.ordF [fx 1 (vb false), 60] [20, 21] [5, 6, 7, 9, 38, 39, 40] (rest := []) hS hap <| segF [(122, vb false)] [.t false, .t false, .p ((vb (!((qHas ((8 * nn) + 3) (rSetL lq yK (rRemE lq yK yA) ((ao239, c240, nl241) : HdI)) yK yA) == (rHas (rSetL lq yK (rRemE lq yK yA) ((ao239, c240, nl241) : HdI)) yK yA))) : Value) = vb false)] ⟨(congrArg Value.bool (by (rw [hR9.has]; exact bne_self_eq_false _))), trivial⟩ fun ac hS => ?_
     refine ord_nil ?_
     refine hS.condF ?_
     refine wp_skip ?_
     refine pop_block ?_
     refine pop_then ?_
     refine hS.regC [20, 0] [5, 6, 7, 9, 38, 39] fun _ => seg [(40, vi (x40 + 1))] [(0, none), (1, none), (2, none), (4, none)] [.p (fit .i64 (x40 + 1))] ⟨fit_i64 (by omega), trivial⟩ fun ac wd hS => ?_
     replace hS := hS.perm (H' := [(0, .fn 0 64 dbT), (g7, .fn o7 (o7 + l.length * 3) (a7V (gtD l) o7)), ((ν7 0), .cells [pt b'2 0, vi 64, vi ((8 * nn) + 3)] 89), (g344, .fn o345 (o345 + (rSetL lq yK (rRemE lq yK yA) ((ao239, c240, nl241) : HdI)).length) (hdV (gtD (rSetL lq yK (rRemE lq yK yA) ((ao239, c240, nl241) : HdI))) o345))]) [0, 1, 2, 3] (by as_aux_lemma => kernel_rfl) (by decide)
     exact pop_then (hS.next ((x40 + 1), F38, (qRemM mx ((8 * nn) + 3) lq yK yA), ao342, c343, g344, o345, (rSetL lq yK (rRemE lq yK yA) ((ao239, c240, nl241) : HdI))) ⟨(by omega), (by first | exact hR9.more (by omega) | exact i1.more (by omega)), (by exact hv348), trivial⟩ (by dsimp only; omega))
    ·
     refine wp_region_seq ?_
     refine hS.opsC 4 [200, 0, 400, 0] [5, 6, 7, 9, 11, 12, 13, 38, 39, 40] fun _ => seg [(87, .agg #[pt b'2 0, vi 64, vi ((8 * nn) + 3)]), (89, vi yK), (90, vi yA)] [(0, none), (1, none), (2, none), (3, none), (4, none)] [.e (ν13 0), .e (ν7 0), .e (ν7 0), .e (ν7 0)] trivial fun ac wd hS => ?_
     refine hS.callC 48 #[.agg #[pt b'2 0, vi 64, vi ((8 * nn) + 3)], vi yK, vi yA] (ls_AddQ b'2 Fx mx 64 ((8 * nn) + 3) yK yA lq (Int.toNat x40) _ (hS.mem.res 0) (by first | assumption | omega | (simp_all; done) | (simp_all; omega)) (by rfl) (by first | exact hR9 | exact i1) (by omega)) ?_
     rintro _ wd ⟨F50, rfl, hA, hF⟩
     refine ⟨vi (qAddE mx ((8 * nn) + 3) lq yK yA), rfl, ?_⟩
     replace hS := (hS.to (hS.mem.stepA 0 rfl hA hF)).put (d := 91) (v := vi (qAddE mx ((8 * nn) + 3) lq yK yA)) (by decide)
     clear hF
     refine hS.opsC 1 [0] [5, 6, 7, 9, 11, 12, 13, 38, 39, 40] fun _ => seg [(16, vi (qAddE mx ((8 * nn) + 3) lq yK yA))] [(0, none), (1, none), (2, none), (3, none), (4, none)] [] trivial fun ac wd hS => ?_
     refine list_nil_seq ?_
     refine wp_region_lit ?_
     refine hS.opsC 5 [0, 0, 400, 0, 0] [5, 6, 7, 9, 11, 12, 16, 38, 39, 40] fun _ => seg [(93, .slice aoq lq.length cq), (95, vi yK), (96, vi yA), (97, vb (decide (yA < 8192)))] [(0, none), (1, none), (2, none), (3, none), (4, none)] [.e (ν13 0)] trivial fun ac wd hS => ?_
     refine hS.callC 49 #[.slice aoq lq.length cq, vi yK, vi yA, vb (decide (yA < 8192))] (r7_Add aoq cq gq oq lq yK yA (decide (yA < 8192)) _ (hS.mem.get 0 0 (.fn 0 64 dbT)) (hS.mem.get 3 gq (.fn oq (oq + lq.length) (hdV (gtD lq) oq))) hvq (by omega) (by exact hS.mem.llGet 1) (by first | exact hR9.hB (by omega) | exact i1.hB (by omega))) ?_
     rintro _ wd ⟨ao251, c252, nl253, ao354, c355, g356, o357, F58, rfl, hN259, hv360, hN, hog0, hoh0, hnf0, hF⟩
     have ho61 : g356 = gq ∨ g356 = 0 ∨ w.heap.size ≤ g356 := by have := hS.mem.fr.size; have : w.heap.size ≤ _ := this; omega
     refine ⟨.tuple #[.slice ao354 ((rSetL lq yK (rAddE lq yK yA (decide (yA < 8192))) ((ao251, c252, nl253) : HdI)).length) c355, vi (rAddE lq yK yA (decide (yA < 8192)))], rfl, ?_⟩
     replace hS := (hS.to (hS.mem.outA1 hN hF (g := g356) (x := .fn o357 (o357 + (rSetL lq yK (rAddE lq yK yA (decide (yA < 8192))) ((ao251, c252, nl253) : HdI)).length) (hdV (gtD (rSetL lq yK (rAddE lq yK yA (decide (yA < 8192))) ((ao251, c252, nl253) : HdI))) o357)) rfl hoh0 ((fun q_ => q_.elim (fun e => .inl ⟨3, .fn oq (oq + lq.length) (hdV (gtD lq) oq), by rw [e]; as_aux_lemma => kernel_rfl, rfl⟩) (fun q_ => q_.elim (fun e => .inl ⟨0, .fn 0 64 dbT, by rw [e]; as_aux_lemma => kernel_rfl, rfl⟩) (fun q_ => .inr q_))) hog0) hnf0)).put (d := 98) (v := .tuple #[.slice ao354 ((rSetL lq yK (rAddE lq yK yA (decide (yA < 8192))) ((ao251, c252, nl253) : HdI)).length) c355, vi (rAddE lq yK yA (decide (yA < 8192)))]) (by decide)
     clear hF
     have hN9 := hN259
     refine hS.opsC 5 [0, 0, 0, 0, 0] [5, 6, 7, 11, 12, 16, 38, 39, 40] fun _ => seg [(9, .slice ao354 ((rSetL lq yK (rAddE lq yK yA (decide (yA < 8192))) ((ao251, c252, nl253) : HdI)).length) c355), (17, vi (rAddE lq yK yA (decide (yA < 8192))))] [(0, none), (1, none), (2, none), (4, none), (5, none)] [] trivial fun ac wd hS => ?_
     refine list_nil ?_
     refine pop_then ?_
     replace hS := hS.to (WS.llTurn (k := Int.toNat yK) (ao := ao251) (cp := c252) (nl := nl253) (q2 := (rSetL lq yK (rAddE lq yK yA (decide (yA < 8192))) ((ao251, c252, nl253) : HdI))) hS.mem (rSetL_or _ _ _ _) no)
     obtain ⟨hEq, hR8⟩ := i1.add yK hyt hyt2 (fun k_ hk_ hn_ => by first | exact els_no (by first | assumption | (rw [← j1]; assumption)) k_ (by omega) hn_ | (exfalso; simp_all; done)) ao251 c252
     rw [← hN9] at hR8
     have hR9 : LsT (qAddM mx ((8 * nn) + 3) lq yK yA) ((8 * nn) + 3) (rSetL lq yK (rAddE lq yK yA (decide (yA < 8192))) ((ao251, c252, nl253) : HdI)) ((Int.toNat x40) + 1) := hR8.more (by omega)
     have hn9 := hR9.n12
     refine St.ordBeginS [(0, 1), (1, 1), (2, 1), (3, 1), (4, 1), (5, 1), (6, 0), (7, 1), (8, 1), (9, 1), (10, 1), (11, 1), (12, 1), (13, 1), (15, 1), (16, 1), (17, 1), (18, 1), (14, 0), (19, 0), (20, 1), (21, 1)] [(0, .fn 0 64 dbT), (g7, .fn o7 (o7 + l.length * 3) (a7V (gtD l) o7)), ((ν7 0), .cells [pt b'2 0, vi 64, vi ((8 * nn) + 3)] 89), ((ν13 0), .cells [vb yb, vi yK, .int .u16 yh] 95), (g356, .fn o357 (o357 + (rSetL lq yK (rAddE lq yK yA (decide (yA < 8192))) ((ao251, c252, nl253) : HdI)).length) (hdV (gtD (rSetL lq yK (rAddE lq yK yA (decide (yA < 8192))) ((ao251, c252, nl253) : HdI))) o357))] [0, 1, 2, 3, 4] hS fun wd hS => ?_
     have hap := hS.mem.pairs (Hf := [(0, .fn 0 64 dbT), (g7, .fn o7 (o7 + l.length * 3) (a7V (gtD l) o7)), ((ν7 0), .cells [pt b'2 0, vi 64, vi ((8 * nn) + 3)] 89), ((ν13 0), .cells [vb yb, vi yK, .int .u16 yh] 95), (g356, .fn o357 (o357 + (rSetL lq yK (rAddE lq yK yA (decide (yA < 8192))) ((ao251, c252, nl253) : HdI)).length) (hdV (gtD (rSetL lq yK (rAddE lq yK yA (decide (yA < 8192))) ((ao251, c252, nl253) : HdI))) o357))]) (l := [0, 1, 2, 3, 4])
     refine St.ordF [0, 0, fx 0 (vb false), 0, 201, 1] [0, 1, 2, 3, 4, 5] [5, 6, 7, 9, 11, 12, 38, 39, 40] (rest := [(6, 0), (7, 1), (8, 1), (9, 1), (10, 1), (11, 1), (12, 1), (13, 1), (15, 1), (16, 1), (17, 1), (18, 1), (14, 0), (19, 0), (20, 1), (21, 1)]) hS hap <| segF [(104, vb false), (105, .agg #[pt b'2 0, vi 64, vi ((8 * nn) + 3)]), (106, .slice ao354 ((rSetL lq yK (rAddE lq yK yA (decide (yA < 8192))) ((ao251, c252, nl253) : HdI)).length) c355)] [.t false, .t false, .e (ν7 0), .e (ν7 0), .e (ν7 0), .p ((vb (((qAddE mx ((8 * nn) + 3) lq yK yA) : Int) != (rAddE lq yK yA (decide (yA < 8192)))) : Value) = vb false)] ⟨(congrArg Value.bool (by (rw [hEq]; exact bne_self_eq_false _))), trivial⟩ fun ac hS => ?_
     refine hS.ordCG 6 false 50 #[.agg #[pt b'2 0, vi 64, vi ((8 * nn) + 3)], .slice ao354 ((rSetL lq yK (rAddE lq yK yA (decide (yA < 8192))) ((ao251, c252, nl253) : HdI)).length) c355] (law07_told b'2 F50 (qAddM mx ((8 * nn) + 3) lq yK yA) 64 ((8 * nn) + 3) ao354 c355 g356 o357 (rSetL lq yK (rAddE lq yK yA (decide (yA < 8192))) ((ao251, c252, nl253) : HdI)) ((Int.toNat x40) + 1) _ (hS.mem.res 0) (hS.mem.get 0 0 (.fn 0 64 dbT)) (hS.mem.get 4 g356 (.fn o357 (o357 + (rSetL lq yK (rAddE lq yK yA (decide (yA < 8192))) ((ao251, c252, nl253) : HdI)).length) (hdV (gtD (rSetL lq yK (rAddE lq yK yA (decide (yA < 8192))) ((ao251, c252, nl253) : HdI))) o357))) (by first | assumption | omega | (simp_all; done) | (simp_all; omega)) (by rfl) hv360 (by exact hS.mem.llGet 1) (by first | exact hR9 | exact i1) (by first | assumption | omega | (simp_all; done) | (simp_all; omega))) ?_
     rintro _ wd ⟨rfl, hF⟩
     refine ⟨vb true, rfl, ?_⟩
     replace hS := (hS.to (hS.mem.keep0 hF)).put (d := 107) (v := vb true) (by decide)
     clear hF
     refine hS.ordV (l := [0, 1, 2, 3, 4]) ?_
     refine St.ordF [1, 60, 0, 201, 1, 301, 1, 1, 1, 301, 1] [7, 8, 9, 10, 11, 12, 13, 15, 16, 17, 18] [5, 6, 7, 9, 38, 39, 40] (rest := [(14, 0), (19, 0), (20, 1), (21, 1)]) hS hap <| segF [(110, vb false), (111, .agg #[pt b'2 0, vi 64, vi ((8 * nn) + 3)]), (113, vi yK), (114, vi yA), (116, .slice ao354 ((rSetL lq yK (rAddE lq yK yA (decide (yA < 8192))) ((ao251, c252, nl253) : HdI)).length) c355), (118, vi yK), (119, vi yA)] [.t false, .t false, .e (ν13 0), .t false, .t false, .t false, .t false, .e (ν13 0), .t false, .t false, .e (ν7 0), .e (ν7 0), .e (ν7 0), .t false, .t false] trivial fun ac hS => ?_
     refine hS.ordCG 14 false 51 #[.agg #[pt b'2 0, vi 64, vi ((8 * nn) + 3)], vi yK, vi yA] (ls_HasQ b'2 F50 (qAddM mx ((8 * nn) + 3) lq yK yA) 64 ((8 * nn) + 3) yK yA (rSetL lq yK (rAddE lq yK yA (decide (yA < 8192))) ((ao251, c252, nl253) : HdI)) ((Int.toNat x40) + 1) _ (hS.mem.res 0) (by first | assumption | omega | (simp_all; done) | (simp_all; omega)) (by rfl) (by first | exact hR9 | exact i1)) ?_
     rintro _ wd ⟨rfl, hF⟩
     refine ⟨vb (qHas ((8 * nn) + 3) (rSetL lq yK (rAddE lq yK yA (decide (yA < 8192))) ((ao251, c252, nl253) : HdI)) yK yA), rfl, ?_⟩
     replace hS := (hS.to (hS.mem.keep0 hF)).put (d := 115) (v := vb (qHas ((8 * nn) + 3) (rSetL lq yK (rAddE lq yK yA (decide (yA < 8192))) ((ao251, c252, nl253) : HdI)) yK yA)) (by decide)
     clear hF
     refine hS.ordV (l := [0, 1, 2, 3, 4]) ?_
     refine hS.ordCG 19 false 45 #[.slice ao354 ((rSetL lq yK (rAddE lq yK yA (decide (yA < 8192))) ((ao251, c252, nl253) : HdI)).length) c355, vi yK, vi yA] (r7_Has ao354 c355 g356 o357 (rSetL lq yK (rAddE lq yK yA (decide (yA < 8192))) ((ao251, c252, nl253) : HdI)) yK yA _ (hS.mem.get 0 0 (.fn 0 64 dbT)) (hS.mem.get 4 g356 (.fn o357 (o357 + (rSetL lq yK (rAddE lq yK yA (decide (yA < 8192))) ((ao251, c252, nl253) : HdI)).length) (hdV (gtD (rSetL lq yK (rAddE lq yK yA (decide (yA < 8192))) ((ao251, c252, nl253) : HdI))) o357))) hv360 (by omega) (by exact hS.mem.llGet 1) (by first | exact hR9.hB (by omega) | exact i1.hB (by omega))) ?_
     rintro _ wd ⟨rfl, hF⟩
     refine ⟨vb (rHas (rSetL lq yK (rAddE lq yK yA (decide (yA < 8192))) ((ao251, c252, nl253) : HdI)) yK yA), rfl, ?_⟩
     replace hS := (hS.to (hS.mem.keep0 hF)).put (d := 120) (v := vb (rHas (rSetL lq yK (rAddE lq yK yA (decide (yA < 8192))) ((ao251, c252, nl253) : HdI)) yK yA)) (by decide)
     clear hF
     refine hS.ordV (l := [0, 1, 2, 3, 4]) ?_
     refine St.ordF [fx 1 (vb false), 60] [20, 21] [5, 6, 7, 9, 38, 39, 40] (rest := []) hS hap <| segF [(122, vb false)] [.t false, .t false, .p ((vb (!((qHas ((8 * nn) + 3) (rSetL lq yK (rAddE lq yK yA (decide (yA < 8192))) ((ao251, c252, nl253) : HdI)) yK yA) == (rHas (rSetL lq yK (rAddE lq yK yA (decide (yA < 8192))) ((ao251, c252, nl253) : HdI)) yK yA))) : Value) = vb false)] ⟨(congrArg Value.bool (by (rw [hR9.has]; exact bne_self_eq_false _))), trivial⟩ fun ac hS => ?_
     refine ord_nil ?_
     refine hS.condF ?_
     refine wp_skip ?_
     refine pop_block ?_
     refine pop_then ?_
     refine hS.regC [20, 0] [5, 6, 7, 9, 38, 39] fun _ => seg [(40, vi (x40 + 1))] [(0, none), (1, none), (2, none), (4, none)] [.p (fit .i64 (x40 + 1))] ⟨fit_i64 (by omega), trivial⟩ fun ac wd hS => ?_
     replace hS := hS.perm (H' := [(0, .fn 0 64 dbT), (g7, .fn o7 (o7 + l.length * 3) (a7V (gtD l) o7)), ((ν7 0), .cells [pt b'2 0, vi 64, vi ((8 * nn) + 3)] 89), (g356, .fn o357 (o357 + (rSetL lq yK (rAddE lq yK yA (decide (yA < 8192))) ((ao251, c252, nl253) : HdI)).length) (hdV (gtD (rSetL lq yK (rAddE lq yK yA (decide (yA < 8192))) ((ao251, c252, nl253) : HdI))) o357))]) [0, 1, 2, 3] (by as_aux_lemma => kernel_rfl) (by decide)
     exact pop_then (hS.next ((x40 + 1), F50, (qAddM mx ((8 * nn) + 3) lq yK yA), ao354, c355, g356, o357, (rSetL lq yK (rAddE lq yK yA (decide (yA < 8192))) ((ao251, c252, nl253) : HdI))) ⟨(by omega), (by first | exact hR9.more (by omega) | exact i1.more (by omega)), (by exact hv360), trivial⟩ (by dsimp only; omega))
  ·
   refine wp_exit ?_
   refine pop_then_exit ?_
   refine pop_then_exit ?_
   refine pop_block_hit ?_
   refine pop_then ?_
   have hn8 := i1.n12
   refine wp_region_seq ?_
   refine hS.opsC 1 [0] [5, 9] fun _ => seg [(125, pt b'2 0)] [(0, none), (3, none)] [] trivial fun ac wd hS => ?_
   refine hS.callC 53 #[pt b'2 0] (ar_Clone b'2 Fx mx _ (hS.mem.res 0) ) ?_
   rintro _ wd ⟨b'62, F63, rfl, hN, hF⟩
   refine ⟨pt b'62 0, rfl, ?_⟩
   replace hS := (hS.to (hS.mem.stepA 0 (r' := arR b'62 F63 mx) rfl hN hF)).put (d := 126) (v := pt b'62 0) (by decide)
   clear hF
   refine hS.opsC 3 [0, 20, 20] [9, 126] fun _ => seg [(129, vi ((8 * nn) + 3))] [(0, none), (1, none)] [.p (fit .i64 ((8 * nn) + 3)), .p (fit .i64 (8 * nn))] ⟨fit_i64 (by omega), fit_i64 (by omega), trivial⟩ fun ac wd hS => ?_
   refine hS.call0 52 #[pt b'62 0, vi 64, vi ((8 * nn) + 3)] 130 (vw_Of b'62 F63 mx 64 ((8 * nn) + 3) _ (hS.mem.res 0) (by first | exact lBase_thr (by omega) | exact i1.lq.there)) fun ac wd hS => ?_
   refine hS.opsC 6 [0, 0, 0, 0, 200, 0] [9] fun ν61 => seg [(18, pt (ν61 0) 0), (19, vi 0)] [(0, none), (1, none), (2, some ((ν61 0), .cells [pt b'62 0, vi 64, vi ((8 * nn) + 3)] 72))] [.e (ν61 0), .e (ν61 0), .e (ν61 0)] trivial fun ac wd hS => ?_
   refine list_nil_seq ?_
   refine wp_region_seq ?_
   refine hS.opsC 3 [0, 0, 0] [9, 18] fun _ => seg [(135, vb true)] [(0, none), (1, none), (2, none)] [] trivial fun ac wd hS => ?_
   refine hS.opsC 1 [201] [9, 135] fun _ => seg [(136, .agg #[pt b'62 0, vi 64, vi ((8 * nn) + 3)])] [(0, none), (1, none)] [.t true, .e (ν61 0), .e (ν61 0), .e (ν61 0)] trivial fun ac wd hS => ?_
   refine hS.callG true 54 #[.agg #[pt b'62 0, vi 64, vi ((8 * nn) + 3)]] (ls_Open b'62 64 ((8 * nn) + 3) _  ) ?_
   rintro _ wd ⟨rfl, hF⟩
   refine ⟨.agg #[pt b'62 0, vi 64, vi ((8 * nn) + 3)], rfl, ?_⟩
   replace hS := (hS.to (hS.mem.keep0 hF)).put (d := 137) (v := .agg #[pt b'62 0, vi 64, vi ((8 * nn) + 3)]) (by decide)
   clear hF
   refine hS.opsC 1 [1] [135, 137] fun _ => seg [(138, .slice aoq lq.length cq)] [(0, none), (1, none)] [.t true] trivial fun ac wd hS => ?_
   refine hS.callG true 50 #[.agg #[pt b'62 0, vi 64, vi ((8 * nn) + 3)], .slice aoq lq.length cq] (law07_told b'62 F63 mx 64 ((8 * nn) + 3) aoq cq gq oq lq (Int.toNat x40) _ (hS.mem.res 0) (hS.mem.get 0 0 (.fn 0 64 dbT)) (hS.mem.get 1 gq (.fn oq (oq + lq.length) (hdV (gtD lq) oq))) (by first | assumption | omega | (simp_all; done) | (simp_all; omega)) (by rfl) hvq (by exact hS.mem.llGet 1) (by first | exact hR9 | exact i1) (by first | assumption | omega | (simp_all; done) | (simp_all; omega))) ?_
   rintro _ wd ⟨rfl, hF⟩
   refine ⟨vb true, rfl, ?_⟩
   replace hS := (hS.to (hS.mem.keep0 hF)).put (d := 139) (v := vb true) (by decide)
   clear hF
   refine hS.opsC 2 [70, 0] [] fun _ => seg [(4, vb true)] [(0, none)] [.t true] trivial fun ac wd hS => ?_
   refine list_nil_seq ?_
   refine wp_ret ?_
   refine St.retC 0 hS (vb true) [] trivial fun hw => ?_
   refine ⟨retd rfl, hw.fr0⟩

end Go.Proofs.YtnbkafnikpbmbaaDoor.K
