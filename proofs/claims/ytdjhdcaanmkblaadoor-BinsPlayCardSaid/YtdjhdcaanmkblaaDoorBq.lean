/-
  Walks, printed by w2.py.
-/
import Derived.Test.YtdjhdcaanmkblaaDoorBo
import Derived.Test.YtdjhdcaanmkblaaDoorLh
import Derived.Test.YtdjhdcaanmkblaaDoorOb
import Derived.Test.YtdjhdcaanmkblaaDoorProg
namespace Go.Proofs.YtdjhdcaanmkblaaDoor.K
set_option linter.unusedVariables false
set_option linter.unusedSimpArgs false

set_option maxRecDepth 100000 in
set_option maxHeartbeats 1000000 in
theorem law11_BinsPlay (ao9 : Option Addr) (c9 : Nat) (g9 : Nat) (o9 : Nat) (l : List (Int × Int × Int × Int)) (w : World) (hh0 : HE.holds w 0 (.fn 0 64 dbT)) (hh1 : HE.holds w g9 (.fn o9 (o9 + l.length * 4) (a11V (gtD l) o9))) (hv9 : (l.length = 0 ∨ ao9 = some ⟨g9, o9, none⟩)) (hAl : ∀ i, i < l.length → rg_a11V (gtD l i)) :
    Calls Tryd.prog 5 #[.slice ao9 l.length c9] w fun e w' => e = .returned (vb true) ∧ Fr w w' no no := by
 refine enter (args := [.slice ao9 l.length c9]) (D := no) (A := []) Tryd.func5 rfl 162 rfl [(0, .fn 0 64 dbT), (g9, .fn o9 (o9 + l.length * 4) (a11V (gtD l) o9))] (WS.startL ⟨⟨rfl, hh0⟩, ⟨rfl, hh1⟩, trivial⟩) fun ac hS => ?_
 refine hS.regS [0] [0] fun _ => seg [] [(0, none), (1, none)] [] trivial fun ac wd hS => ?_
 refine wp_seq ?_
 refine wp_region_seq ?_
 refine hS.call0 28 #[] 20 (law11_awake  _ (hS.mem.get 0 0 (.fn 0 64 dbT)) ) fun ac wd hS => ?_
 refine hS.opsC 1 [0] [0] fun _ => seg [(21, vb false)] [(0, none), (1, none)] [] trivial fun ac wd hS => ?_
 refine list_nil_seq ?_
 refine hS.condF ?_
 refine wp_skip ?_
 refine pop_then ?_
 refine wp_seq ?_
 refine hS.regS [0, 0, 0] [0] fun _ => seg [(24, vb (decide ((60 : Int) < ((l.length : Nat) : Int))))] [(0, none), (1, none)] [] trivial fun ac wd hS => ?_
 refine hS.condC (decide ((60 : Int) < ((l.length : Nat) : Int))) (fun hb1o hb1 => ?_) (fun hb1o hb1 => ?_)
 ·
  refine hS.regS [0] [] fun _ => seg [(2, vb true)] [(0, none)] [] trivial fun ac wd hS => ?_
  refine wp_ret ?_
  refine pop_then_ret ?_
  refine St.retC 0 hS (vb true) [] trivial fun hw => ?_
  refine ⟨retd rfl, hw.fr0⟩
 ·
  refine wp_skip ?_
  refine pop_then ?_
  refine wp_region_seq ?_
  refine hS.callC 29 #[] (law11_open  _  ) ?_
  rintro _ wd ⟨b'2, F3, rfl, hN, hF⟩
  refine ⟨.tuple #[pt b'2 0, .agg #[pt b'2 0, vi 100, vi 44], vb true], rfl, ?_⟩
  replace hS := (hS.to (hS.mem.newA hN hF)).put (d := 26) (v := .tuple #[pt b'2 0, .agg #[pt b'2 0, vi 100, vi 44], vb true]) (by decide)
  clear hF
  refine hS.opsC 8 [0, 0, 0, 0, 0, 0, 200, 0] [0] fun ν5 => seg [(3, pt b'2 0), (4, pt (ν5 0) 0), (5, vb true)] [(0, none), (1, none), (2, some ((ν5 0), .cells [pt b'2 0, vi 100, vi 44] 67))] [.e (ν5 0), .e (ν5 0), .e (ν5 0)] trivial fun ac wd hS => ?_
  refine list_nil_seq ?_
  refine wp_seq ?_
  refine hS.regS [0, 0] [0, 3, 4] fun _ => seg [(31, vb false)] [(0, none), (1, none), (2, none)] [] trivial fun ac wd hS => ?_
  refine hS.condF ?_
  refine wp_skip ?_
  refine pop_then ?_
  refine hS.regS [0] [0, 3, 4] fun ν7 => seg [(6, pt (ν7 0) 0)] [(0, none), (1, none), (2, none), (3, some ((ν7 0), .cells [vnil, vnil, vnil, vnil, vnil] 72))] [] trivial fun ac wd hS => ?_
  refine wp_seq ?_
  replace hS := hS.to (hS.mem.tell 3 (b := (ν7 0)) (x := (.cells [vnil, vnil, vnil, vnil, vnil] 72)) (.cells [.slice (((fun _ => ((none, 0, []) : HdI)) 0).1) (((fun _ => ((none, 0, []) : HdI)) 0).2.2.length) (((fun _ => ((none, 0, []) : HdI)) 0).2.1), .slice (((fun _ => ((none, 0, []) : HdI)) 1).1) (((fun _ => ((none, 0, []) : HdI)) 1).2.2.length) (((fun _ => ((none, 0, []) : HdI)) 1).2.1), .slice (((fun _ => ((none, 0, []) : HdI)) 2).1) (((fun _ => ((none, 0, []) : HdI)) 2).2.2.length) (((fun _ => ((none, 0, []) : HdI)) 2).2.1), .slice (((fun _ => ((none, 0, []) : HdI)) 3).1) (((fun _ => ((none, 0, []) : HdI)) 3).2.2.length) (((fun _ => ((none, 0, []) : HdI)) 3).2.1), .slice (((fun _ => ((none, 0, []) : HdI)) 4).1) (((fun _ => ((none, 0, []) : HdI)) 4).2.2.length) (((fun _ => ((none, 0, []) : HdI)) 4).2.1)] 72) (hh := fun h_ => h_))
  replace hS := hS.to (hS.mem.l5New 0 no (fun _ => ((none, 0, []) : HdI)) (fun _ _ => rfl))
  refine hS.regS [0, 0, 0] [3, 4, 6] fun _ => seg [(32, .slice ao9 l.length c9), (33, vi ((l.length : Nat) : Int)), (34, vi 0)] [(0, none), (1, none), (2, none), (3, none)] [] trivial fun ac wd hS => ?_
  refine wp_block ?_
  refine St.loopC (σ := Int × (Nat → Prop) × AM × (Nat → HdI)) (fun (x : Int × (Nat → Prop) × AM × (Nat → HdI)) => match x with | (x34, Fx, mx, Ez) => ⟨[(3, [], pt b'2 0), (4, [], pt (ν5 0) 0), (6, [], pt (ν7 0) 0), (32, [], .slice ao9 l.length c9), (33, [], vi ((l.length : Nat) : Int)), (34, [], vi x34)], [(0, .fn 0 64 dbT), (g9, .fn o9 (o9 + l.length * 4) (a11V (gtD l) o9)), ((ν5 0), .cells [pt b'2 0, vi 100, vi 44] 67), ((ν7 0), .cells [.slice ((Ez 0).1) ((Ez 0).2.2.length) ((Ez 0).2.1), .slice ((Ez 1).1) ((Ez 1).2.2.length) ((Ez 1).2.1), .slice ((Ez 2).1) ((Ez 2).2.2.length) ((Ez 2).2.1), .slice ((Ez 3).1) ((Ez 3).2.2.length) ((Ez 3).2.1), .slice ((Ez 4).1) ((Ez 4).2.2.length) ((Ez 4).2.1)] 72)], [arR b'2 Fx mx, l5R 0 no Ez], (0 ≤ x34 ∧ x34 ≤ ((l.length : Nat) : Int)) ∧ (BSQ mx Ez (Int.toNat x34)) ∧ (∀ i, i < 5 → (Ez i).2.2.length ≤ (Ez i).2.1) ∧ True, l.length - Int.toNat x34⟩) (0, F3, (comM (AM.new 13) 0 12), (fun _ => ((none, 0, []) : HdI))) ⟨(by omega), (by exact BSQ.zero), (by exact fun _ _ => Nat.le_refl _), trivial⟩ hS ?_
  clear hS
  rintro ⟨x34, Fx, mx, Ez⟩ ⟨i0, i1, i2, -⟩ ac wd hS
  replace i0 : 0 ≤ x34 ∧ x34 ≤ ((l.length : Nat) : Int) := i0
  replace i1 : BSQ mx Ez (Int.toNat x34) := i1
  replace i2 : ∀ i, i < 5 → (Ez i).2.2.length ≤ (Ez i).2.1 := i2
  refine hS.regS [0] [3, 4, 6, 32, 33, 34] fun _ => seg [(35, vb (decide ((x34 : Int) < ((l.length : Nat) : Int))))] [(0, none), (1, none), (2, none), (3, none)] [] trivial fun ac wd hS => ?_
  refine wp_seq ?_
  refine hS.condC (decide ((x34 : Int) < ((l.length : Nat) : Int))) (fun hb4o hb4 => ?_) (fun hb4o hb4 => ?_)
  ·
   refine wp_skip ?_
   refine pop_then ?_
   refine wp_seq ?_
   refine wp_block ?_
   obtain rfl : ao9 = some ⟨g9, o9, none⟩ := Or.resolve_left hv9 (by omega)
   refine hS.regS [20, fx 100 (.agg #[v8 (((gtD l) (Int.toNat x34)).1), v8 (((gtD l) (Int.toNat x34)).2.1), v8 (((gtD l) (Int.toNat x34)).2.2.1), vi (((gtD l) (Int.toNat x34)).2.2.2)]), 0, 400] [3, 4, 6, 32, 33, 34] fun ν10 => seg [(8, pt (ν10 0) 0)] [(0, none), (1, none), (2, none), (3, none), (4, some ((ν10 0), .cells [v8 (((gtD l) (Int.toNat x34)).1), v8 (((gtD l) (Int.toNat x34)).2.1), v8 (((gtD l) (Int.toNat x34)).2.2.1), vi (((gtD l) (Int.toNat x34)).2.2.2)] 74))] [.e (ν10 0), .e (ν10 0), .e (ν10 0), .e (ν10 0), .p ((.agg #[((a11V (gtD l) o9) (o9 + Int.toNat x34 * 4)), ((a11V (gtD l) o9) (o9 + Int.toNat x34 * 4 + 1)), ((a11V (gtD l) o9) (o9 + Int.toNat x34 * 4 + 2)), ((a11V (gtD l) o9) (o9 + Int.toNat x34 * 4 + 3))] : Value) = .agg #[v8 (((gtD l) (Int.toNat x34)).1), v8 (((gtD l) (Int.toNat x34)).2.1), v8 (((gtD l) (Int.toNat x34)).2.2.1), vi (((gtD l) (Int.toNat x34)).2.2.2)]), .e g9, .p (o9 ≤ o9 + Int.toNat x34 * 4 + 3 ∧ o9 + Int.toNat x34 * 4 + 3 < (o9 + l.length * 4)), .e g9, .p (o9 ≤ o9 + Int.toNat x34 * 4 + 2 ∧ o9 + Int.toNat x34 * 4 + 2 < (o9 + l.length * 4)), .e g9, .p (o9 ≤ o9 + Int.toNat x34 * 4 + 1 ∧ o9 + Int.toNat x34 * 4 + 1 < (o9 + l.length * 4)), .e g9, .p (o9 ≤ o9 + Int.toNat x34 * 4 ∧ o9 + Int.toNat x34 * 4 < (o9 + l.length * 4)), .p ((0 : Int) ≤ x34 ∧ (x34 : Int) < ((l.length : Nat) : Int))] ⟨(agg4 (a11V_0 (gtD l) o9 (Int.toNat x34)) (a11V_1 (gtD l) o9 (Int.toNat x34)) (a11V_2 (gtD l) o9 (Int.toNat x34)) (a11V_3 (gtD l) o9 (Int.toNat x34))), (by omega), (by omega), (by omega), (by omega), (by omega), trivial⟩ fun ac wd hS => ?_
   obtain ⟨kd, kd_e⟩ : ∃ q_ : Int, q_ = ((gtD l) (Int.toNat x34)).1 := ⟨_, rfl⟩
   obtain ⟨kp, kp_e⟩ : ∃ q_ : Int, q_ = ((gtD l) (Int.toNat x34)).2.1 := ⟨_, rfl⟩
   obtain ⟨kw, kw_e⟩ : ∃ q_ : Int, q_ = ((gtD l) (Int.toNat x34)).2.2.1 := ⟨_, rfl⟩
   obtain ⟨kk, kk_e⟩ : ∃ q_ : Int, q_ = ((gtD l) (Int.toNat x34)).2.2.2 := ⟨_, rfl⟩
   replace hS := hS.to (hS.mem.tell 4 (b := (ν10 0)) (x := (.cells [v8 (((gtD l) (Int.toNat x34)).1), v8 (((gtD l) (Int.toNat x34)).2.1), v8 (((gtD l) (Int.toNat x34)).2.2.1), vi (((gtD l) (Int.toNat x34)).2.2.2)] 74)) (.cells [v8 kd, v8 kp, v8 kw, vi kk] 74) (hh := fun h_ => by rw [kd_e, kp_e, kw_e, kk_e]; exact h_))
   have hac := hAl _ (show Int.toNat x34 < l.length by omega)
   unfold rg_a11V at hac
   rw [← kd_e, ← kp_e, ← kw_e, ← kk_e] at hac
   clear kd_e kp_e kw_e kk_e
   obtain ⟨hac1, hac2, hac3, hac4⟩ := hac
   refine hS.regS [0, 400, 20, 20, 20, 20, 0] [3, 4, 6, 8, 32, 33, 34] fun _ => seg [(9, vi (4096 * (1 + (kp % 13))))] [(0, none), (1, none), (2, none), (3, none), (4, none)] [.p (fit .i64 (4096 * (1 + (kp % 13)))), .p (fit .i64 (1 + (kp % 13))), .p ((13 : Int) ≠ 0 ∧ Int.tmod kp 13 = kp % 13), .p (fit .i64 kp), .e (ν10 0)] ⟨fit_i64 (by omega), fit_i64 (by omega), rem2 (by omega) (by omega), fit_i64 (by omega), trivial⟩ fun ac wd hS => ?_
   refine wp_seq ?_
   refine wp_block ?_
   obtain ⟨kA, kA_e⟩ : ∃ q_ : Int, q_ = (4096 * (1 + (kp % 13))) := ⟨_, rfl⟩
   replace hS := hS.fix 9 (vi kA) (show (vi (4096 * (1 + (kp % 13))) : Value) = vi kA by rw [kA_e])
   obtain ⟨kj, hkj, hkA⟩ : ∃ j : Nat, j < 13 ∧ kA = 4096 * ((j : Int) + 1) := ⟨Int.toNat (kp % 13), by omega, by rw [kA_e]; omega⟩
   clear kA_e
   refine hS.regS [0, 400, 20, 0, 0] [3, 4, 6, 8, 9, 32, 33, 34] fun _ => seg [(92, vb (((kd % 4) : Int) == 3))] [(0, none), (1, none), (2, none), (3, none), (4, none)] [.p ((4 : Int) ≠ 0 ∧ Int.tmod kd 4 = kd % 4), .e (ν10 0)] ⟨rem2 (by omega) (by omega), trivial⟩ fun ac wd hS => ?_
   refine hS.condC (((kd % 4) : Int) == 3) (fun hb5o hb5 => ?_) (fun hb5o hb5 => ?_)
   ·
    obtain ⟨hQo, hQa, hQz, hpB⟩ := i1.popF kk
    refine wp_region_seq ?_
    refine hS.opsC 3 [200, 0, 400] [3, 4, 6, 8, 32, 33, 34] fun _ => seg [(98, .agg #[pt b'2 0, vi 100, vi 44]), (100, vi kk)] [(0, none), (1, none), (2, none), (3, none), (4, none)] [.e (ν10 0), .e (ν5 0), .e (ν5 0), .e (ν5 0)] trivial fun ac wd hS => ?_
    refine hS.callC 30 #[.agg #[pt b'2 0, vi 100, vi 44], vi kk] (b_Pop b'2 Fx mx 100 44 kk _ (hS.mem.res 0) (by first | assumption | omega | (simp_all; done) | (simp_all; omega))) ?_
    rintro _ wd ⟨F6, rfl, hA, hF⟩
    refine ⟨.tuple #[.agg #[vi (bqAt mx 100 44 kk), vi (bqOrd mx 100 44 kk), vu (bqOwn mx 100 44 kk), vi 0], vb (bqOk mx 100 44 kk)], rfl, ?_⟩
    replace hS := (hS.to (hS.mem.stepA 0 rfl hA hF)).put (d := 101) (v := .tuple #[.agg #[vi (bqAt mx 100 44 kk), vi (bqOrd mx 100 44 kk), vu (bqOwn mx 100 44 kk), vi 0], vb (bqOk mx 100 44 kk)]) (by decide)
    clear hF
    refine hS.opsC 6 [0, 0, 0, 0, 500, 0] [3, 4, 6, 8, 32, 33, 34] fun ν14 => seg [(10, pt (ν14 0) 0), (11, vb (bqOk mx 100 44 kk))] [(0, none), (1, none), (2, none), (3, none), (4, none), (5, some ((ν14 0), .cells [vi (bqAt mx 100 44 kk), vi (bqOrd mx 100 44 kk), vu (bqOwn mx 100 44 kk), vi 0] 76))] [.e (ν14 0), .e (ν14 0), .e (ν14 0), .e (ν14 0)] trivial fun ac wd hS => ?_
    refine list_nil_seq ?_
    refine wp_region_seq ?_
    refine hS.opsC 3 [300, 0, 400] [3, 4, 6, 8, 10, 11, 32, 33, 34] fun _ => seg [(105, .agg #[.slice ((Ez 0).1) ((Ez 0).2.2.length) ((Ez 0).2.1), .slice ((Ez 1).1) ((Ez 1).2.2.length) ((Ez 1).2.1), .slice ((Ez 2).1) ((Ez 2).2.2.length) ((Ez 2).2.1), .slice ((Ez 3).1) ((Ez 3).2.2.length) ((Ez 3).2.1), .slice ((Ez 4).1) ((Ez 4).2.2.length) ((Ez 4).2.1)]), (107, vi kk)] [(0, none), (1, none), (2, none), (3, none), (4, none), (5, none)] [.e (ν10 0), .e (ν7 0), .e (ν7 0), .e (ν7 0), .e (ν7 0), .e (ν7 0)] trivial fun ac wd hS => ?_
    refine hS.callC 31 #[.agg #[.slice ((Ez 0).1) ((Ez 0).2.2.length) ((Ez 0).2.1), .slice ((Ez 1).1) ((Ez 1).2.2.length) ((Ez 1).2.1), .slice ((Ez 2).1) ((Ez 2).2.2.length) ((Ez 2).2.1), .slice ((Ez 3).1) ((Ez 3).2.2.length) ((Ez 3).2.1), .slice ((Ez 4).1) ((Ez 4).2.2.length) ((Ez 4).2.1)], vi kk] (r11_Pop Ez kk _ (hS.mem.get 0 0 (.fn 0 64 dbT)) (by exact hS.mem.l5Get 1) (by exact fun i hi => Nat.le_trans (i1.len i hi) (by omega)) (by exact i2)) ?_
    rintro _ wd ⟨ao27, c28, nl29, F10, rfl, hN211, hN, hF⟩
    refine ⟨.tuple #[.agg #[.slice (((popE Ez kk ((ao27, c28, nl29) : HdI)) 0).1) (((popE Ez kk ((ao27, c28, nl29) : HdI)) 0).2.2.length) (((popE Ez kk ((ao27, c28, nl29) : HdI)) 0).2.1), .slice (((popE Ez kk ((ao27, c28, nl29) : HdI)) 1).1) (((popE Ez kk ((ao27, c28, nl29) : HdI)) 1).2.2.length) (((popE Ez kk ((ao27, c28, nl29) : HdI)) 1).2.1), .slice (((popE Ez kk ((ao27, c28, nl29) : HdI)) 2).1) (((popE Ez kk ((ao27, c28, nl29) : HdI)) 2).2.2.length) (((popE Ez kk ((ao27, c28, nl29) : HdI)) 2).2.1), .slice (((popE Ez kk ((ao27, c28, nl29) : HdI)) 3).1) (((popE Ez kk ((ao27, c28, nl29) : HdI)) 3).2.2.length) (((popE Ez kk ((ao27, c28, nl29) : HdI)) 3).2.1), .slice (((popE Ez kk ((ao27, c28, nl29) : HdI)) 4).1) (((popE Ez kk ((ao27, c28, nl29) : HdI)) 4).2.2.length) (((popE Ez kk ((ao27, c28, nl29) : HdI)) 4).2.1)], vi (popA Ez kk), vb (popS Ez kk)], rfl, ?_⟩
    replace hS := (hS.to (hS.mem.newA hN hF)).put (d := 108) (v := .tuple #[.agg #[.slice (((popE Ez kk ((ao27, c28, nl29) : HdI)) 0).1) (((popE Ez kk ((ao27, c28, nl29) : HdI)) 0).2.2.length) (((popE Ez kk ((ao27, c28, nl29) : HdI)) 0).2.1), .slice (((popE Ez kk ((ao27, c28, nl29) : HdI)) 1).1) (((popE Ez kk ((ao27, c28, nl29) : HdI)) 1).2.2.length) (((popE Ez kk ((ao27, c28, nl29) : HdI)) 1).2.1), .slice (((popE Ez kk ((ao27, c28, nl29) : HdI)) 2).1) (((popE Ez kk ((ao27, c28, nl29) : HdI)) 2).2.2.length) (((popE Ez kk ((ao27, c28, nl29) : HdI)) 2).2.1), .slice (((popE Ez kk ((ao27, c28, nl29) : HdI)) 3).1) (((popE Ez kk ((ao27, c28, nl29) : HdI)) 3).2.2.length) (((popE Ez kk ((ao27, c28, nl29) : HdI)) 3).2.1), .slice (((popE Ez kk ((ao27, c28, nl29) : HdI)) 4).1) (((popE Ez kk ((ao27, c28, nl29) : HdI)) 4).2.2.length) (((popE Ez kk ((ao27, c28, nl29) : HdI)) 4).2.1)], vi (popA Ez kk), vb (popS Ez kk)]) (by decide)
    clear hF
    have hN9 := hN211
    refine hS.opsC 8 [0, 0, 0, 0, 0, 600, 0, 0] [3, 4, 6, 8, 10, 11, 32, 33, 34] fun ν16 => seg [(12, pt (ν16 0) 0), (13, vi (popA Ez kk)), (14, vb (popS Ez kk))] [(0, none), (1, none), (2, none), (3, none), (4, none), (5, none), (6, some ((ν16 0), .cells [.slice (((popE Ez kk ((ao27, c28, nl29) : HdI)) 0).1) (((popE Ez kk ((ao27, c28, nl29) : HdI)) 0).2.2.length) (((popE Ez kk ((ao27, c28, nl29) : HdI)) 0).2.1), .slice (((popE Ez kk ((ao27, c28, nl29) : HdI)) 1).1) (((popE Ez kk ((ao27, c28, nl29) : HdI)) 1).2.2.length) (((popE Ez kk ((ao27, c28, nl29) : HdI)) 1).2.1), .slice (((popE Ez kk ((ao27, c28, nl29) : HdI)) 2).1) (((popE Ez kk ((ao27, c28, nl29) : HdI)) 2).2.2.length) (((popE Ez kk ((ao27, c28, nl29) : HdI)) 2).2.1), .slice (((popE Ez kk ((ao27, c28, nl29) : HdI)) 3).1) (((popE Ez kk ((ao27, c28, nl29) : HdI)) 3).2.2.length) (((popE Ez kk ((ao27, c28, nl29) : HdI)) 3).2.1), .slice (((popE Ez kk ((ao27, c28, nl29) : HdI)) 4).1) (((popE Ez kk ((ao27, c28, nl29) : HdI)) 4).2.2.length) (((popE Ez kk ((ao27, c28, nl29) : HdI)) 4).2.1)] 72))] [.e (ν16 0), .e (ν16 0), .e (ν16 0), .e (ν16 0), .e (ν16 0)] trivial fun ac wd hS => ?_
    refine list_nil_seq ?_
    refine wp_seq ?_
    refine hS.regS [0, 0, fx 0 (vb false), 0, 1, 501, 1, fx 1 (vb false), 60, 0, 1, 501, 1, 60, 0, 1, 1, 3, 503, 3, 403, 3, 81, 60] [3, 4, 6, 8, 12, 32, 33, 34] fun _ => seg [(135, vb ((bqOk mx 100 44 kk) && (((bqOrd mx 100 44 kk) : Int) != kk)))] [(0, none), (1, none), (2, none), (3, none), (4, none), (6, none)] [.t false, .t false, .p ((((bqOk mx 100 44 kk) = true) ∧ True) → AllP [((ν10 0) : Nat) = (ν10 0)]), .p ((((bqOk mx 100 44 kk) = true) ∧ True) → AllP [((ν14 0) : Nat) = (ν14 0)]), .t false, .t false, .t false, .t false, .t false, .e (ν14 0), .t false, .t false, .t false, .p ((vb (((bqAt mx 100 44 kk) : Int) != (popA Ez kk)) : Value) = vb false), .t false, .t false, .e (ν14 0), .t false, .p ((vb (!((bqOk mx 100 44 kk) == (popS Ez kk))) : Value) = vb false)] ⟨(fun ⟨hc0, _⟩ => by replace hc0 := nrm hc0; exact ⟨rfl, trivial⟩), (fun ⟨hc0, _⟩ => by replace hc0 := nrm hc0; exact ⟨rfl, trivial⟩), (congrArg Value.bool (by (rw [hQa]; exact bne_self_eq_false _))), (congrArg Value.bool (by (rw [hQo]; simp))), trivial⟩ fun ac wd hS => ?_
    refine hS.condK ((bqOk mx 100 44 kk) && (((bqOrd mx 100 44 kk) : Int) != kk)) false (by exact hQz) ?_
    show Code.wp _ _ _ _ _
    refine wp_skip ?_
    refine pop_then ?_
    refine hS.regC [500, 300] [3, 4, 6, 8, 32, 33, 34] fun _ => seg [] [(0, none), (1, none), (2, none), (3, some ((ν7 0), .cells [.slice (((popE Ez kk ((ao27, c28, nl29) : HdI)) 0).1) (((popE Ez kk ((ao27, c28, nl29) : HdI)) 0).2.2.length) (((popE Ez kk ((ao27, c28, nl29) : HdI)) 0).2.1), .slice (((popE Ez kk ((ao27, c28, nl29) : HdI)) 1).1) (((popE Ez kk ((ao27, c28, nl29) : HdI)) 1).2.2.length) (((popE Ez kk ((ao27, c28, nl29) : HdI)) 1).2.1), .slice (((popE Ez kk ((ao27, c28, nl29) : HdI)) 2).1) (((popE Ez kk ((ao27, c28, nl29) : HdI)) 2).2.2.length) (((popE Ez kk ((ao27, c28, nl29) : HdI)) 2).2.1), .slice (((popE Ez kk ((ao27, c28, nl29) : HdI)) 3).1) (((popE Ez kk ((ao27, c28, nl29) : HdI)) 3).2.2.length) (((popE Ez kk ((ao27, c28, nl29) : HdI)) 3).2.1), .slice (((popE Ez kk ((ao27, c28, nl29) : HdI)) 4).1) (((popE Ez kk ((ao27, c28, nl29) : HdI)) 4).2.2.length) (((popE Ez kk ((ao27, c28, nl29) : HdI)) 4).2.1)] 72)), (4, none)] [.e (ν7 0), .e (ν7 0), .e (ν7 0), .e (ν7 0), .e (ν7 0), .e (ν16 0), .e (ν16 0), .e (ν16 0), .e (ν16 0), .e (ν16 0)] trivial fun ac wd hS => ?_
    refine pop_block ?_
    refine pop_then ?_
    have hcp9 := WS.grCap hS.mem 2
    have hC9 : ∀ i, i < 5 → ((popE Ez kk ((ao27, c28, nl29) : HdI)) i).2.2.length ≤ ((popE Ez kk ((ao27, c28, nl29) : HdI)) i).2.1 := by first | exact popE_cap i2 hcp9 | exact updF_cap i2 hcp9
    replace hS := hS.to (WS.l5Turn (ao := ao27) (cp := c28) (nl := nl29) (E2 := (popE Ez kk ((ao27, c28, nl29) : HdI))) hS.mem (fun i_ _ => by first | exact popE_or _ _ _ _ | exact updF_or _ _ _ _) no)
    have hT9 : BSQ (bqM mx 100 44 kk) (popE Ez kk ((ao27, c28, nl29) : HdI)) ((Int.toNat x34) + 1) := by first | exact (hpB _ hN9).more (by omega) | exact hpu.2 _ hN9 | (rw [← hpA.2]; exact hz1.more (by omega))
    refine wp_region_seq ?_
    refine hS.opsC 4 [200, 300, 0, 400] [3, 4, 6, 32, 33, 34] fun _ => seg [(141, .agg #[pt b'2 0, vi 100, vi 44]), (142, .agg #[.slice (((popE Ez kk ((ao27, c28, nl29) : HdI)) 0).1) (((popE Ez kk ((ao27, c28, nl29) : HdI)) 0).2.2.length) (((popE Ez kk ((ao27, c28, nl29) : HdI)) 0).2.1), .slice (((popE Ez kk ((ao27, c28, nl29) : HdI)) 1).1) (((popE Ez kk ((ao27, c28, nl29) : HdI)) 1).2.2.length) (((popE Ez kk ((ao27, c28, nl29) : HdI)) 1).2.1), .slice (((popE Ez kk ((ao27, c28, nl29) : HdI)) 2).1) (((popE Ez kk ((ao27, c28, nl29) : HdI)) 2).2.2.length) (((popE Ez kk ((ao27, c28, nl29) : HdI)) 2).2.1), .slice (((popE Ez kk ((ao27, c28, nl29) : HdI)) 3).1) (((popE Ez kk ((ao27, c28, nl29) : HdI)) 3).2.2.length) (((popE Ez kk ((ao27, c28, nl29) : HdI)) 3).2.1), .slice (((popE Ez kk ((ao27, c28, nl29) : HdI)) 4).1) (((popE Ez kk ((ao27, c28, nl29) : HdI)) 4).2.2.length) (((popE Ez kk ((ao27, c28, nl29) : HdI)) 4).2.1)]), (144, vi kk)] [(0, none), (1, none), (2, none), (3, none)] [.e (ν10 0), .e (ν7 0), .e (ν7 0), .e (ν7 0), .e (ν7 0), .e (ν7 0), .e (ν5 0), .e (ν5 0), .e (ν5 0)] trivial fun ac wd hS => ?_
    refine hS.call0 37 #[.agg #[pt b'2 0, vi 100, vi 44], .agg #[.slice (((popE Ez kk ((ao27, c28, nl29) : HdI)) 0).1) (((popE Ez kk ((ao27, c28, nl29) : HdI)) 0).2.2.length) (((popE Ez kk ((ao27, c28, nl29) : HdI)) 0).2.1), .slice (((popE Ez kk ((ao27, c28, nl29) : HdI)) 1).1) (((popE Ez kk ((ao27, c28, nl29) : HdI)) 1).2.2.length) (((popE Ez kk ((ao27, c28, nl29) : HdI)) 1).2.1), .slice (((popE Ez kk ((ao27, c28, nl29) : HdI)) 2).1) (((popE Ez kk ((ao27, c28, nl29) : HdI)) 2).2.2.length) (((popE Ez kk ((ao27, c28, nl29) : HdI)) 2).2.1), .slice (((popE Ez kk ((ao27, c28, nl29) : HdI)) 3).1) (((popE Ez kk ((ao27, c28, nl29) : HdI)) 3).2.2.length) (((popE Ez kk ((ao27, c28, nl29) : HdI)) 3).2.1), .slice (((popE Ez kk ((ao27, c28, nl29) : HdI)) 4).1) (((popE Ez kk ((ao27, c28, nl29) : HdI)) 4).2.2.length) (((popE Ez kk ((ao27, c28, nl29) : HdI)) 4).2.1)], vi kk] 145 (law11_told b'2 F6 (bqM mx 100 44 kk) (popE Ez kk ((ao27, c28, nl29) : HdI)) kk ((Int.toNat x34) + 1) _ (hS.mem.res 0) (hS.mem.get 0 0 (.fn 0 64 dbT)) (by exact hS.mem.l5Get 1) (by first | exact hT9 | exact i1) (by omega)) fun ac wd hS => ?_
    refine hS.opsC 1 [0] [3, 4, 6, 32, 33, 34] fun _ => seg [(146, vb false)] [(0, none), (1, none), (2, none), (3, none)] [] trivial fun ac wd hS => ?_
    refine list_nil_seq ?_
    refine hS.condF ?_
    refine wp_skip ?_
    refine pop_block ?_
    refine pop_then ?_
    refine hS.regC [20, 0] [3, 4, 6, 32, 33] fun _ => seg [(34, vi (x34 + 1))] [(0, none), (1, none), (2, none), (3, none)] [.p (fit .i64 (x34 + 1))] ⟨fit_i64 (by omega), trivial⟩ fun ac wd hS => ?_
    exact pop_then (hS.next ((x34 + 1), F6, (bqM mx 100 44 kk), (popE Ez kk ((ao27, c28, nl29) : HdI))) ⟨(by first | omega | assumption | (simp; done) | (simp; omega)), (by first | exact hT9.more (by omega) | exact i1.more (by omega)), (by first | exact hC9 | exact i2), trivial⟩ (by dsimp only; omega))
   ·
    refine wp_region_seq ?_
    refine hS.opsC 2 [300, 0] [3, 4, 6, 8, 9, 32, 33, 34] fun _ => seg [(138, .agg #[.slice ((Ez 0).1) ((Ez 0).2.2.length) ((Ez 0).2.1), .slice ((Ez 1).1) ((Ez 1).2.2.length) ((Ez 1).2.1), .slice ((Ez 2).1) ((Ez 2).2.2.length) ((Ez 2).2.1), .slice ((Ez 3).1) ((Ez 3).2.2.length) ((Ez 3).2.1), .slice ((Ez 4).1) ((Ez 4).2.2.length) ((Ez 4).2.1)]), (139, vi kA)] [(0, none), (1, none), (2, none), (3, none), (4, none)] [.e (ν7 0), .e (ν7 0), .e (ν7 0), .e (ν7 0), .e (ν7 0)] trivial fun ac wd hS => ?_
    refine hS.call0 32 #[.agg #[.slice ((Ez 0).1) ((Ez 0).2.2.length) ((Ez 0).2.1), .slice ((Ez 1).1) ((Ez 1).2.2.length) ((Ez 1).2.1), .slice ((Ez 2).1) ((Ez 2).2.2.length) ((Ez 2).2.1), .slice ((Ez 3).1) ((Ez 3).2.2.length) ((Ez 3).2.1), .slice ((Ez 4).1) ((Ez 4).2.2.length) ((Ez 4).2.1)], vi kA] 140 (r11_Has Ez kA _ (hS.mem.get 0 0 (.fn 0 64 dbT)) (by exact hS.mem.l5Get 1) (by exact fun i hi => Nat.le_trans (i1.len i hi) (by omega))) fun ac wd hS => ?_
    refine hS.opsC 1 [0] [3, 4, 6, 8, 9, 32, 33, 34] fun _ => seg [(137, vb (anyB Ez kA))] [(0, none), (1, none), (2, none), (3, none), (4, none)] [] trivial fun ac wd hS => ?_
    refine list_nil_seq ?_
    refine hS.condC (anyB Ez kA) (fun hb12o hb12 => ?_) (fun hb12o hb12 => ?_)
    ·
     refine wp_exit ?_
     refine pop_block_miss rfl ?_
     refine pop_then_exit ?_
     refine pop_block_hit ?_
     refine pop_then ?_
     refine hS.regC [20, 0] [3, 4, 6, 32, 33] fun _ => seg [(34, vi (x34 + 1))] [(0, none), (1, none), (2, none), (3, none)] [.p (fit .i64 (x34 + 1))] ⟨fit_i64 (by omega), trivial⟩ fun ac wd hS => ?_
     exact pop_then (hS.next ((x34 + 1), Fx, mx, Ez) ⟨(by first | omega | assumption | (simp; done) | (simp; omega)), (by first | exact hT9.more (by omega) | exact i1.more (by omega)), (by first | exact hC9 | exact i2), trivial⟩ (by dsimp only; omega))
    ·
     have hn9 : anyB Ez kA = false := by simpa using hb12o
     refine wp_seq ?_
     refine hS.regS [0, 400, 20, 0] [3, 4, 6, 8, 9, 32, 33, 34] fun _ => seg [(47, vb (decide (((kd % 4) : Int) < 2)))] [(0, none), (1, none), (2, none), (3, none), (4, none)] [.p ((4 : Int) ≠ 0 ∧ Int.tmod kd 4 = kd % 4), .e (ν10 0)] ⟨rem2 (by omega) (by omega), trivial⟩ fun ac wd hS => ?_
     refine hS.condC (decide (((kd % 4) : Int) < 2)) (fun hb13o hb13 => ?_) (fun hb13o hb13 => ?_)
     ·
      refine wp_region_lit ?_
      refine hS.opsC 9 [0, 0, 0, 400, 0, 400, 20, 20, 0] [3, 4, 6, 8, 9, 32, 33, 34] fun _ => seg [(48, pt b'2 0), (56, .agg #[vi kA, vi kk, vu (kw % 3), vi 0])] [(0, none), (1, none), (2, none), (3, none), (4, none)] [.p (fit .u64 (kw % 3)), .p ((3 : Int) ≠ 0 ∧ Int.tmod kw 3 = kw % 3), .e (ν10 0), .e (ν10 0)] ⟨fit_u64 (by omega), rem2 (by omega) (by omega), trivial⟩ fun ac wd hS => ?_
      refine hS.callC 33 #[pt b'2 0, .agg #[vi kA, vi kk, vu (kw % 3), vi 0]] (chunk_Write b'2 Fx mx kA kk (kw % 3) 0 _ (hS.mem.res 0) (by first | assumption | omega | (simp_all; done) | (simp_all; omega))) ?_
      rintro _ wd ⟨F14, rfl, hA, hF⟩
      refine ⟨vi (wrcE mx kA kk (kw % 3) 0), rfl, ?_⟩
      replace hS := (hS.to (hS.mem.stepA 0 rfl hA hF)).put (d := 57) (v := vi (wrcE mx kA kk (kw % 3) 0)) (by decide)
      clear hF
      refine list_nil ?_
      refine pop_then ?_
      obtain ⟨mz, mz_e⟩ : ∃ q_ : AM, q_ = (wrcM mx kA kk (kw % 3) 0) := ⟨_, rfl⟩
      replace hS := hS.to (hS.mem.arTell (b := b'2) (F := F14) (m := (wrcM mx kA kk (kw % 3) 0)) (m' := mz) 0 mz_e.symm)
      have hz1 : BSQ mz Ez (Int.toNat x34) := by rw [mz_e]; first | exact i1 | exact i1.wr hkA hn9
      clear mz_e
      refine wp_region_seq ?_
      refine hS.opsC 2 [0, 0] [3, 4, 6, 8, 9, 32, 33, 34] fun _ => seg [(59, pt b'2 0), (60, vi kA)] [(0, none), (1, none), (2, none), (3, none), (4, none)] [] trivial fun ac wd hS => ?_
      refine hS.call0 34 #[pt b'2 0, vi kA] 61 (chunk_Read b'2 F14 mz kA _ (hS.mem.res 0) ) fun ac wd hS => ?_
      refine hS.opsC 6 [0, 0, 0, 0, 500, 0] [3, 4, 6, 8, 9, 32, 33, 34] fun ν28 => seg [(15, pt (ν28 0) 0), (16, vi (rdE mz kA))] [(0, none), (1, none), (2, none), (3, none), (4, none), (5, some ((ν28 0), .cells [vi (rdAt mz kA), vi (rdOrd mz kA), vu (rdOwn mz kA), vi (rdNx mz kA)] 76))] [.e (ν28 0), .e (ν28 0), .e (ν28 0), .e (ν28 0)] trivial fun ac wd hS => ?_
      refine list_nil_seq ?_
      refine wp_region_seq ?_
      refine hS.opsC 2 [200, 0] [3, 4, 6, 8, 9, 15, 16, 32, 33, 34] fun _ => seg [(64, .agg #[pt b'2 0, vi 100, vi 44]), (65, vi kA)] [(0, none), (1, none), (2, none), (3, none), (4, none), (5, none)] [.e (ν5 0), .e (ν5 0), .e (ν5 0)] trivial fun ac wd hS => ?_
      refine hS.callC 35 #[.agg #[pt b'2 0, vi 100, vi 44], vi kA] (b_Push b'2 F14 mz 100 44 kA _ (hS.mem.res 0) (by first | assumption | omega | (simp_all; done) | (simp_all; omega))) ?_
      rintro _ wd ⟨F15, rfl, hA, hF⟩
      refine ⟨vi (bpE mz 100 44 kA), rfl, ?_⟩
      replace hS := (hS.to (hS.mem.stepA 0 rfl hA hF)).put (d := 66) (v := vi (bpE mz 100 44 kA)) (by decide)
      clear hF
      refine hS.opsC 1 [0] [3, 4, 6, 8, 9, 15, 16, 32, 33, 34] fun _ => seg [(17, vi (bpE mz 100 44 kA))] [(0, none), (1, none), (2, none), (3, none), (4, none), (5, none)] [] trivial fun ac wd hS => ?_
      refine list_nil_seq ?_
      refine wp_block ?_
      refine hS.regS [0, 0, 0] [3, 4, 6, 8, 9, 15, 16, 17, 32, 33, 34] fun _ => seg [(74, vb (((rdE mz kA) : Int) != 0))] [(0, none), (1, none), (2, none), (3, none), (4, none), (5, none)] [] trivial fun ac wd hS => ?_
      refine hS.condC (((rdE mz kA) : Int) != 0) (fun hb16o hb16 => ?_) (fun hb16o hb16 => ?_)
      ·
       have hpA := bp_2 (m := mz) (o := 100) (z := 44) (a := kA) (by decide) hb16
       refine hS.regS [0, 0, fx 0 (vb false)] [3, 4, 6, 8, 32, 33, 34] fun _ => seg [(79, vb false)] [(0, none), (1, none), (2, none), (3, none), (4, none)] [.p ((vb (((bpE mz 100 44 kA) : Int) != (rdE mz kA)) : Value) = vb false)] ⟨(congrArg Value.bool (by (rw [← hpA.1]; exact bne_self_eq_false _))), trivial⟩ fun ac wd hS => ?_
       refine hS.condF ?_
       refine wp_skip ?_
       refine pop_block ?_
       refine pop_block ?_
       refine pop_then ?_
       have hC9 := i2
       have hT9 : BSQ (bpM mz 100 44 kA) Ez ((Int.toNat x34) + 1) := by first | exact (hpB _ hN9).more (by omega) | exact hpu.2 _ hN9 | (rw [← hpA.2]; exact hz1.more (by omega))
       refine wp_region_seq ?_
       refine hS.opsC 4 [200, 300, 0, 400] [3, 4, 6, 32, 33, 34] fun _ => seg [(141, .agg #[pt b'2 0, vi 100, vi 44]), (142, .agg #[.slice ((Ez 0).1) ((Ez 0).2.2.length) ((Ez 0).2.1), .slice ((Ez 1).1) ((Ez 1).2.2.length) ((Ez 1).2.1), .slice ((Ez 2).1) ((Ez 2).2.2.length) ((Ez 2).2.1), .slice ((Ez 3).1) ((Ez 3).2.2.length) ((Ez 3).2.1), .slice ((Ez 4).1) ((Ez 4).2.2.length) ((Ez 4).2.1)]), (144, vi kk)] [(0, none), (1, none), (2, none), (3, none)] [.e (ν10 0), .e (ν7 0), .e (ν7 0), .e (ν7 0), .e (ν7 0), .e (ν7 0), .e (ν5 0), .e (ν5 0), .e (ν5 0)] trivial fun ac wd hS => ?_
       refine hS.call0 37 #[.agg #[pt b'2 0, vi 100, vi 44], .agg #[.slice ((Ez 0).1) ((Ez 0).2.2.length) ((Ez 0).2.1), .slice ((Ez 1).1) ((Ez 1).2.2.length) ((Ez 1).2.1), .slice ((Ez 2).1) ((Ez 2).2.2.length) ((Ez 2).2.1), .slice ((Ez 3).1) ((Ez 3).2.2.length) ((Ez 3).2.1), .slice ((Ez 4).1) ((Ez 4).2.2.length) ((Ez 4).2.1)], vi kk] 145 (law11_told b'2 F15 (bpM mz 100 44 kA) Ez kk ((Int.toNat x34) + 1) _ (hS.mem.res 0) (hS.mem.get 0 0 (.fn 0 64 dbT)) (by exact hS.mem.l5Get 1) (by first | exact hT9 | exact i1) (by omega)) fun ac wd hS => ?_
       refine hS.opsC 1 [0] [3, 4, 6, 32, 33, 34] fun _ => seg [(146, vb false)] [(0, none), (1, none), (2, none), (3, none)] [] trivial fun ac wd hS => ?_
       refine list_nil_seq ?_
       refine hS.condF ?_
       refine wp_skip ?_
       refine pop_block ?_
       refine pop_then ?_
       refine hS.regC [20, 0] [3, 4, 6, 32, 33] fun _ => seg [(34, vi (x34 + 1))] [(0, none), (1, none), (2, none), (3, none)] [.p (fit .i64 (x34 + 1))] ⟨fit_i64 (by omega), trivial⟩ fun ac wd hS => ?_
       exact pop_then (hS.next ((x34 + 1), F15, (bpM mz 100 44 kA), Ez) ⟨(by first | omega | assumption | (simp; done) | (simp; omega)), (by first | exact hT9.more (by omega) | exact i1.more (by omega)), (by first | exact hC9 | exact i2), trivial⟩ (by dsimp only; omega))
      ·
       have hz2 := hb16
       have hz2e : rdE mz kA = 0 := by omega
       refine hS.regS [0, 500, 0, 0] [3, 4, 6, 8, 9, 15, 17, 32, 33, 34] fun _ => seg [(80, vb (decide ((4 : Int) < (rdOrd mz kA))))] [(0, none), (1, none), (2, none), (3, none), (4, none), (5, none)] [.e (ν28 0)] trivial fun ac wd hS => ?_
       refine hS.condC (decide ((4 : Int) < (rdOrd mz kA))) (fun hb17o hb17 => ?_) (fun hb17o hb17 => ?_)
       ·
        have hpA := bp_3 (m := mz) (o := 100) (z := 44) (a := kA) (by decide) (by rw [hz2e]; decide) hb17
        refine hS.regS [0, fx 0 (vb false)] [3, 4, 6, 8, 32, 33, 34] fun _ => seg [(85, vb false)] [(0, none), (1, none), (2, none), (3, none), (4, none)] [.p ((vb (((bpE mz 100 44 kA) : Int) != 2) : Value) = vb false)] ⟨(congrArg Value.bool (by (rw [← hpA.1]; rfl))), trivial⟩ fun ac wd hS => ?_
        refine hS.condF ?_
        refine wp_skip ?_
        refine pop_block ?_
        refine pop_block ?_
        refine pop_then ?_
        have hC9 := i2
        have hT9 : BSQ (bpM mz 100 44 kA) Ez ((Int.toNat x34) + 1) := by first | exact (hpB _ hN9).more (by omega) | exact hpu.2 _ hN9 | (rw [← hpA.2]; exact hz1.more (by omega))
        refine wp_region_seq ?_
        refine hS.opsC 4 [200, 300, 0, 400] [3, 4, 6, 32, 33, 34] fun _ => seg [(141, .agg #[pt b'2 0, vi 100, vi 44]), (142, .agg #[.slice ((Ez 0).1) ((Ez 0).2.2.length) ((Ez 0).2.1), .slice ((Ez 1).1) ((Ez 1).2.2.length) ((Ez 1).2.1), .slice ((Ez 2).1) ((Ez 2).2.2.length) ((Ez 2).2.1), .slice ((Ez 3).1) ((Ez 3).2.2.length) ((Ez 3).2.1), .slice ((Ez 4).1) ((Ez 4).2.2.length) ((Ez 4).2.1)]), (144, vi kk)] [(0, none), (1, none), (2, none), (3, none)] [.e (ν10 0), .e (ν7 0), .e (ν7 0), .e (ν7 0), .e (ν7 0), .e (ν7 0), .e (ν5 0), .e (ν5 0), .e (ν5 0)] trivial fun ac wd hS => ?_
        refine hS.call0 37 #[.agg #[pt b'2 0, vi 100, vi 44], .agg #[.slice ((Ez 0).1) ((Ez 0).2.2.length) ((Ez 0).2.1), .slice ((Ez 1).1) ((Ez 1).2.2.length) ((Ez 1).2.1), .slice ((Ez 2).1) ((Ez 2).2.2.length) ((Ez 2).2.1), .slice ((Ez 3).1) ((Ez 3).2.2.length) ((Ez 3).2.1), .slice ((Ez 4).1) ((Ez 4).2.2.length) ((Ez 4).2.1)], vi kk] 145 (law11_told b'2 F15 (bpM mz 100 44 kA) Ez kk ((Int.toNat x34) + 1) _ (hS.mem.res 0) (hS.mem.get 0 0 (.fn 0 64 dbT)) (by exact hS.mem.l5Get 1) (by first | exact hT9 | exact i1) (by omega)) fun ac wd hS => ?_
        refine hS.opsC 1 [0] [3, 4, 6, 32, 33, 34] fun _ => seg [(146, vb false)] [(0, none), (1, none), (2, none), (3, none)] [] trivial fun ac wd hS => ?_
        refine list_nil_seq ?_
        refine hS.condF ?_
        refine wp_skip ?_
        refine pop_block ?_
        refine pop_then ?_
        refine hS.regC [20, 0] [3, 4, 6, 32, 33] fun _ => seg [(34, vi (x34 + 1))] [(0, none), (1, none), (2, none), (3, none)] [.p (fit .i64 (x34 + 1))] ⟨fit_i64 (by omega), trivial⟩ fun ac wd hS => ?_
        exact pop_then (hS.next ((x34 + 1), F15, (bpM mz 100 44 kA), Ez) ⟨(by first | omega | assumption | (simp; done) | (simp; omega)), (by first | exact hT9.more (by omega) | exact i1.more (by omega)), (by first | exact hC9 | exact i2), trivial⟩ (by dsimp only; omega))
       ·
        have hz3 := hb17
        have hor := rdOrd_rng mz kA
        refine hS.regS [0, 500, 0, 0] [3, 4, 6, 8, 9, 15, 17, 32, 33, 34] fun _ => seg [(86, vb (((rdOwn mz kA) : Int) != 0))] [(0, none), (1, none), (2, none), (3, none), (4, none), (5, none)] [.e (ν28 0)] trivial fun ac wd hS => ?_
        refine hS.condC (((rdOwn mz kA) : Int) != 0) (fun hb18o hb18 => ?_) (fun hb18o hb18 => ?_)
        ·
         have hpA := bp_4 (m := mz) (o := 100) (z := 44) (a := kA) (by decide) (by rw [hz2e]; decide) (by omega) hb18
         refine hS.regS [0, fx 0 (vb false)] [3, 4, 6, 8, 32, 33, 34] fun _ => seg [(91, vb false)] [(0, none), (1, none), (2, none), (3, none), (4, none)] [.p ((vb (((bpE mz 100 44 kA) : Int) != 11) : Value) = vb false)] ⟨(congrArg Value.bool (by (rw [← hpA.1]; rfl))), trivial⟩ fun ac wd hS => ?_
         refine hS.condF ?_
         refine wp_skip ?_
         refine pop_block ?_
         refine pop_block ?_
         refine pop_then ?_
         have hC9 := i2
         have hT9 : BSQ (bpM mz 100 44 kA) Ez ((Int.toNat x34) + 1) := by first | exact (hpB _ hN9).more (by omega) | exact hpu.2 _ hN9 | (rw [← hpA.2]; exact hz1.more (by omega))
         refine wp_region_seq ?_
         refine hS.opsC 4 [200, 300, 0, 400] [3, 4, 6, 32, 33, 34] fun _ => seg [(141, .agg #[pt b'2 0, vi 100, vi 44]), (142, .agg #[.slice ((Ez 0).1) ((Ez 0).2.2.length) ((Ez 0).2.1), .slice ((Ez 1).1) ((Ez 1).2.2.length) ((Ez 1).2.1), .slice ((Ez 2).1) ((Ez 2).2.2.length) ((Ez 2).2.1), .slice ((Ez 3).1) ((Ez 3).2.2.length) ((Ez 3).2.1), .slice ((Ez 4).1) ((Ez 4).2.2.length) ((Ez 4).2.1)]), (144, vi kk)] [(0, none), (1, none), (2, none), (3, none)] [.e (ν10 0), .e (ν7 0), .e (ν7 0), .e (ν7 0), .e (ν7 0), .e (ν7 0), .e (ν5 0), .e (ν5 0), .e (ν5 0)] trivial fun ac wd hS => ?_
         refine hS.call0 37 #[.agg #[pt b'2 0, vi 100, vi 44], .agg #[.slice ((Ez 0).1) ((Ez 0).2.2.length) ((Ez 0).2.1), .slice ((Ez 1).1) ((Ez 1).2.2.length) ((Ez 1).2.1), .slice ((Ez 2).1) ((Ez 2).2.2.length) ((Ez 2).2.1), .slice ((Ez 3).1) ((Ez 3).2.2.length) ((Ez 3).2.1), .slice ((Ez 4).1) ((Ez 4).2.2.length) ((Ez 4).2.1)], vi kk] 145 (law11_told b'2 F15 (bpM mz 100 44 kA) Ez kk ((Int.toNat x34) + 1) _ (hS.mem.res 0) (hS.mem.get 0 0 (.fn 0 64 dbT)) (by exact hS.mem.l5Get 1) (by first | exact hT9 | exact i1) (by omega)) fun ac wd hS => ?_
         refine hS.opsC 1 [0] [3, 4, 6, 32, 33, 34] fun _ => seg [(146, vb false)] [(0, none), (1, none), (2, none), (3, none)] [] trivial fun ac wd hS => ?_
         refine list_nil_seq ?_
         refine hS.condF ?_
         refine wp_skip ?_
         refine pop_block ?_
         refine pop_then ?_
         refine hS.regC [20, 0] [3, 4, 6, 32, 33] fun _ => seg [(34, vi (x34 + 1))] [(0, none), (1, none), (2, none), (3, none)] [.p (fit .i64 (x34 + 1))] ⟨fit_i64 (by omega), trivial⟩ fun ac wd hS => ?_
         exact pop_then (hS.next ((x34 + 1), F15, (bpM mz 100 44 kA), Ez) ⟨(by first | omega | assumption | (simp; done) | (simp; omega)), (by first | exact hT9.more (by omega) | exact i1.more (by omega)), (by first | exact hC9 | exact i2), trivial⟩ (by dsimp only; omega))
        ·
         have hz4 : rdOwn mz kA = 0 := by omega
         have hpu := hz1.push hkj hkA hn9 hz2e (by omega) hz4
         refine wp_seq ?_
         refine hS.regS [0, fx 0 (vb false)] [3, 4, 6, 8, 9, 15, 32, 33, 34] fun _ => seg [(68, vb false)] [(0, none), (1, none), (2, none), (3, none), (4, none), (5, none)] [.p ((vb (((bpE mz 100 44 kA) : Int) != 0) : Value) = vb false)] ⟨(congrArg Value.bool (by (rw [hpu.1]; rfl))), trivial⟩ fun ac wd hS => ?_
         refine hS.condF ?_
         refine wp_skip ?_
         refine pop_then ?_
         refine wp_region_lit ?_
         refine hS.opsC 4 [300, 0, 500, 0] [3, 4, 6, 8, 32, 33, 34] fun _ => seg [(69, .agg #[.slice ((Ez 0).1) ((Ez 0).2.2.length) ((Ez 0).2.1), .slice ((Ez 1).1) ((Ez 1).2.2.length) ((Ez 1).2.1), .slice ((Ez 2).1) ((Ez 2).2.2.length) ((Ez 2).2.1), .slice ((Ez 3).1) ((Ez 3).2.2.length) ((Ez 3).2.1), .slice ((Ez 4).1) ((Ez 4).2.2.length) ((Ez 4).2.1)]), (71, vi (rdOrd mz kA)), (72, vi kA)] [(0, none), (1, none), (2, none), (3, none), (4, none)] [.e (ν28 0), .e (ν7 0), .e (ν7 0), .e (ν7 0), .e (ν7 0), .e (ν7 0)] trivial fun ac wd hS => ?_
         refine hS.callC 36 #[.agg #[.slice ((Ez 0).1) ((Ez 0).2.2.length) ((Ez 0).2.1), .slice ((Ez 1).1) ((Ez 1).2.2.length) ((Ez 1).2.1), .slice ((Ez 2).1) ((Ez 2).2.2.length) ((Ez 2).2.1), .slice ((Ez 3).1) ((Ez 3).2.2.length) ((Ez 3).2.1), .slice ((Ez 4).1) ((Ez 4).2.2.length) ((Ez 4).2.1)], vi (rdOrd mz kA), vi kA] (r11_Push Ez (rdOrd mz kA) kA _ (hS.mem.get 0 0 (.fn 0 64 dbT)) (by exact hS.mem.l5Get 1) (by exact fun i hi => Nat.le_trans (i1.len i hi) (by omega)) (by omega)) ?_
         rintro _ wd ⟨ao219, c220, nl221, F22, rfl, hN223, hN, hF⟩
         refine ⟨.agg #[.slice (((updF Ez (Int.toNat (rdOrd mz kA)) ((ao219, c220, nl221) : HdI)) 0).1) (((updF Ez (Int.toNat (rdOrd mz kA)) ((ao219, c220, nl221) : HdI)) 0).2.2.length) (((updF Ez (Int.toNat (rdOrd mz kA)) ((ao219, c220, nl221) : HdI)) 0).2.1), .slice (((updF Ez (Int.toNat (rdOrd mz kA)) ((ao219, c220, nl221) : HdI)) 1).1) (((updF Ez (Int.toNat (rdOrd mz kA)) ((ao219, c220, nl221) : HdI)) 1).2.2.length) (((updF Ez (Int.toNat (rdOrd mz kA)) ((ao219, c220, nl221) : HdI)) 1).2.1), .slice (((updF Ez (Int.toNat (rdOrd mz kA)) ((ao219, c220, nl221) : HdI)) 2).1) (((updF Ez (Int.toNat (rdOrd mz kA)) ((ao219, c220, nl221) : HdI)) 2).2.2.length) (((updF Ez (Int.toNat (rdOrd mz kA)) ((ao219, c220, nl221) : HdI)) 2).2.1), .slice (((updF Ez (Int.toNat (rdOrd mz kA)) ((ao219, c220, nl221) : HdI)) 3).1) (((updF Ez (Int.toNat (rdOrd mz kA)) ((ao219, c220, nl221) : HdI)) 3).2.2.length) (((updF Ez (Int.toNat (rdOrd mz kA)) ((ao219, c220, nl221) : HdI)) 3).2.1), .slice (((updF Ez (Int.toNat (rdOrd mz kA)) ((ao219, c220, nl221) : HdI)) 4).1) (((updF Ez (Int.toNat (rdOrd mz kA)) ((ao219, c220, nl221) : HdI)) 4).2.2.length) (((updF Ez (Int.toNat (rdOrd mz kA)) ((ao219, c220, nl221) : HdI)) 4).2.1)], rfl, ?_⟩
         replace hS := (hS.to (hS.mem.newA hN hF)).put (d := 73) (v := .agg #[.slice (((updF Ez (Int.toNat (rdOrd mz kA)) ((ao219, c220, nl221) : HdI)) 0).1) (((updF Ez (Int.toNat (rdOrd mz kA)) ((ao219, c220, nl221) : HdI)) 0).2.2.length) (((updF Ez (Int.toNat (rdOrd mz kA)) ((ao219, c220, nl221) : HdI)) 0).2.1), .slice (((updF Ez (Int.toNat (rdOrd mz kA)) ((ao219, c220, nl221) : HdI)) 1).1) (((updF Ez (Int.toNat (rdOrd mz kA)) ((ao219, c220, nl221) : HdI)) 1).2.2.length) (((updF Ez (Int.toNat (rdOrd mz kA)) ((ao219, c220, nl221) : HdI)) 1).2.1), .slice (((updF Ez (Int.toNat (rdOrd mz kA)) ((ao219, c220, nl221) : HdI)) 2).1) (((updF Ez (Int.toNat (rdOrd mz kA)) ((ao219, c220, nl221) : HdI)) 2).2.2.length) (((updF Ez (Int.toNat (rdOrd mz kA)) ((ao219, c220, nl221) : HdI)) 2).2.1), .slice (((updF Ez (Int.toNat (rdOrd mz kA)) ((ao219, c220, nl221) : HdI)) 3).1) (((updF Ez (Int.toNat (rdOrd mz kA)) ((ao219, c220, nl221) : HdI)) 3).2.2.length) (((updF Ez (Int.toNat (rdOrd mz kA)) ((ao219, c220, nl221) : HdI)) 3).2.1), .slice (((updF Ez (Int.toNat (rdOrd mz kA)) ((ao219, c220, nl221) : HdI)) 4).1) (((updF Ez (Int.toNat (rdOrd mz kA)) ((ao219, c220, nl221) : HdI)) 4).2.2.length) (((updF Ez (Int.toNat (rdOrd mz kA)) ((ao219, c220, nl221) : HdI)) 4).2.1)]) (by decide)
         clear hF
         have hN9 := hN223
         refine hS.opsC 1 [300] [3, 4, 6, 8, 32, 33, 34] fun _ => seg [] [(0, none), (1, none), (2, none), (3, some ((ν7 0), .cells [.slice (((updF Ez (Int.toNat (rdOrd mz kA)) ((ao219, c220, nl221) : HdI)) 0).1) (((updF Ez (Int.toNat (rdOrd mz kA)) ((ao219, c220, nl221) : HdI)) 0).2.2.length) (((updF Ez (Int.toNat (rdOrd mz kA)) ((ao219, c220, nl221) : HdI)) 0).2.1), .slice (((updF Ez (Int.toNat (rdOrd mz kA)) ((ao219, c220, nl221) : HdI)) 1).1) (((updF Ez (Int.toNat (rdOrd mz kA)) ((ao219, c220, nl221) : HdI)) 1).2.2.length) (((updF Ez (Int.toNat (rdOrd mz kA)) ((ao219, c220, nl221) : HdI)) 1).2.1), .slice (((updF Ez (Int.toNat (rdOrd mz kA)) ((ao219, c220, nl221) : HdI)) 2).1) (((updF Ez (Int.toNat (rdOrd mz kA)) ((ao219, c220, nl221) : HdI)) 2).2.2.length) (((updF Ez (Int.toNat (rdOrd mz kA)) ((ao219, c220, nl221) : HdI)) 2).2.1), .slice (((updF Ez (Int.toNat (rdOrd mz kA)) ((ao219, c220, nl221) : HdI)) 3).1) (((updF Ez (Int.toNat (rdOrd mz kA)) ((ao219, c220, nl221) : HdI)) 3).2.2.length) (((updF Ez (Int.toNat (rdOrd mz kA)) ((ao219, c220, nl221) : HdI)) 3).2.1), .slice (((updF Ez (Int.toNat (rdOrd mz kA)) ((ao219, c220, nl221) : HdI)) 4).1) (((updF Ez (Int.toNat (rdOrd mz kA)) ((ao219, c220, nl221) : HdI)) 4).2.2.length) (((updF Ez (Int.toNat (rdOrd mz kA)) ((ao219, c220, nl221) : HdI)) 4).2.1)] 72)), (4, none)] [.e (ν7 0), .e (ν7 0), .e (ν7 0), .e (ν7 0), .e (ν7 0)] trivial fun ac wd hS => ?_
         refine list_nil ?_
         refine pop_block ?_
         refine pop_block ?_
         refine pop_then ?_
         have hcp9 := WS.grCap hS.mem 2
         have hC9 : ∀ i, i < 5 → ((updF Ez (Int.toNat (rdOrd mz kA)) ((ao219, c220, nl221) : HdI)) i).2.2.length ≤ ((updF Ez (Int.toNat (rdOrd mz kA)) ((ao219, c220, nl221) : HdI)) i).2.1 := by first | exact popE_cap i2 hcp9 | exact updF_cap i2 hcp9
         replace hS := hS.to (WS.l5Turn (ao := ao219) (cp := c220) (nl := nl221) (E2 := (updF Ez (Int.toNat (rdOrd mz kA)) ((ao219, c220, nl221) : HdI))) hS.mem (fun i_ _ => by first | exact popE_or _ _ _ _ | exact updF_or _ _ _ _) no)
         have hT9 : BSQ (bpM mz 100 44 kA) (updF Ez (Int.toNat (rdOrd mz kA)) ((ao219, c220, nl221) : HdI)) ((Int.toNat x34) + 1) := by first | exact (hpB _ hN9).more (by omega) | exact hpu.2 _ hN9 | (rw [← hpA.2]; exact hz1.more (by omega))
         refine wp_region_seq ?_
         refine hS.opsC 4 [200, 300, 0, 400] [3, 4, 6, 32, 33, 34] fun _ => seg [(141, .agg #[pt b'2 0, vi 100, vi 44]), (142, .agg #[.slice (((updF Ez (Int.toNat (rdOrd mz kA)) ((ao219, c220, nl221) : HdI)) 0).1) (((updF Ez (Int.toNat (rdOrd mz kA)) ((ao219, c220, nl221) : HdI)) 0).2.2.length) (((updF Ez (Int.toNat (rdOrd mz kA)) ((ao219, c220, nl221) : HdI)) 0).2.1), .slice (((updF Ez (Int.toNat (rdOrd mz kA)) ((ao219, c220, nl221) : HdI)) 1).1) (((updF Ez (Int.toNat (rdOrd mz kA)) ((ao219, c220, nl221) : HdI)) 1).2.2.length) (((updF Ez (Int.toNat (rdOrd mz kA)) ((ao219, c220, nl221) : HdI)) 1).2.1), .slice (((updF Ez (Int.toNat (rdOrd mz kA)) ((ao219, c220, nl221) : HdI)) 2).1) (((updF Ez (Int.toNat (rdOrd mz kA)) ((ao219, c220, nl221) : HdI)) 2).2.2.length) (((updF Ez (Int.toNat (rdOrd mz kA)) ((ao219, c220, nl221) : HdI)) 2).2.1), .slice (((updF Ez (Int.toNat (rdOrd mz kA)) ((ao219, c220, nl221) : HdI)) 3).1) (((updF Ez (Int.toNat (rdOrd mz kA)) ((ao219, c220, nl221) : HdI)) 3).2.2.length) (((updF Ez (Int.toNat (rdOrd mz kA)) ((ao219, c220, nl221) : HdI)) 3).2.1), .slice (((updF Ez (Int.toNat (rdOrd mz kA)) ((ao219, c220, nl221) : HdI)) 4).1) (((updF Ez (Int.toNat (rdOrd mz kA)) ((ao219, c220, nl221) : HdI)) 4).2.2.length) (((updF Ez (Int.toNat (rdOrd mz kA)) ((ao219, c220, nl221) : HdI)) 4).2.1)]), (144, vi kk)] [(0, none), (1, none), (2, none), (3, none)] [.e (ν10 0), .e (ν7 0), .e (ν7 0), .e (ν7 0), .e (ν7 0), .e (ν7 0), .e (ν5 0), .e (ν5 0), .e (ν5 0)] trivial fun ac wd hS => ?_
         refine hS.call0 37 #[.agg #[pt b'2 0, vi 100, vi 44], .agg #[.slice (((updF Ez (Int.toNat (rdOrd mz kA)) ((ao219, c220, nl221) : HdI)) 0).1) (((updF Ez (Int.toNat (rdOrd mz kA)) ((ao219, c220, nl221) : HdI)) 0).2.2.length) (((updF Ez (Int.toNat (rdOrd mz kA)) ((ao219, c220, nl221) : HdI)) 0).2.1), .slice (((updF Ez (Int.toNat (rdOrd mz kA)) ((ao219, c220, nl221) : HdI)) 1).1) (((updF Ez (Int.toNat (rdOrd mz kA)) ((ao219, c220, nl221) : HdI)) 1).2.2.length) (((updF Ez (Int.toNat (rdOrd mz kA)) ((ao219, c220, nl221) : HdI)) 1).2.1), .slice (((updF Ez (Int.toNat (rdOrd mz kA)) ((ao219, c220, nl221) : HdI)) 2).1) (((updF Ez (Int.toNat (rdOrd mz kA)) ((ao219, c220, nl221) : HdI)) 2).2.2.length) (((updF Ez (Int.toNat (rdOrd mz kA)) ((ao219, c220, nl221) : HdI)) 2).2.1), .slice (((updF Ez (Int.toNat (rdOrd mz kA)) ((ao219, c220, nl221) : HdI)) 3).1) (((updF Ez (Int.toNat (rdOrd mz kA)) ((ao219, c220, nl221) : HdI)) 3).2.2.length) (((updF Ez (Int.toNat (rdOrd mz kA)) ((ao219, c220, nl221) : HdI)) 3).2.1), .slice (((updF Ez (Int.toNat (rdOrd mz kA)) ((ao219, c220, nl221) : HdI)) 4).1) (((updF Ez (Int.toNat (rdOrd mz kA)) ((ao219, c220, nl221) : HdI)) 4).2.2.length) (((updF Ez (Int.toNat (rdOrd mz kA)) ((ao219, c220, nl221) : HdI)) 4).2.1)], vi kk] 145 (law11_told b'2 F15 (bpM mz 100 44 kA) (updF Ez (Int.toNat (rdOrd mz kA)) ((ao219, c220, nl221) : HdI)) kk ((Int.toNat x34) + 1) _ (hS.mem.res 0) (hS.mem.get 0 0 (.fn 0 64 dbT)) (by exact hS.mem.l5Get 1) (by first | exact hT9 | exact i1) (by omega)) fun ac wd hS => ?_
         refine hS.opsC 1 [0] [3, 4, 6, 32, 33, 34] fun _ => seg [(146, vb false)] [(0, none), (1, none), (2, none), (3, none)] [] trivial fun ac wd hS => ?_
         refine list_nil_seq ?_
         refine hS.condF ?_
         refine wp_skip ?_
         refine pop_block ?_
         refine pop_then ?_
         refine hS.regC [20, 0] [3, 4, 6, 32, 33] fun _ => seg [(34, vi (x34 + 1))] [(0, none), (1, none), (2, none), (3, none)] [.p (fit .i64 (x34 + 1))] ⟨fit_i64 (by omega), trivial⟩ fun ac wd hS => ?_
         exact pop_then (hS.next ((x34 + 1), F15, (bpM mz 100 44 kA), (updF Ez (Int.toNat (rdOrd mz kA)) ((ao219, c220, nl221) : HdI))) ⟨(by first | omega | assumption | (simp; done) | (simp; omega)), (by first | exact hT9.more (by omega) | exact i1.more (by omega)), (by first | exact hC9 | exact i2), trivial⟩ (by dsimp only; omega))
     ·
      refine wp_skip ?_
      refine pop_then ?_
      obtain ⟨mz, mz_e⟩ : ∃ q_ : AM, q_ = mx := ⟨_, rfl⟩
      replace hS := hS.to (hS.mem.arTell (b := b'2) (F := Fx) (m := mx) (m' := mz) 0 mz_e.symm)
      have hz1 : BSQ mz Ez (Int.toNat x34) := by rw [mz_e]; first | exact i1 | exact i1.wr hkA hn9
      clear mz_e
      refine wp_region_seq ?_
      refine hS.opsC 2 [0, 0] [3, 4, 6, 8, 9, 32, 33, 34] fun _ => seg [(59, pt b'2 0), (60, vi kA)] [(0, none), (1, none), (2, none), (3, none), (4, none)] [] trivial fun ac wd hS => ?_
      refine hS.call0 34 #[pt b'2 0, vi kA] 61 (chunk_Read b'2 Fx mz kA _ (hS.mem.res 0) ) fun ac wd hS => ?_
      refine hS.opsC 6 [0, 0, 0, 0, 500, 0] [3, 4, 6, 8, 9, 32, 33, 34] fun ν53 => seg [(15, pt (ν53 0) 0), (16, vi (rdE mz kA))] [(0, none), (1, none), (2, none), (3, none), (4, none), (5, some ((ν53 0), .cells [vi (rdAt mz kA), vi (rdOrd mz kA), vu (rdOwn mz kA), vi (rdNx mz kA)] 76))] [.e (ν53 0), .e (ν53 0), .e (ν53 0), .e (ν53 0)] trivial fun ac wd hS => ?_
      refine list_nil_seq ?_
      refine wp_region_seq ?_
      refine hS.opsC 2 [200, 0] [3, 4, 6, 8, 9, 15, 16, 32, 33, 34] fun _ => seg [(64, .agg #[pt b'2 0, vi 100, vi 44]), (65, vi kA)] [(0, none), (1, none), (2, none), (3, none), (4, none), (5, none)] [.e (ν5 0), .e (ν5 0), .e (ν5 0)] trivial fun ac wd hS => ?_
      refine hS.callC 35 #[.agg #[pt b'2 0, vi 100, vi 44], vi kA] (b_Push b'2 Fx mz 100 44 kA _ (hS.mem.res 0) (by first | assumption | omega | (simp_all; done) | (simp_all; omega))) ?_
      rintro _ wd ⟨F24, rfl, hA, hF⟩
      refine ⟨vi (bpE mz 100 44 kA), rfl, ?_⟩
      replace hS := (hS.to (hS.mem.stepA 0 rfl hA hF)).put (d := 66) (v := vi (bpE mz 100 44 kA)) (by decide)
      clear hF
      refine hS.opsC 1 [0] [3, 4, 6, 8, 9, 15, 16, 32, 33, 34] fun _ => seg [(17, vi (bpE mz 100 44 kA))] [(0, none), (1, none), (2, none), (3, none), (4, none), (5, none)] [] trivial fun ac wd hS => ?_
      refine list_nil_seq ?_
      refine wp_block ?_
      refine hS.regS [0, 0, 0] [3, 4, 6, 8, 9, 15, 16, 17, 32, 33, 34] fun _ => seg [(74, vb (((rdE mz kA) : Int) != 0))] [(0, none), (1, none), (2, none), (3, none), (4, none), (5, none)] [] trivial fun ac wd hS => ?_
      refine hS.condC (((rdE mz kA) : Int) != 0) (fun hb25o hb25 => ?_) (fun hb25o hb25 => ?_)
      ·
       have hpA := bp_2 (m := mz) (o := 100) (z := 44) (a := kA) (by decide) hb25
       refine hS.regS [0, 0, fx 0 (vb false)] [3, 4, 6, 8, 32, 33, 34] fun _ => seg [(79, vb false)] [(0, none), (1, none), (2, none), (3, none), (4, none)] [.p ((vb (((bpE mz 100 44 kA) : Int) != (rdE mz kA)) : Value) = vb false)] ⟨(congrArg Value.bool (by (rw [← hpA.1]; exact bne_self_eq_false _))), trivial⟩ fun ac wd hS => ?_
       refine hS.condF ?_
       refine wp_skip ?_
       refine pop_block ?_
       refine pop_block ?_
       refine pop_then ?_
       have hC9 := i2
       have hT9 : BSQ (bpM mz 100 44 kA) Ez ((Int.toNat x34) + 1) := by first | exact (hpB _ hN9).more (by omega) | exact hpu.2 _ hN9 | (rw [← hpA.2]; exact hz1.more (by omega))
       refine wp_region_seq ?_
       refine hS.opsC 4 [200, 300, 0, 400] [3, 4, 6, 32, 33, 34] fun _ => seg [(141, .agg #[pt b'2 0, vi 100, vi 44]), (142, .agg #[.slice ((Ez 0).1) ((Ez 0).2.2.length) ((Ez 0).2.1), .slice ((Ez 1).1) ((Ez 1).2.2.length) ((Ez 1).2.1), .slice ((Ez 2).1) ((Ez 2).2.2.length) ((Ez 2).2.1), .slice ((Ez 3).1) ((Ez 3).2.2.length) ((Ez 3).2.1), .slice ((Ez 4).1) ((Ez 4).2.2.length) ((Ez 4).2.1)]), (144, vi kk)] [(0, none), (1, none), (2, none), (3, none)] [.e (ν10 0), .e (ν7 0), .e (ν7 0), .e (ν7 0), .e (ν7 0), .e (ν7 0), .e (ν5 0), .e (ν5 0), .e (ν5 0)] trivial fun ac wd hS => ?_
       refine hS.call0 37 #[.agg #[pt b'2 0, vi 100, vi 44], .agg #[.slice ((Ez 0).1) ((Ez 0).2.2.length) ((Ez 0).2.1), .slice ((Ez 1).1) ((Ez 1).2.2.length) ((Ez 1).2.1), .slice ((Ez 2).1) ((Ez 2).2.2.length) ((Ez 2).2.1), .slice ((Ez 3).1) ((Ez 3).2.2.length) ((Ez 3).2.1), .slice ((Ez 4).1) ((Ez 4).2.2.length) ((Ez 4).2.1)], vi kk] 145 (law11_told b'2 F24 (bpM mz 100 44 kA) Ez kk ((Int.toNat x34) + 1) _ (hS.mem.res 0) (hS.mem.get 0 0 (.fn 0 64 dbT)) (by exact hS.mem.l5Get 1) (by first | exact hT9 | exact i1) (by omega)) fun ac wd hS => ?_
       refine hS.opsC 1 [0] [3, 4, 6, 32, 33, 34] fun _ => seg [(146, vb false)] [(0, none), (1, none), (2, none), (3, none)] [] trivial fun ac wd hS => ?_
       refine list_nil_seq ?_
       refine hS.condF ?_
       refine wp_skip ?_
       refine pop_block ?_
       refine pop_then ?_
       refine hS.regC [20, 0] [3, 4, 6, 32, 33] fun _ => seg [(34, vi (x34 + 1))] [(0, none), (1, none), (2, none), (3, none)] [.p (fit .i64 (x34 + 1))] ⟨fit_i64 (by omega), trivial⟩ fun ac wd hS => ?_
       exact pop_then (hS.next ((x34 + 1), F24, (bpM mz 100 44 kA), Ez) ⟨(by first | omega | assumption | (simp; done) | (simp; omega)), (by first | exact hT9.more (by omega) | exact i1.more (by omega)), (by first | exact hC9 | exact i2), trivial⟩ (by dsimp only; omega))
      ·
       have hz2 := hb25
       have hz2e : rdE mz kA = 0 := by omega
       refine hS.regS [0, 500, 0, 0] [3, 4, 6, 8, 9, 15, 17, 32, 33, 34] fun _ => seg [(80, vb (decide ((4 : Int) < (rdOrd mz kA))))] [(0, none), (1, none), (2, none), (3, none), (4, none), (5, none)] [.e (ν53 0)] trivial fun ac wd hS => ?_
       refine hS.condC (decide ((4 : Int) < (rdOrd mz kA))) (fun hb26o hb26 => ?_) (fun hb26o hb26 => ?_)
       ·
        have hpA := bp_3 (m := mz) (o := 100) (z := 44) (a := kA) (by decide) (by rw [hz2e]; decide) hb26
        refine hS.regS [0, fx 0 (vb false)] [3, 4, 6, 8, 32, 33, 34] fun _ => seg [(85, vb false)] [(0, none), (1, none), (2, none), (3, none), (4, none)] [.p ((vb (((bpE mz 100 44 kA) : Int) != 2) : Value) = vb false)] ⟨(congrArg Value.bool (by (rw [← hpA.1]; rfl))), trivial⟩ fun ac wd hS => ?_
        refine hS.condF ?_
        refine wp_skip ?_
        refine pop_block ?_
        refine pop_block ?_
        refine pop_then ?_
        have hC9 := i2
        have hT9 : BSQ (bpM mz 100 44 kA) Ez ((Int.toNat x34) + 1) := by first | exact (hpB _ hN9).more (by omega) | exact hpu.2 _ hN9 | (rw [← hpA.2]; exact hz1.more (by omega))
        refine wp_region_seq ?_
        refine hS.opsC 4 [200, 300, 0, 400] [3, 4, 6, 32, 33, 34] fun _ => seg [(141, .agg #[pt b'2 0, vi 100, vi 44]), (142, .agg #[.slice ((Ez 0).1) ((Ez 0).2.2.length) ((Ez 0).2.1), .slice ((Ez 1).1) ((Ez 1).2.2.length) ((Ez 1).2.1), .slice ((Ez 2).1) ((Ez 2).2.2.length) ((Ez 2).2.1), .slice ((Ez 3).1) ((Ez 3).2.2.length) ((Ez 3).2.1), .slice ((Ez 4).1) ((Ez 4).2.2.length) ((Ez 4).2.1)]), (144, vi kk)] [(0, none), (1, none), (2, none), (3, none)] [.e (ν10 0), .e (ν7 0), .e (ν7 0), .e (ν7 0), .e (ν7 0), .e (ν7 0), .e (ν5 0), .e (ν5 0), .e (ν5 0)] trivial fun ac wd hS => ?_
        refine hS.call0 37 #[.agg #[pt b'2 0, vi 100, vi 44], .agg #[.slice ((Ez 0).1) ((Ez 0).2.2.length) ((Ez 0).2.1), .slice ((Ez 1).1) ((Ez 1).2.2.length) ((Ez 1).2.1), .slice ((Ez 2).1) ((Ez 2).2.2.length) ((Ez 2).2.1), .slice ((Ez 3).1) ((Ez 3).2.2.length) ((Ez 3).2.1), .slice ((Ez 4).1) ((Ez 4).2.2.length) ((Ez 4).2.1)], vi kk] 145 (law11_told b'2 F24 (bpM mz 100 44 kA) Ez kk ((Int.toNat x34) + 1) _ (hS.mem.res 0) (hS.mem.get 0 0 (.fn 0 64 dbT)) (by exact hS.mem.l5Get 1) (by first | exact hT9 | exact i1) (by omega)) fun ac wd hS => ?_
        refine hS.opsC 1 [0] [3, 4, 6, 32, 33, 34] fun _ => seg [(146, vb false)] [(0, none), (1, none), (2, none), (3, none)] [] trivial fun ac wd hS => ?_
        refine list_nil_seq ?_
        refine hS.condF ?_
        refine wp_skip ?_
        refine pop_block ?_
        refine pop_then ?_
        refine hS.regC [20, 0] [3, 4, 6, 32, 33] fun _ => seg [(34, vi (x34 + 1))] [(0, none), (1, none), (2, none), (3, none)] [.p (fit .i64 (x34 + 1))] ⟨fit_i64 (by omega), trivial⟩ fun ac wd hS => ?_
        exact pop_then (hS.next ((x34 + 1), F24, (bpM mz 100 44 kA), Ez) ⟨(by first | omega | assumption | (simp; done) | (simp; omega)), (by first | exact hT9.more (by omega) | exact i1.more (by omega)), (by first | exact hC9 | exact i2), trivial⟩ (by dsimp only; omega))
       ·
        have hz3 := hb26
        have hor := rdOrd_rng mz kA
        refine hS.regS [0, 500, 0, 0] [3, 4, 6, 8, 9, 15, 17, 32, 33, 34] fun _ => seg [(86, vb (((rdOwn mz kA) : Int) != 0))] [(0, none), (1, none), (2, none), (3, none), (4, none), (5, none)] [.e (ν53 0)] trivial fun ac wd hS => ?_
        refine hS.condC (((rdOwn mz kA) : Int) != 0) (fun hb27o hb27 => ?_) (fun hb27o hb27 => ?_)
        ·
         have hpA := bp_4 (m := mz) (o := 100) (z := 44) (a := kA) (by decide) (by rw [hz2e]; decide) (by omega) hb27
         refine hS.regS [0, fx 0 (vb false)] [3, 4, 6, 8, 32, 33, 34] fun _ => seg [(91, vb false)] [(0, none), (1, none), (2, none), (3, none), (4, none)] [.p ((vb (((bpE mz 100 44 kA) : Int) != 11) : Value) = vb false)] ⟨(congrArg Value.bool (by (rw [← hpA.1]; rfl))), trivial⟩ fun ac wd hS => ?_
         refine hS.condF ?_
         refine wp_skip ?_
         refine pop_block ?_
         refine pop_block ?_
         refine pop_then ?_
         have hC9 := i2
         have hT9 : BSQ (bpM mz 100 44 kA) Ez ((Int.toNat x34) + 1) := by first | exact (hpB _ hN9).more (by omega) | exact hpu.2 _ hN9 | (rw [← hpA.2]; exact hz1.more (by omega))
         refine wp_region_seq ?_
         refine hS.opsC 4 [200, 300, 0, 400] [3, 4, 6, 32, 33, 34] fun _ => seg [(141, .agg #[pt b'2 0, vi 100, vi 44]), (142, .agg #[.slice ((Ez 0).1) ((Ez 0).2.2.length) ((Ez 0).2.1), .slice ((Ez 1).1) ((Ez 1).2.2.length) ((Ez 1).2.1), .slice ((Ez 2).1) ((Ez 2).2.2.length) ((Ez 2).2.1), .slice ((Ez 3).1) ((Ez 3).2.2.length) ((Ez 3).2.1), .slice ((Ez 4).1) ((Ez 4).2.2.length) ((Ez 4).2.1)]), (144, vi kk)] [(0, none), (1, none), (2, none), (3, none)] [.e (ν10 0), .e (ν7 0), .e (ν7 0), .e (ν7 0), .e (ν7 0), .e (ν7 0), .e (ν5 0), .e (ν5 0), .e (ν5 0)] trivial fun ac wd hS => ?_
         refine hS.call0 37 #[.agg #[pt b'2 0, vi 100, vi 44], .agg #[.slice ((Ez 0).1) ((Ez 0).2.2.length) ((Ez 0).2.1), .slice ((Ez 1).1) ((Ez 1).2.2.length) ((Ez 1).2.1), .slice ((Ez 2).1) ((Ez 2).2.2.length) ((Ez 2).2.1), .slice ((Ez 3).1) ((Ez 3).2.2.length) ((Ez 3).2.1), .slice ((Ez 4).1) ((Ez 4).2.2.length) ((Ez 4).2.1)], vi kk] 145 (law11_told b'2 F24 (bpM mz 100 44 kA) Ez kk ((Int.toNat x34) + 1) _ (hS.mem.res 0) (hS.mem.get 0 0 (.fn 0 64 dbT)) (by exact hS.mem.l5Get 1) (by first | exact hT9 | exact i1) (by omega)) fun ac wd hS => ?_
         refine hS.opsC 1 [0] [3, 4, 6, 32, 33, 34] fun _ => seg [(146, vb false)] [(0, none), (1, none), (2, none), (3, none)] [] trivial fun ac wd hS => ?_
         refine list_nil_seq ?_
         refine hS.condF ?_
         refine wp_skip ?_
         refine pop_block ?_
         refine pop_then ?_
         refine hS.regC [20, 0] [3, 4, 6, 32, 33] fun _ => seg [(34, vi (x34 + 1))] [(0, none), (1, none), (2, none), (3, none)] [.p (fit .i64 (x34 + 1))] ⟨fit_i64 (by omega), trivial⟩ fun ac wd hS => ?_
         exact pop_then (hS.next ((x34 + 1), F24, (bpM mz 100 44 kA), Ez) ⟨(by first | omega | assumption | (simp; done) | (simp; omega)), (by first | exact hT9.more (by omega) | exact i1.more (by omega)), (by first | exact hC9 | exact i2), trivial⟩ (by dsimp only; omega))
        ·
         have hz4 : rdOwn mz kA = 0 := by omega
         have hpu := hz1.push hkj hkA hn9 hz2e (by omega) hz4
         refine wp_seq ?_
         refine hS.regS [0, fx 0 (vb false)] [3, 4, 6, 8, 9, 15, 32, 33, 34] fun _ => seg [(68, vb false)] [(0, none), (1, none), (2, none), (3, none), (4, none), (5, none)] [.p ((vb (((bpE mz 100 44 kA) : Int) != 0) : Value) = vb false)] ⟨(congrArg Value.bool (by (rw [hpu.1]; rfl))), trivial⟩ fun ac wd hS => ?_
         refine hS.condF ?_
         refine wp_skip ?_
         refine pop_then ?_
         refine wp_region_lit ?_
         refine hS.opsC 4 [300, 0, 500, 0] [3, 4, 6, 8, 32, 33, 34] fun _ => seg [(69, .agg #[.slice ((Ez 0).1) ((Ez 0).2.2.length) ((Ez 0).2.1), .slice ((Ez 1).1) ((Ez 1).2.2.length) ((Ez 1).2.1), .slice ((Ez 2).1) ((Ez 2).2.2.length) ((Ez 2).2.1), .slice ((Ez 3).1) ((Ez 3).2.2.length) ((Ez 3).2.1), .slice ((Ez 4).1) ((Ez 4).2.2.length) ((Ez 4).2.1)]), (71, vi (rdOrd mz kA)), (72, vi kA)] [(0, none), (1, none), (2, none), (3, none), (4, none)] [.e (ν53 0), .e (ν7 0), .e (ν7 0), .e (ν7 0), .e (ν7 0), .e (ν7 0)] trivial fun ac wd hS => ?_
         refine hS.callC 36 #[.agg #[.slice ((Ez 0).1) ((Ez 0).2.2.length) ((Ez 0).2.1), .slice ((Ez 1).1) ((Ez 1).2.2.length) ((Ez 1).2.1), .slice ((Ez 2).1) ((Ez 2).2.2.length) ((Ez 2).2.1), .slice ((Ez 3).1) ((Ez 3).2.2.length) ((Ez 3).2.1), .slice ((Ez 4).1) ((Ez 4).2.2.length) ((Ez 4).2.1)], vi (rdOrd mz kA), vi kA] (r11_Push Ez (rdOrd mz kA) kA _ (hS.mem.get 0 0 (.fn 0 64 dbT)) (by exact hS.mem.l5Get 1) (by exact fun i hi => Nat.le_trans (i1.len i hi) (by omega)) (by omega)) ?_
         rintro _ wd ⟨ao228, c229, nl230, F31, rfl, hN232, hN, hF⟩
         refine ⟨.agg #[.slice (((updF Ez (Int.toNat (rdOrd mz kA)) ((ao228, c229, nl230) : HdI)) 0).1) (((updF Ez (Int.toNat (rdOrd mz kA)) ((ao228, c229, nl230) : HdI)) 0).2.2.length) (((updF Ez (Int.toNat (rdOrd mz kA)) ((ao228, c229, nl230) : HdI)) 0).2.1), .slice (((updF Ez (Int.toNat (rdOrd mz kA)) ((ao228, c229, nl230) : HdI)) 1).1) (((updF Ez (Int.toNat (rdOrd mz kA)) ((ao228, c229, nl230) : HdI)) 1).2.2.length) (((updF Ez (Int.toNat (rdOrd mz kA)) ((ao228, c229, nl230) : HdI)) 1).2.1), .slice (((updF Ez (Int.toNat (rdOrd mz kA)) ((ao228, c229, nl230) : HdI)) 2).1) (((updF Ez (Int.toNat (rdOrd mz kA)) ((ao228, c229, nl230) : HdI)) 2).2.2.length) (((updF Ez (Int.toNat (rdOrd mz kA)) ((ao228, c229, nl230) : HdI)) 2).2.1), .slice (((updF Ez (Int.toNat (rdOrd mz kA)) ((ao228, c229, nl230) : HdI)) 3).1) (((updF Ez (Int.toNat (rdOrd mz kA)) ((ao228, c229, nl230) : HdI)) 3).2.2.length) (((updF Ez (Int.toNat (rdOrd mz kA)) ((ao228, c229, nl230) : HdI)) 3).2.1), .slice (((updF Ez (Int.toNat (rdOrd mz kA)) ((ao228, c229, nl230) : HdI)) 4).1) (((updF Ez (Int.toNat (rdOrd mz kA)) ((ao228, c229, nl230) : HdI)) 4).2.2.length) (((updF Ez (Int.toNat (rdOrd mz kA)) ((ao228, c229, nl230) : HdI)) 4).2.1)], rfl, ?_⟩
         replace hS := (hS.to (hS.mem.newA hN hF)).put (d := 73) (v := .agg #[.slice (((updF Ez (Int.toNat (rdOrd mz kA)) ((ao228, c229, nl230) : HdI)) 0).1) (((updF Ez (Int.toNat (rdOrd mz kA)) ((ao228, c229, nl230) : HdI)) 0).2.2.length) (((updF Ez (Int.toNat (rdOrd mz kA)) ((ao228, c229, nl230) : HdI)) 0).2.1), .slice (((updF Ez (Int.toNat (rdOrd mz kA)) ((ao228, c229, nl230) : HdI)) 1).1) (((updF Ez (Int.toNat (rdOrd mz kA)) ((ao228, c229, nl230) : HdI)) 1).2.2.length) (((updF Ez (Int.toNat (rdOrd mz kA)) ((ao228, c229, nl230) : HdI)) 1).2.1), .slice (((updF Ez (Int.toNat (rdOrd mz kA)) ((ao228, c229, nl230) : HdI)) 2).1) (((updF Ez (Int.toNat (rdOrd mz kA)) ((ao228, c229, nl230) : HdI)) 2).2.2.length) (((updF Ez (Int.toNat (rdOrd mz kA)) ((ao228, c229, nl230) : HdI)) 2).2.1), .slice (((updF Ez (Int.toNat (rdOrd mz kA)) ((ao228, c229, nl230) : HdI)) 3).1) (((updF Ez (Int.toNat (rdOrd mz kA)) ((ao228, c229, nl230) : HdI)) 3).2.2.length) (((updF Ez (Int.toNat (rdOrd mz kA)) ((ao228, c229, nl230) : HdI)) 3).2.1), .slice (((updF Ez (Int.toNat (rdOrd mz kA)) ((ao228, c229, nl230) : HdI)) 4).1) (((updF Ez (Int.toNat (rdOrd mz kA)) ((ao228, c229, nl230) : HdI)) 4).2.2.length) (((updF Ez (Int.toNat (rdOrd mz kA)) ((ao228, c229, nl230) : HdI)) 4).2.1)]) (by decide)
         clear hF
         have hN9 := hN232
         refine hS.opsC 1 [300] [3, 4, 6, 8, 32, 33, 34] fun _ => seg [] [(0, none), (1, none), (2, none), (3, some ((ν7 0), .cells [.slice (((updF Ez (Int.toNat (rdOrd mz kA)) ((ao228, c229, nl230) : HdI)) 0).1) (((updF Ez (Int.toNat (rdOrd mz kA)) ((ao228, c229, nl230) : HdI)) 0).2.2.length) (((updF Ez (Int.toNat (rdOrd mz kA)) ((ao228, c229, nl230) : HdI)) 0).2.1), .slice (((updF Ez (Int.toNat (rdOrd mz kA)) ((ao228, c229, nl230) : HdI)) 1).1) (((updF Ez (Int.toNat (rdOrd mz kA)) ((ao228, c229, nl230) : HdI)) 1).2.2.length) (((updF Ez (Int.toNat (rdOrd mz kA)) ((ao228, c229, nl230) : HdI)) 1).2.1), .slice (((updF Ez (Int.toNat (rdOrd mz kA)) ((ao228, c229, nl230) : HdI)) 2).1) (((updF Ez (Int.toNat (rdOrd mz kA)) ((ao228, c229, nl230) : HdI)) 2).2.2.length) (((updF Ez (Int.toNat (rdOrd mz kA)) ((ao228, c229, nl230) : HdI)) 2).2.1), .slice (((updF Ez (Int.toNat (rdOrd mz kA)) ((ao228, c229, nl230) : HdI)) 3).1) (((updF Ez (Int.toNat (rdOrd mz kA)) ((ao228, c229, nl230) : HdI)) 3).2.2.length) (((updF Ez (Int.toNat (rdOrd mz kA)) ((ao228, c229, nl230) : HdI)) 3).2.1), .slice (((updF Ez (Int.toNat (rdOrd mz kA)) ((ao228, c229, nl230) : HdI)) 4).1) (((updF Ez (Int.toNat (rdOrd mz kA)) ((ao228, c229, nl230) : HdI)) 4).2.2.length) (((updF Ez (Int.toNat (rdOrd mz kA)) ((ao228, c229, nl230) : HdI)) 4).2.1)] 72)), (4, none)] [.e (ν7 0), .e (ν7 0), .e (ν7 0), .e (ν7 0), .e (ν7 0)] trivial fun ac wd hS => ?_
         refine list_nil ?_
         refine pop_block ?_
         refine pop_block ?_
         refine pop_then ?_
         have hcp9 := WS.grCap hS.mem 2
         have hC9 : ∀ i, i < 5 → ((updF Ez (Int.toNat (rdOrd mz kA)) ((ao228, c229, nl230) : HdI)) i).2.2.length ≤ ((updF Ez (Int.toNat (rdOrd mz kA)) ((ao228, c229, nl230) : HdI)) i).2.1 := by first | exact popE_cap i2 hcp9 | exact updF_cap i2 hcp9
         replace hS := hS.to (WS.l5Turn (ao := ao228) (cp := c229) (nl := nl230) (E2 := (updF Ez (Int.toNat (rdOrd mz kA)) ((ao228, c229, nl230) : HdI))) hS.mem (fun i_ _ => by first | exact popE_or _ _ _ _ | exact updF_or _ _ _ _) no)
         have hT9 : BSQ (bpM mz 100 44 kA) (updF Ez (Int.toNat (rdOrd mz kA)) ((ao228, c229, nl230) : HdI)) ((Int.toNat x34) + 1) := by first | exact (hpB _ hN9).more (by omega) | exact hpu.2 _ hN9 | (rw [← hpA.2]; exact hz1.more (by omega))
         refine wp_region_seq ?_
         refine hS.opsC 4 [200, 300, 0, 400] [3, 4, 6, 32, 33, 34] fun _ => seg [(141, .agg #[pt b'2 0, vi 100, vi 44]), (142, .agg #[.slice (((updF Ez (Int.toNat (rdOrd mz kA)) ((ao228, c229, nl230) : HdI)) 0).1) (((updF Ez (Int.toNat (rdOrd mz kA)) ((ao228, c229, nl230) : HdI)) 0).2.2.length) (((updF Ez (Int.toNat (rdOrd mz kA)) ((ao228, c229, nl230) : HdI)) 0).2.1), .slice (((updF Ez (Int.toNat (rdOrd mz kA)) ((ao228, c229, nl230) : HdI)) 1).1) (((updF Ez (Int.toNat (rdOrd mz kA)) ((ao228, c229, nl230) : HdI)) 1).2.2.length) (((updF Ez (Int.toNat (rdOrd mz kA)) ((ao228, c229, nl230) : HdI)) 1).2.1), .slice (((updF Ez (Int.toNat (rdOrd mz kA)) ((ao228, c229, nl230) : HdI)) 2).1) (((updF Ez (Int.toNat (rdOrd mz kA)) ((ao228, c229, nl230) : HdI)) 2).2.2.length) (((updF Ez (Int.toNat (rdOrd mz kA)) ((ao228, c229, nl230) : HdI)) 2).2.1), .slice (((updF Ez (Int.toNat (rdOrd mz kA)) ((ao228, c229, nl230) : HdI)) 3).1) (((updF Ez (Int.toNat (rdOrd mz kA)) ((ao228, c229, nl230) : HdI)) 3).2.2.length) (((updF Ez (Int.toNat (rdOrd mz kA)) ((ao228, c229, nl230) : HdI)) 3).2.1), .slice (((updF Ez (Int.toNat (rdOrd mz kA)) ((ao228, c229, nl230) : HdI)) 4).1) (((updF Ez (Int.toNat (rdOrd mz kA)) ((ao228, c229, nl230) : HdI)) 4).2.2.length) (((updF Ez (Int.toNat (rdOrd mz kA)) ((ao228, c229, nl230) : HdI)) 4).2.1)]), (144, vi kk)] [(0, none), (1, none), (2, none), (3, none)] [.e (ν10 0), .e (ν7 0), .e (ν7 0), .e (ν7 0), .e (ν7 0), .e (ν7 0), .e (ν5 0), .e (ν5 0), .e (ν5 0)] trivial fun ac wd hS => ?_
         refine hS.call0 37 #[.agg #[pt b'2 0, vi 100, vi 44], .agg #[.slice (((updF Ez (Int.toNat (rdOrd mz kA)) ((ao228, c229, nl230) : HdI)) 0).1) (((updF Ez (Int.toNat (rdOrd mz kA)) ((ao228, c229, nl230) : HdI)) 0).2.2.length) (((updF Ez (Int.toNat (rdOrd mz kA)) ((ao228, c229, nl230) : HdI)) 0).2.1), .slice (((updF Ez (Int.toNat (rdOrd mz kA)) ((ao228, c229, nl230) : HdI)) 1).1) (((updF Ez (Int.toNat (rdOrd mz kA)) ((ao228, c229, nl230) : HdI)) 1).2.2.length) (((updF Ez (Int.toNat (rdOrd mz kA)) ((ao228, c229, nl230) : HdI)) 1).2.1), .slice (((updF Ez (Int.toNat (rdOrd mz kA)) ((ao228, c229, nl230) : HdI)) 2).1) (((updF Ez (Int.toNat (rdOrd mz kA)) ((ao228, c229, nl230) : HdI)) 2).2.2.length) (((updF Ez (Int.toNat (rdOrd mz kA)) ((ao228, c229, nl230) : HdI)) 2).2.1), .slice (((updF Ez (Int.toNat (rdOrd mz kA)) ((ao228, c229, nl230) : HdI)) 3).1) (((updF Ez (Int.toNat (rdOrd mz kA)) ((ao228, c229, nl230) : HdI)) 3).2.2.length) (((updF Ez (Int.toNat (rdOrd mz kA)) ((ao228, c229, nl230) : HdI)) 3).2.1), .slice (((updF Ez (Int.toNat (rdOrd mz kA)) ((ao228, c229, nl230) : HdI)) 4).1) (((updF Ez (Int.toNat (rdOrd mz kA)) ((ao228, c229, nl230) : HdI)) 4).2.2.length) (((updF Ez (Int.toNat (rdOrd mz kA)) ((ao228, c229, nl230) : HdI)) 4).2.1)], vi kk] 145 (law11_told b'2 F24 (bpM mz 100 44 kA) (updF Ez (Int.toNat (rdOrd mz kA)) ((ao228, c229, nl230) : HdI)) kk ((Int.toNat x34) + 1) _ (hS.mem.res 0) (hS.mem.get 0 0 (.fn 0 64 dbT)) (by exact hS.mem.l5Get 1) (by first | exact hT9 | exact i1) (by omega)) fun ac wd hS => ?_
         refine hS.opsC 1 [0] [3, 4, 6, 32, 33, 34] fun _ => seg [(146, vb false)] [(0, none), (1, none), (2, none), (3, none)] [] trivial fun ac wd hS => ?_
         refine list_nil_seq ?_
         refine hS.condF ?_
         refine wp_skip ?_
         refine pop_block ?_
         refine pop_then ?_
         refine hS.regC [20, 0] [3, 4, 6, 32, 33] fun _ => seg [(34, vi (x34 + 1))] [(0, none), (1, none), (2, none), (3, none)] [.p (fit .i64 (x34 + 1))] ⟨fit_i64 (by omega), trivial⟩ fun ac wd hS => ?_
         exact pop_then (hS.next ((x34 + 1), F24, (bpM mz 100 44 kA), (updF Ez (Int.toNat (rdOrd mz kA)) ((ao228, c229, nl230) : HdI))) ⟨(by first | omega | assumption | (simp; done) | (simp; omega)), (by first | exact hT9.more (by omega) | exact i1.more (by omega)), (by first | exact hC9 | exact i2), trivial⟩ (by dsimp only; omega))
  ·
   refine wp_exit ?_
   refine pop_then_exit ?_
   refine pop_then_exit ?_
   refine pop_block_hit ?_
   refine pop_then ?_
   refine wp_region_seq ?_
   refine hS.opsC 1 [0] [6] fun _ => seg [(149, pt b'2 0)] [(0, none), (3, none)] [] trivial fun ac wd hS => ?_
   refine hS.callC 38 #[pt b'2 0] (ar_Clone b'2 Fx mx _ (hS.mem.res 0) ) ?_
   rintro _ wd ⟨b'33, F34, rfl, hN, hF⟩
   refine ⟨pt b'33 0, rfl, ?_⟩
   replace hS := (hS.to (hS.mem.stepA 0 (r' := arR b'33 F34 mx) rfl hN hF)).put (d := 150) (v := pt b'33 0) (by decide)
   clear hF
   refine hS.call0 23 #[pt b'33 0, vi 100, vi 44] 151 (vw_Of b'33 F34 mx 100 44 _ (hS.mem.res 0) (by exact i1.thr (by omega))) fun ac wd hS => ?_
   refine hS.opsC 6 [0, 0, 0, 0, 200, 0] [6] fun ν78 => seg [(18, pt (ν78 0) 0), (19, vi 0)] [(0, none), (1, none), (2, some ((ν78 0), .cells [pt b'33 0, vi 100, vi 44] 55))] [.e (ν78 0), .e (ν78 0), .e (ν78 0)] trivial fun ac wd hS => ?_
   refine list_nil_seq ?_
   refine St.ordBeginS [(0, 1), (1, 1), (2, 1), (3, 1), (5, 1), (4, 0), (6, 0), (7, 1), (8, 1)] [(0, .fn 0 64 dbT), ((ν7 0), .cells [.slice ((Ez 0).1) ((Ez 0).2.2.length) ((Ez 0).2.1), .slice ((Ez 1).1) ((Ez 1).2.2.length) ((Ez 1).2.1), .slice ((Ez 2).1) ((Ez 2).2.2.length) ((Ez 2).2.1), .slice ((Ez 3).1) ((Ez 3).2.2.length) ((Ez 3).2.1), .slice ((Ez 4).1) ((Ez 4).2.2.length) ((Ez 4).2.1)] 72), ((ν78 0), .cells [pt b'33 0, vi 100, vi 44] 55)] [0, 1, 2] hS fun wd hS => ?_
   have hap := hS.mem.pairs (Hf := [(0, .fn 0 64 dbT), ((ν7 0), .cells [.slice ((Ez 0).1) ((Ez 0).2.2.length) ((Ez 0).2.1), .slice ((Ez 1).1) ((Ez 1).2.2.length) ((Ez 1).2.1), .slice ((Ez 2).1) ((Ez 2).2.2.length) ((Ez 2).2.1), .slice ((Ez 3).1) ((Ez 3).2.2.length) ((Ez 3).2.1), .slice ((Ez 4).1) ((Ez 4).2.2.length) ((Ez 4).2.1)] 72), ((ν78 0), .cells [pt b'33 0, vi 100, vi 44] 55)]) (l := [0, 1, 2])
   refine St.ordF [0, 0, 0] [0, 1, 2] [6, 18] (rest := [(3, 1), (5, 1), (4, 0), (6, 0), (7, 1), (8, 1)]) hS hap <| segF [(156, vb true)] [] trivial fun ac hS => ?_
   refine St.ordF [201, 101] [3, 5] [156] (rest := [(4, 0), (6, 0), (7, 1), (8, 1)]) hS hap <| segF [(157, .agg #[pt b'33 0, vi 100, vi 44]), (159, .agg #[.slice ((Ez 0).1) ((Ez 0).2.2.length) ((Ez 0).2.1), .slice ((Ez 1).1) ((Ez 1).2.2.length) ((Ez 1).2.1), .slice ((Ez 2).1) ((Ez 2).2.2.length) ((Ez 2).2.1), .slice ((Ez 3).1) ((Ez 3).2.2.length) ((Ez 3).2.1), .slice ((Ez 4).1) ((Ez 4).2.2.length) ((Ez 4).2.1)])] [.t true, .e (ν7 0), .e (ν7 0), .e (ν7 0), .e (ν7 0), .e (ν7 0), .t true, .e (ν78 0), .e (ν78 0), .e (ν78 0)] trivial fun ac hS => ?_
   refine hS.ordCG 4 true 39 #[.agg #[pt b'33 0, vi 100, vi 44]] (b_Open b'33 100 44 _  ) ?_
   rintro _ wd ⟨rfl, hF⟩
   refine ⟨.agg #[pt b'33 0, vi 100, vi 44], rfl, ?_⟩
   replace hS := (hS.to (hS.mem.keep0 hF)).put (d := 158) (v := .agg #[pt b'33 0, vi 100, vi 44]) (by decide)
   clear hF
   refine hS.ordV (l := [0, 1, 2]) ?_
   refine hS.ordCG 6 true 37 #[.agg #[pt b'33 0, vi 100, vi 44], .agg #[.slice ((Ez 0).1) ((Ez 0).2.2.length) ((Ez 0).2.1), .slice ((Ez 1).1) ((Ez 1).2.2.length) ((Ez 1).2.1), .slice ((Ez 2).1) ((Ez 2).2.2.length) ((Ez 2).2.1), .slice ((Ez 3).1) ((Ez 3).2.2.length) ((Ez 3).2.1), .slice ((Ez 4).1) ((Ez 4).2.2.length) ((Ez 4).2.1)], vi 0] (law11_told b'33 F34 mx Ez 0 (Int.toNat x34) _ (hS.mem.res 0) (hS.mem.get 0 0 (.fn 0 64 dbT)) (by exact hS.mem.l5Get 1) (by first | exact hT9 | exact i1) (by omega)) ?_
   rintro _ wd ⟨rfl, hF⟩
   refine ⟨vb true, rfl, ?_⟩
   replace hS := (hS.to (hS.mem.keep0 hF)).put (d := 160) (v := vb true) (by decide)
   clear hF
   refine hS.ordV (l := [0, 1, 2]) ?_
   refine St.ordF [70, 0] [7, 8] [] (rest := []) hS hap <| segF [(2, vb true)] [.t true] trivial fun ac hS => ?_
   refine ord_nil ?_
   refine wp_ret ?_
   refine St.retC 0 hS (vb true) [] trivial fun hw => ?_
   refine ⟨retd rfl, hw.fr0⟩

end Go.Proofs.YtdjhdcaanmkblaaDoor.K
