/-
  Walks, printed by w2.py.
-/
import Derived.Test.YthgkiieenojcpaaDoorQb
import Derived.Test.YthgkiieenojcpaaDoorMq
import Derived.Test.YthgkiieenojcpaaDoorOz
import Derived.Test.YthgkiieenojcpaaDoorProg
namespace Go.Proofs.YthgkiieenojcpaaDoor.K
set_option linter.unusedVariables false
set_option linter.unusedSimpArgs false

set_option maxRecDepth 100000 in
set_option maxHeartbeats 1000000 in
theorem law17_HandleMoves (ao7 : Option Addr) (c7 : Nat) (g7 : Nat) (o7 : Nat) (l : List (Int × Int × Int × Int × Bool)) (n : Int) (at_ : Int) (w : World) (hh0 : HE.holds w 0 (.fn 0 64 dbT)) (hh1 : HE.holds w g7 (.fn o7 (o7 + l.length * 5) (aHV (gtD l) o7))) (hv7 : (l.length = 0 ∨ ao7 = some ⟨g7, o7, none⟩)) (hAl : ∀ i, i < l.length → rg_aHV (gtD l i)) (hat : at_ ≤ 9223372036854775807) :
    Calls Tryd.prog 12 #[.slice ao7 l.length c7, vi n, vi at_] w fun e w' => e = .returned (vb true) ∧ Fr w w' no no := by
 have hZ0 : HRep (comM (AM.new 2) 0 2) 16 200 (List.replicate 12 ((0, 0) : Int × Int)) := HRep.zero (comM_zero (fun _ => rfl) 0 2) (page_thr2 (by decide)) (by decide) (by decide) (by decide) (fun i hi => gtD_rep (by simpa using hi))
 have hZ := hZ0.canon
 have him : 0 ≤ imax 0 n := by unfold imax; split <;> omega
 refine enter (args := [.slice ao7 l.length c7, vi n, vi at_]) (D := no) (A := []) Tryd.func12 rfl 172 rfl [(0, .fn 0 64 dbT), (g7, .fn o7 (o7 + l.length * 5) (aHV (gtD l) o7))] (WS.startL ⟨⟨rfl, hh0⟩, ⟨rfl, hh1⟩, trivial⟩) fun ac hS => ?_
 refine hS.regS [0] [0, 1, 2] fun _ => seg [] [(0, none), (1, none)] [] trivial fun ac wd hS => ?_
 refine wp_seq ?_
 refine wp_region_seq ?_
 refine hS.call0 63 #[] 27 (law17_awake  _ (hS.mem.get 0 0 (.fn 0 64 dbT)) ) fun ac wd hS => ?_
 refine hS.opsC 1 [0] [0, 1, 2] fun _ => seg [(28, vb false)] [(0, none), (1, none)] [] trivial fun ac wd hS => ?_
 refine list_nil_seq ?_
 refine hS.condF ?_
 refine wp_skip ?_
 refine pop_then ?_
 refine wp_seq ?_
 refine hS.regS [0, 0, 0] [0, 1, 2] fun _ => seg [(31, vb (decide ((80 : Int) < ((l.length : Nat) : Int))))] [(0, none), (1, none)] [] trivial fun ac wd hS => ?_
 refine hS.condC (decide ((80 : Int) < ((l.length : Nat) : Int))) (fun hb1o hb1 => ?_) (fun hb1o hb1 => ?_)
 ·
  refine hS.regS [0] [] fun _ => seg [(6, vb true)] [(0, none)] [] trivial fun ac wd hS => ?_
  refine wp_ret ?_
  refine pop_then_ret ?_
  refine St.retC 0 hS (vb true) [] trivial fun hw => ?_
  refine ⟨retd rfl, hw.fr0⟩
 ·
  refine wp_skip ?_
  refine pop_then ?_
  refine wp_region_seq ?_
  refine hS.callC 64 #[vi 200] (law17_open 200 _  (by decide)) ?_
  rintro _ wd ⟨b'2, F3, rfl, hN, hF⟩
  refine ⟨.tuple #[pt b'2 0, .agg #[pt b'2 0, vi 16, vi 200], vb true], rfl, ?_⟩
  replace hS := (hS.to (hS.mem.newA hN hF)).put (d := 33) (v := .tuple #[pt b'2 0, .agg #[pt b'2 0, vi 16, vi 200], vb true]) (by decide)
  clear hF
  refine hS.opsC 8 [0, 0, 0, 0, 0, 0, 200, 0] [0, 1, 2] fun ν5 => seg [(8, pt (ν5 0) 0), (9, vb true)] [(0, none), (1, none), (2, some ((ν5 0), .cells [pt b'2 0, vi 16, vi 200] 111))] [.e (ν5 0), .e (ν5 0), .e (ν5 0)] trivial fun ac wd hS => ?_
  refine list_nil_seq ?_
  refine wp_seq ?_
  refine hS.regS [0, 0, 0] [1, 2, 8, 9] fun _ => seg [(37, .slice ao7 l.length c7), (38, vi ((l.length : Nat) : Int)), (39, vi 0)] [(0, none), (1, none), (2, none)] [] trivial fun ac wd hS => ?_
  refine wp_block ?_
  refine St.loopC (σ := Int × (Nat → Prop) × AM) (fun (x : Int × (Nat → Prop) × AM) => match x with | (x39, Fx, mx) => ⟨[(1, [], vi n), (2, [], vi at_), (8, [], pt (ν5 0) 0), (9, [], vb true), (37, [], .slice ao7 l.length c7), (38, [], vi ((l.length : Nat) : Int)), (39, [], vi x39)], [(0, .fn 0 64 dbT), (g7, .fn o7 (o7 + l.length * 5) (aHV (gtD l) o7)), ((ν5 0), .cells [pt b'2 0, vi 16, vi 200] 111)], [arR b'2 Fx mx], (0 ≤ x39 ∧ x39 ≤ ((l.length : Nat) : Int)) ∧ (HRep mx 16 200 (rdT mx 16 200)) ∧ True, l.length - Int.toNat x39⟩) (0, F3, (comM (AM.new 2) 0 2)) ⟨(by omega), (by exact hZ), trivial⟩ hS ?_
  clear hS
  rintro ⟨x39, Fx, mx⟩ ⟨i0, i1, -⟩ ac wd hS
  replace i0 : 0 ≤ x39 ∧ x39 ≤ ((l.length : Nat) : Int) := i0
  replace i1 : HRep mx 16 200 (rdT mx 16 200) := i1
  refine hS.regS [0] [1, 2, 8, 9, 37, 38, 39] fun _ => seg [(40, vb (decide ((x39 : Int) < ((l.length : Nat) : Int))))] [(0, none), (1, none), (2, none)] [] trivial fun ac wd hS => ?_
  refine wp_seq ?_
  refine hS.condC (decide ((x39 : Int) < ((l.length : Nat) : Int))) (fun hb4o hb4 => ?_) (fun hb4o hb4 => ?_)
  ·
   refine wp_skip ?_
   refine pop_then ?_
   refine wp_seq ?_
   refine wp_block ?_
   obtain rfl : ao7 = some ⟨g7, o7, none⟩ := Or.resolve_left hv7 (by omega)
   refine hS.regS [20, fx 100 (.agg #[v8 (((gtD l) (Int.toNat x39)).1), vi (((gtD l) (Int.toNat x39)).2.1), vi (((gtD l) (Int.toNat x39)).2.2.1), vu (((gtD l) (Int.toNat x39)).2.2.2.1), vb (((gtD l) (Int.toNat x39)).2.2.2.2)]), 0, 300] [1, 2, 8, 9, 37, 38, 39] fun ν8 => seg [(11, pt (ν8 0) 0)] [(0, none), (1, none), (2, none), (3, some ((ν8 0), .cells [v8 (((gtD l) (Int.toNat x39)).1), vi (((gtD l) (Int.toNat x39)).2.1), vi (((gtD l) (Int.toNat x39)).2.2.1), vu (((gtD l) (Int.toNat x39)).2.2.2.1), vb (((gtD l) (Int.toNat x39)).2.2.2.2)] 116))] [.e (ν8 0), .e (ν8 0), .e (ν8 0), .e (ν8 0), .e (ν8 0), .p ((.agg #[((aHV (gtD l) o7) (o7 + Int.toNat x39 * 5)), ((aHV (gtD l) o7) (o7 + Int.toNat x39 * 5 + 1)), ((aHV (gtD l) o7) (o7 + Int.toNat x39 * 5 + 2)), ((aHV (gtD l) o7) (o7 + Int.toNat x39 * 5 + 3)), ((aHV (gtD l) o7) (o7 + Int.toNat x39 * 5 + 4))] : Value) = .agg #[v8 (((gtD l) (Int.toNat x39)).1), vi (((gtD l) (Int.toNat x39)).2.1), vi (((gtD l) (Int.toNat x39)).2.2.1), vu (((gtD l) (Int.toNat x39)).2.2.2.1), vb (((gtD l) (Int.toNat x39)).2.2.2.2)]), .e g7, .p (o7 ≤ o7 + Int.toNat x39 * 5 + 4 ∧ o7 + Int.toNat x39 * 5 + 4 < (o7 + l.length * 5)), .e g7, .p (o7 ≤ o7 + Int.toNat x39 * 5 + 3 ∧ o7 + Int.toNat x39 * 5 + 3 < (o7 + l.length * 5)), .e g7, .p (o7 ≤ o7 + Int.toNat x39 * 5 + 2 ∧ o7 + Int.toNat x39 * 5 + 2 < (o7 + l.length * 5)), .e g7, .p (o7 ≤ o7 + Int.toNat x39 * 5 + 1 ∧ o7 + Int.toNat x39 * 5 + 1 < (o7 + l.length * 5)), .e g7, .p (o7 ≤ o7 + Int.toNat x39 * 5 ∧ o7 + Int.toNat x39 * 5 < (o7 + l.length * 5)), .p ((0 : Int) ≤ x39 ∧ (x39 : Int) < ((l.length : Nat) : Int))] ⟨(agg5 (aHV_0 (gtD l) o7 (Int.toNat x39)) (aHV_1 (gtD l) o7 (Int.toNat x39)) (aHV_2 (gtD l) o7 (Int.toNat x39)) (aHV_3 (gtD l) o7 (Int.toNat x39)) (aHV_4 (gtD l) o7 (Int.toNat x39))), (by omega), (by omega), (by omega), (by omega), (by omega), (by omega), trivial⟩ fun ac wd hS => ?_
   refine wp_region_seq ?_
   refine hS.opsC 1 [200] [1, 2, 8, 9, 11, 37, 38, 39] fun _ => seg [(43, .agg #[pt b'2 0, vi 16, vi 200])] [(0, none), (1, none), (2, none), (3, none)] [.e (ν5 0), .e (ν5 0), .e (ν5 0)] trivial fun ac wd hS => ?_
   refine hS.callC 65 #[.agg #[pt b'2 0, vi 16, vi 200]] (h_All_r b'2 Fx mx 16 200 (rdT mx 16 200) _ (hS.mem.res 0) (hS.mem.get 0 0 (.fn 0 64 dbT)) (by first | exact i1 | exact hR2)) ?_
   rintro _ wd ⟨ao25, c26, g27, o28, rfl, hv29, hog0, hoh0, hF⟩
   have ho10 : g27 = 0 ∨ w.heap.size ≤ g27 := by have := hS.mem.fr.size; have : w.heap.size ≤ _ := this; omega
   refine ⟨.slice ao25 ((rAll (rdT mx 16 200)).length) c26, rfl, ?_⟩
   replace hS := (hS.to (hS.mem.outs hF [(g27, .fn o28 (o28 + (rAll (rdT mx 16 200)).length) (u1V (gtD (rAll (rdT mx 16 200))) o28))] ⟨⟨rfl, hoh0, (fun q_ => q_.elim (fun e => .inl ⟨0, .fn 0 64 dbT, by rw [e]; as_aux_lemma => kernel_rfl, rfl⟩) (fun q_ => .inr q_)) hog0⟩, trivial⟩)).put (d := 44) (v := .slice ao25 ((rAll (rdT mx 16 200)).length) c26) (by decide)
   clear hF
   refine hS.opsC 1 [0] [1, 2, 8, 9, 11, 37, 38, 39] fun _ => seg [(12, .slice ao25 ((rAll (rdT mx 16 200)).length) c26)] [(0, none), (1, none), (2, none), (3, none), (4, none)] [] trivial fun ac wd hS => ?_
   refine list_nil_seq ?_
   obtain ⟨kd, kd_e⟩ : ∃ q_ : Int, q_ = ((gtD l) (Int.toNat x39)).1 := ⟨_, rfl⟩
   obtain ⟨kn, kn_e⟩ : ∃ q_ : Int, q_ = ((gtD l) (Int.toNat x39)).2.1 := ⟨_, rfl⟩
   obtain ⟨ka, ka_e⟩ : ∃ q_ : Int, q_ = ((gtD l) (Int.toNat x39)).2.2.1 := ⟨_, rfl⟩
   obtain ⟨kh, kh_e⟩ : ∃ q_ : Int, q_ = ((gtD l) (Int.toNat x39)).2.2.2.1 := ⟨_, rfl⟩
   obtain ⟨ko, ko_e⟩ : ∃ q_ : Bool, q_ = (((gtD l) (Int.toNat x39)).2.2.2.2) := ⟨_, rfl⟩
   replace hS := hS.to (hS.mem.tell 3 (b := (ν8 0)) (x := (.cells [v8 (((gtD l) (Int.toNat x39)).1), vi (((gtD l) (Int.toNat x39)).2.1), vi (((gtD l) (Int.toNat x39)).2.2.1), vu (((gtD l) (Int.toNat x39)).2.2.2.1), vb (((gtD l) (Int.toNat x39)).2.2.2.2)] 116)) (.cells [v8 kd, vi kn, vi ka, vu kh, vb ko] 116) (hh := fun h_ => by rw [kd_e, kn_e, ka_e, kh_e, ko_e]; exact h_))
   have hac := hAl _ (show Int.toNat x39 < l.length by omega)
   unfold rg_aHV at hac
   rw [← kd_e, ← kn_e, ← ka_e, ← kh_e] at hac
   clear kd_e kn_e ka_e kh_e ko_e
   obtain ⟨hac1, hac2, hac3, hac4, _⟩ := hac
   have hik : 0 ≤ imax 0 kn := by unfold imax; split <;> omega
   have hra := rAll_len (rdT mx 16 200)
   have hok := i1.ok
   have hok1 := hok.1
   refine hS.regS [0, 300, 20, 0] [1, 2, 8, 9, 11, 12, 37, 38, 39] fun _ => seg [(48, vb (decide (((kd % 6) : Int) < 4)))] [(0, none), (1, none), (2, none), (3, none), (4, none)] [.p ((6 : Int) ≠ 0 ∧ Int.tmod kd 6 = kd % 6), .e (ν8 0)] ⟨rem2 (by omega) (by omega), trivial⟩ fun ac wd hS => ?_
   refine hS.condC (decide (((kd % 6) : Int) < 4)) (fun hb11o hb11 => ?_) (fun hb11o hb11 => ?_)
   ·
    refine wp_region_lit ?_
    refine hS.opsC 3 [200, 0, 300] [1, 2, 8, 9, 37, 38, 39] fun _ => seg [(49, .agg #[pt b'2 0, vi 16, vi 200]), (51, vi ka)] [(0, none), (1, none), (2, none)] [.e (ν8 0), .e (ν5 0), .e (ν5 0), .e (ν5 0)] trivial fun ac wd hS => ?_
    refine hS.callC 66 #[.agg #[pt b'2 0, vi 16, vi 200], vi ka] (h_New_r b'2 Fx mx 16 200 ka (rdT mx 16 200) _ (hS.mem.res 0) (by first | exact i1 | exact hR2) (by first | assumption | omega | (simp_all; done) | (simp_all; omega))) ?_
    rintro _ wd ⟨F12, rfl, hA, hF⟩
    refine ⟨.tuple #[vu (rNewV (rdT mx 16 200) ka), vi (rNewE (rdT mx 16 200) ka)], rfl, ?_⟩
    replace hS := (hS.to (hS.mem.stepA 0 rfl hA hF)).put (d := 52) (v := .tuple #[vu (rNewV (rdT mx 16 200) ka), vi (rNewE (rdT mx 16 200) ka)]) (by decide)
    clear hF
    refine list_nil ?_
    refine pop_block ?_
    refine pop_then ?_
    refine hS.regC [20, 0] [1, 2, 8, 9, 37, 38] fun _ => seg [(39, vi (x39 + 1))] [(0, none), (1, none), (2, none)] [.p (fit .i64 (x39 + 1))] ⟨fit_i64 (by omega), trivial⟩ fun ac wd hS => ?_
    exact pop_then (hS.next ((x39 + 1), F12, (hNwM mx 16 200 ka)) ⟨(by omega), (by first | exact (i1.new hac3.2).1.canon | exact (i1.dro hdr).canon | exact i1), trivial⟩ (by dsimp only; omega))
   ·
    refine hS.regS [0, 0, 0] [1, 2, 8, 9, 11, 12, 37, 38, 39] fun _ => seg [(55, vb (decide ((0 : Int) < (((rAll (rdT mx 16 200)).length : Nat) : Int))))] [(0, none), (1, none), (2, none), (3, none), (4, none)] [] trivial fun ac wd hS => ?_
    refine hS.condC (decide ((0 : Int) < (((rAll (rdT mx 16 200)).length : Nat) : Int))) (fun hb13o hb13 => ?_) (fun hb13o hb13 => ?_)
    ·
     have hlq : 0 < (rAll (rdT mx 16 200)).length := by have h9 := hb13; omega
     have hmd := Int.emod_lt_of_pos (imax 0 kn) (show (0 : Int) < (((rAll (rdT mx 16 200)).length : Nat) : Int) by omega)
     have hmn := Int.emod_nonneg (imax 0 kn) (show (((rAll (rdT mx 16 200)).length : Nat) : Int) ≠ 0 by omega)
     have hdr := rAll_rng hok (i := Int.toNat (imax 0 kn % (((rAll (rdT mx 16 200)).length : Nat) : Int))) (by omega)
     obtain rfl : ao25 = some ⟨g27, o28, none⟩ := Or.resolve_left hv29 (by omega)
     refine St.ordBegin [(0, 1), (1, 1), (2, 1), (3, 1), (4, 1), (5, 1), (6, 1), (7, 1), (8, 1), (9, 1), (10, 0)] [(0, .fn 0 64 dbT), (g7, .fn o7 (o7 + l.length * 5) (aHV (gtD l) o7)), ((ν5 0), .cells [pt b'2 0, vi 16, vi 200] 111), ((ν8 0), .cells [v8 kd, vi kn, vi ka, vu kh, vb ko] 116), (g27, .fn o28 (o28 + (rAll (rdT mx 16 200)).length) (u1V (gtD (rAll (rdT mx 16 200))) o28))] [0, 1, 2, 3, 4] hS fun wd hS => ?_
     have hap := hS.mem.pairs (Hf := [(0, .fn 0 64 dbT), (g7, .fn o7 (o7 + l.length * 5) (aHV (gtD l) o7)), ((ν5 0), .cells [pt b'2 0, vi 16, vi 200] 111), ((ν8 0), .cells [v8 kd, vi kn, vi ka, vu kh, vb ko] 116), (g27, .fn o28 (o28 + (rAll (rdT mx 16 200)).length) (u1V (gtD (rAll (rdT mx 16 200))) o28))]) (l := [0, 1, 2, 3, 4])
     refine St.ordF [200, 0, 0, 300, 0, 0, 0, 20, 20, fx 400 (vu ((gtD (rAll (rdT mx 16 200))) (Int.toNat ((imax 0 kn) % (((rAll (rdT mx 16 200)).length : Nat) : Int)))))] [0, 1, 2, 3, 4, 5, 6, 7, 8, 9] [1, 2, 8, 9, 37, 38, 39] (rest := [(10, 0)]) hS hap <| segF [(56, .agg #[pt b'2 0, vi 16, vi 200]), (65, vu ((gtD (rAll (rdT mx 16 200))) (Int.toNat ((imax 0 kn) % (((rAll (rdT mx 16 200)).length : Nat) : Int)))))] [.p ((((u1V (gtD (rAll (rdT mx 16 200))) o28) (o28 + Int.toNat ((imax 0 kn) % (((rAll (rdT mx 16 200)).length : Nat) : Int)) * 1)) : Value) = vu ((gtD (rAll (rdT mx 16 200))) (Int.toNat ((imax 0 kn) % (((rAll (rdT mx 16 200)).length : Nat) : Int))))), .e g27, .p (o28 ≤ o28 + Int.toNat ((imax 0 kn) % (((rAll (rdT mx 16 200)).length : Nat) : Int)) * 1 ∧ o28 + Int.toNat ((imax 0 kn) % (((rAll (rdT mx 16 200)).length : Nat) : Int)) * 1 < (o28 + (rAll (rdT mx 16 200)).length)), .p ((0 : Int) ≤ ((imax 0 kn) % (((rAll (rdT mx 16 200)).length : Nat) : Int)) ∧ (((imax 0 kn) % (((rAll (rdT mx 16 200)).length : Nat) : Int)) : Int) < (((rAll (rdT mx 16 200)).length : Nat) : Int)), .p (((((rAll (rdT mx 16 200)).length : Nat) : Int) : Int) ≠ 0 ∧ Int.tmod (imax 0 kn) (((rAll (rdT mx 16 200)).length : Nat) : Int) = (imax 0 kn) % (((rAll (rdT mx 16 200)).length : Nat) : Int)), .e (ν8 0), .e (ν5 0), .e (ν5 0), .e (ν5 0)] ⟨((u1V_0 (gtD (rAll (rdT mx 16 200))) o28 (Int.toNat ((imax 0 kn) % (((rAll (rdT mx 16 200)).length : Nat) : Int))))), (by omega), (by omega), rem2 (by omega) (by omega), trivial⟩ fun ac hS => ?_
     refine hS.ordC 10 67 #[.agg #[pt b'2 0, vi 16, vi 200], vu ((gtD (rAll (rdT mx 16 200))) (Int.toNat ((imax 0 kn) % (((rAll (rdT mx 16 200)).length : Nat) : Int))))] (h_Drop_r b'2 Fx mx 16 200 ((gtD (rAll (rdT mx 16 200))) (Int.toNat ((imax 0 kn) % (((rAll (rdT mx 16 200)).length : Nat) : Int)))) (rdT mx 16 200) _ (hS.mem.res 0) (by first | exact i1 | exact hR2) (by exact hdr)) ?_
     rintro _ wd ⟨F14, rfl, hA, hF⟩
     refine ⟨vi (rGetE (rdT mx 16 200) ((gtD (rAll (rdT mx 16 200))) (Int.toNat ((imax 0 kn) % (((rAll (rdT mx 16 200)).length : Nat) : Int))))), rfl, ?_⟩
     replace hS := (hS.to (hS.mem.stepA 0 rfl hA hF)).put (d := 66) (v := vi (rGetE (rdT mx 16 200) ((gtD (rAll (rdT mx 16 200))) (Int.toNat ((imax 0 kn) % (((rAll (rdT mx 16 200)).length : Nat) : Int)))))) (by decide)
     clear hF
     refine hS.ordV (l := [0, 1, 2, 3, 4]) ?_
     refine ord_nil ?_
     refine pop_block ?_
     refine pop_then ?_
     refine hS.regC [20, 0] [1, 2, 8, 9, 37, 38] fun _ => seg [(39, vi (x39 + 1))] [(0, none), (1, none), (2, none)] [.p (fit .i64 (x39 + 1))] ⟨fit_i64 (by omega), trivial⟩ fun ac wd hS => ?_
     exact pop_then (hS.next ((x39 + 1), F14, (hDrM mx 16 200 ((gtD (rAll (rdT mx 16 200))) (Int.toNat ((imax 0 kn) % (((rAll (rdT mx 16 200)).length : Nat) : Int)))))) ⟨(by omega), (by first | exact (i1.new hac3.2).1.canon | exact (i1.dro hdr).canon | exact i1), trivial⟩ (by dsimp only; omega))
    ·
     refine wp_skip ?_
     refine pop_block ?_
     refine pop_then ?_
     refine hS.regC [20, 0] [1, 2, 8, 9, 37, 38] fun _ => seg [(39, vi (x39 + 1))] [(0, none), (1, none), (2, none)] [.p (fit .i64 (x39 + 1))] ⟨fit_i64 (by omega), trivial⟩ fun ac wd hS => ?_
     exact pop_then (hS.next ((x39 + 1), Fx, mx) ⟨(by omega), (by first | exact (i1.new hac3.2).1.canon | exact (i1.dro hdr).canon | exact i1), trivial⟩ (by dsimp only; omega))
  ·
   refine wp_exit ?_
   refine pop_then_exit ?_
   refine pop_then_exit ?_
   refine pop_block_hit ?_
   refine pop_then ?_
   refine wp_region_seq ?_
   refine hS.opsC 1 [200] [1, 2, 8, 9] fun _ => seg [(68, .agg #[pt b'2 0, vi 16, vi 200])] [(0, none), (2, none)] [.e (ν5 0), .e (ν5 0), .e (ν5 0)] trivial fun ac wd hS => ?_
   refine hS.callC 65 #[.agg #[pt b'2 0, vi 16, vi 200]] (h_All_r b'2 Fx mx 16 200 (rdT mx 16 200) _ (hS.mem.res 0) (hS.mem.get 0 0 (.fn 0 64 dbT)) (by first | exact i1 | exact hR2)) ?_
   rintro _ wd ⟨ao215, c216, g217, o218, rfl, hv219, hog0, hoh0, hF⟩
   have ho20 : g217 = 0 ∨ w.heap.size ≤ g217 := by have := hS.mem.fr.size; have : w.heap.size ≤ _ := this; omega
   refine ⟨.slice ao215 ((rAll (rdT mx 16 200)).length) c216, rfl, ?_⟩
   replace hS := (hS.to (hS.mem.outs hF [(g217, .fn o218 (o218 + (rAll (rdT mx 16 200)).length) (u1V (gtD (rAll (rdT mx 16 200))) o218))] ⟨⟨rfl, hoh0, (fun q_ => q_.elim (fun e => .inl ⟨0, .fn 0 64 dbT, by rw [e]; as_aux_lemma => kernel_rfl, rfl⟩) (fun q_ => .inr q_)) hog0⟩, trivial⟩)).put (d := 69) (v := .slice ao215 ((rAll (rdT mx 16 200)).length) c216) (by decide)
   clear hF
   refine hS.opsC 1 [0] [1, 2, 8, 9] fun _ => seg [(13, .slice ao215 ((rAll (rdT mx 16 200)).length) c216)] [(0, none), (1, none), (2, none)] [] trivial fun ac wd hS => ?_
   refine list_nil_seq ?_
   refine wp_seq ?_
   refine hS.regS [0, 0, 0, 1, 1, 1, 60] [1, 2, 8, 9, 13] fun _ => seg [(76, vb (((((rAll (rdT mx 16 200)).length : Nat) : Int) : Int) == 0))] [(0, none), (1, none), (2, none)] [.t false, .t false, .t false, .t false] trivial fun ac wd hS => ?_
   refine hS.condC (((((rAll (rdT mx 16 200)).length : Nat) : Int) : Int) == 0) (fun hb21o hb21 => ?_) (fun hb21o hb21 => ?_)
   ·
    refine hS.regS [0, 0] [] fun _ => seg [(6, vb true)] [(0, none)] [] trivial fun ac wd hS => ?_
    refine wp_ret ?_
    refine pop_then_ret ?_
    refine St.retC 0 hS (vb true) [] trivial fun hw => ?_
    refine ⟨retd rfl, hw.fr0⟩
   ·
    have hlp : 0 < (rAll (rdT mx 16 200)).length := by have h9 := hb21; omega
    have hmd := Int.emod_lt_of_pos (imax 0 n) (show (0 : Int) < (((rAll (rdT mx 16 200)).length : Nat) : Int) by omega)
    have hmn := Int.emod_nonneg (imax 0 n) (show (((rAll (rdT mx 16 200)).length : Nat) : Int) ≠ 0 by omega)
    obtain ⟨k0, hk0⟩ : ∃ k0, Int.toNat (imax 0 n % (((rAll (rdT mx 16 200)).length : Nat) : Int)) = k0 := ⟨_, rfl⟩
    have hk1 : k0 < (rAll (rdT mx 16 200)).length := by omega
    have hra := rAll_len (rdT mx 16 200)
    have hok1 := i1.ok.1
    refine wp_skip ?_
    refine pop_then ?_
    obtain rfl : ao215 = some ⟨g217, o218, none⟩ := Or.resolve_left hv219 (by omega)
    refine hS.regS [0, 0, 0, 0, 0, 20, 20, fx 200 (vu ((gtD (rAll (rdT mx 16 200))) (Int.toNat ((imax 0 n) % (((rAll (rdT mx 16 200)).length : Nat) : Int))))), 0] [2, 8, 13] fun _ => seg [(14, vu ((gtD (rAll (rdT mx 16 200))) (Int.toNat ((imax 0 n) % (((rAll (rdT mx 16 200)).length : Nat) : Int)))))] [(0, none), (1, none), (2, none)] [.p ((((u1V (gtD (rAll (rdT mx 16 200))) o218) (o218 + Int.toNat ((imax 0 n) % (((rAll (rdT mx 16 200)).length : Nat) : Int)) * 1)) : Value) = vu ((gtD (rAll (rdT mx 16 200))) (Int.toNat ((imax 0 n) % (((rAll (rdT mx 16 200)).length : Nat) : Int))))), .e g217, .p (o218 ≤ o218 + Int.toNat ((imax 0 n) % (((rAll (rdT mx 16 200)).length : Nat) : Int)) * 1 ∧ o218 + Int.toNat ((imax 0 n) % (((rAll (rdT mx 16 200)).length : Nat) : Int)) * 1 < (o218 + (rAll (rdT mx 16 200)).length)), .p ((0 : Int) ≤ ((imax 0 n) % (((rAll (rdT mx 16 200)).length : Nat) : Int)) ∧ (((imax 0 n) % (((rAll (rdT mx 16 200)).length : Nat) : Int)) : Int) < (((rAll (rdT mx 16 200)).length : Nat) : Int)), .p (((((rAll (rdT mx 16 200)).length : Nat) : Int) : Int) ≠ 0 ∧ Int.tmod (imax 0 n) (((rAll (rdT mx 16 200)).length : Nat) : Int) = (imax 0 n) % (((rAll (rdT mx 16 200)).length : Nat) : Int))] ⟨((u1V_0 (gtD (rAll (rdT mx 16 200))) o218 (Int.toNat ((imax 0 n) % (((rAll (rdT mx 16 200)).length : Nat) : Int))))), (by omega), (by omega), rem2 (by omega) (by omega), trivial⟩ fun ac wd hS => ?_
    replace hS := hS.fix 14 (vu (gtD (rAll (rdT mx 16 200)) k0)) (show (vu ((gtD (rAll (rdT mx 16 200))) (Int.toNat ((imax 0 n) % (((rAll (rdT mx 16 200)).length : Nat) : Int)))) : Value) = vu (gtD (rAll (rdT mx 16 200)) k0) by rw [hk0])
    refine wp_region_seq ?_
    refine hS.opsC 1 [100] [2, 8, 13, 14] fun _ => seg [(87, .agg #[pt b'2 0, vi 16, vi 200])] [(0, none), (1, none), (2, none)] [.e (ν5 0), .e (ν5 0), .e (ν5 0)] trivial fun ac wd hS => ?_
    refine hS.call0 68 #[.agg #[pt b'2 0, vi 16, vi 200]] 88 (h_Next_r b'2 Fx mx 16 200 (rdT mx 16 200) _ (hS.mem.res 0) (by first | exact i1 | exact hR2)) fun ac wd hS => ?_
    refine hS.opsC 5 [0, 0, 0, 0, 0] [2, 8, 13, 14] fun _ => seg [(15, vu (rNewV (rdT mx 16 200) 1)), (16, vi (rNewE (rdT mx 16 200) 1))] [(0, none), (1, none), (2, none)] [] trivial fun ac wd hS => ?_
    refine list_nil_seq ?_
    refine wp_region_seq ?_
    refine Runs1.list ?_
    refine St.mapNew hS 123 rfl rfl (by decide) (.int .u64) (vu : Int → Value) (vi : Int → Value) fun ac wd mp22 hm23 hS => ?_
    refine hS.opsC 1 [0] [2, 8, 13, 14, 15, 16] fun _ => seg [(17, .map (some mp22))] [(0, none), (1, none), (2, none)] [] trivial fun ac wd hS => ?_
    refine list_nil_seq ?_
    refine wp_seq ?_
    refine hS.regS [0, 0, 0] [2, 8, 13, 14, 15, 16, 17] fun _ => seg [(92, sc g217 o218 ((rAll (rdT mx 16 200)).length) c216), (93, vi (((rAll (rdT mx 16 200)).length : Nat) : Int)), (94, vi 0)] [(0, none), (1, none), (2, none)] [] trivial fun ac wd hS => ?_
    refine wp_block ?_
    refine St.loopC (σ := Int × Nat × (Int → Option Int)) (fun (x : Int × Nat × (Int → Option Int)) => match x with | (x94, nq, fq) => ⟨[(2, [], vi at_), (8, [], pt (ν5 0) 0), (13, [], sc g217 o218 ((rAll (rdT mx 16 200)).length) c216), (14, [], vu (gtD (rAll (rdT mx 16 200)) k0)), (15, [], vu (rNewV (rdT mx 16 200) 1)), (16, [], vi (rNewE (rdT mx 16 200) 1)), (17, [], .map (some mp22)), (92, [], sc g217 o218 ((rAll (rdT mx 16 200)).length) c216), (93, [], vi (((rAll (rdT mx 16 200)).length : Nat) : Int)), (94, [], vi x94)], [(0, .fn 0 64 dbT), ((ν5 0), .cells [pt b'2 0, vi 16, vi 200] 111), (g217, .fn o218 (o218 + (rAll (rdT mx 16 200)).length) (u1V (gtD (rAll (rdT mx 16 200))) o218))], [arR b'2 Fx mx, mpR (.int .u64) (vu : Int → Value) (vi : Int → Value) mp22 (one mp22) (nq, fq)], (0 ≤ x94 ∧ x94 ≤ (((rAll (rdT mx 16 200)).length : Nat) : Int)) ∧ (∀ k : Nat, (k : Int) < x94 → k < (rAll (rdT mx 16 200)).length → fq (gtD (rAll (rdT mx 16 200)) k) = some (rGetA (rdT mx 16 200) (gtD (rAll (rdT mx 16 200)) k))) ∧ True, (rAll (rdT mx 16 200)).length - Int.toNat x94⟩) (0, 0, (fun _ => none)) ⟨(by omega), (by intro k_ hk_; omega), trivial⟩ hS ?_
    clear hS
    rintro ⟨x94, nq, fq⟩ ⟨j0, j1, -⟩ ac wd hS
    replace j0 : 0 ≤ x94 ∧ x94 ≤ (((rAll (rdT mx 16 200)).length : Nat) : Int) := j0
    replace j1 : ∀ k : Nat, (k : Int) < x94 → k < (rAll (rdT mx 16 200)).length → fq (gtD (rAll (rdT mx 16 200)) k) = some (rGetA (rdT mx 16 200) (gtD (rAll (rdT mx 16 200)) k)) := j1
    refine hS.regS [0] [2, 8, 13, 14, 15, 16, 17, 92, 93, 94] fun _ => seg [(95, vb (decide ((x94 : Int) < (((rAll (rdT mx 16 200)).length : Nat) : Int))))] [(0, none), (1, none), (2, none)] [] trivial fun ac wd hS => ?_
    refine wp_seq ?_
    refine hS.condC (decide ((x94 : Int) < (((rAll (rdT mx 16 200)).length : Nat) : Int))) (fun hb24o hb24 => ?_) (fun hb24o hb24 => ?_)
    ·
     refine wp_skip ?_
     refine pop_then ?_
     refine wp_seq ?_
     refine wp_block ?_
     refine hS.regS [20, fx 200 (vu ((gtD (rAll (rdT mx 16 200))) (Int.toNat x94))), 0] [2, 8, 13, 14, 15, 16, 17, 92, 93, 94] fun _ => seg [(19, vu ((gtD (rAll (rdT mx 16 200))) (Int.toNat x94)))] [(0, none), (1, none), (2, none)] [.p ((((u1V (gtD (rAll (rdT mx 16 200))) o218) (o218 + Int.toNat x94 * 1)) : Value) = vu ((gtD (rAll (rdT mx 16 200))) (Int.toNat x94))), .e g217, .p (o218 ≤ o218 + Int.toNat x94 * 1 ∧ o218 + Int.toNat x94 * 1 < (o218 + (rAll (rdT mx 16 200)).length)), .p ((0 : Int) ≤ x94 ∧ (x94 : Int) < (((rAll (rdT mx 16 200)).length : Nat) : Int))] ⟨((u1V_0 (gtD (rAll (rdT mx 16 200))) o218 (Int.toNat x94))), (by omega), (by omega), trivial⟩ fun ac wd hS => ?_
     refine wp_region_lit ?_
     refine hS.opsC 4 [0, 0, 100, 0] [2, 8, 13, 14, 15, 16, 17, 92, 93, 94] fun _ => seg [(99, .map (some mp22)), (100, vu ((gtD (rAll (rdT mx 16 200))) (Int.toNat x94))), (101, .agg #[pt b'2 0, vi 16, vi 200]), (102, vu ((gtD (rAll (rdT mx 16 200))) (Int.toNat x94)))] [(0, none), (1, none), (2, none)] [.e (ν5 0), .e (ν5 0), .e (ν5 0)] trivial fun ac wd hS => ?_
     refine hS.call0 69 #[.agg #[pt b'2 0, vi 16, vi 200], vu ((gtD (rAll (rdT mx 16 200))) (Int.toNat x94))] 103 (h_Get_r b'2 Fx mx 16 200 ((gtD (rAll (rdT mx 16 200))) (Int.toNat x94)) (rdT mx 16 200) _ (hS.mem.res 0) (by first | exact i1 | exact hR2) (by exact rAll_rng i1.ok (by omega))) fun ac wd hS => ?_
     refine hS.opsC 3 [0, 0, 0] [2, 8, 13, 14, 15, 16, 17, 92, 93, 94, 99, 100] fun _ => seg [(104, vi (rGetA (rdT mx 16 200) ((gtD (rAll (rdT mx 16 200))) (Int.toNat x94))))] [(0, none), (1, none), (2, none)] [] trivial fun ac wd hS => ?_
     refine Runs0.list ?_
     refine St.mapPut hS 123 (.tmp 99) (.tmp 100) (.tmp 104) rfl (dk := .int .u64) (ek := (vu : Int → Value)) (ev := (vi : Int → Value)) (b := mp22) (q := nq) (F := (one mp22)) (f := fq) 1 ((gtD (rAll (rdT mx 16 200))) (Int.toNat x94)) (rGetA (rdT mx 16 200) ((gtD (rAll (rdT mx 16 200))) (Int.toNat x94))) (fun _ => rfl) (fun _ _ e_ => by injection e_) Tryd.underlying123 Tryd.underlying114 fun wd hS => ?_
     refine list_nil ?_
     refine pop_block ?_
     refine pop_then ?_
     refine hS.regC [20, 0] [2, 8, 13, 14, 15, 16, 17, 92, 93] fun _ => seg [(94, vi (x94 + 1))] [(0, none), (1, none), (2, none)] [.p (fit .i64 (x94 + 1))] ⟨fit_i64 (by omega), trivial⟩ fun ac wd hS => ?_
     exact pop_then (hS.next ((x94 + 1), (updN nq fq ((gtD (rAll (rdT mx 16 200))) (Int.toNat x94))), (updO fq ((gtD (rAll (rdT mx 16 200))) (Int.toNat x94)) (rGetA (rdT mx 16 200) ((gtD (rAll (rdT mx 16 200))) (Int.toNat x94))))) ⟨(by omega), (by exact mp_step j1 j0.1), trivial⟩ (by dsimp only; omega))
    ·
     refine wp_exit ?_
     refine pop_then_exit ?_
     refine pop_then_exit ?_
     refine pop_block_hit ?_
     refine pop_then ?_
     refine wp_region_seq ?_
     refine hS.opsC 3 [100, 0, 0] [2, 8, 13, 14, 15, 16, 17] fun _ => seg [(107, .agg #[pt b'2 0, vi 16, vi 200]), (108, vu (gtD (rAll (rdT mx 16 200)) k0)), (109, vi at_)] [(0, none), (1, none), (2, none)] [.e (ν5 0), .e (ν5 0), .e (ν5 0)] trivial fun ac wd hS => ?_
     refine hS.callC 70 #[.agg #[pt b'2 0, vi 16, vi 200], vu (gtD (rAll (rdT mx 16 200)) k0), vi at_] (h_Move_r b'2 Fx mx 16 200 (gtD (rAll (rdT mx 16 200)) k0) at_ (rdT mx 16 200) _ (hS.mem.res 0) (by first | exact i1 | exact hR2) (by exact rAll_rng i1.ok hk1) (by first | assumption | omega | (simp_all; done) | (simp_all; omega))) ?_
     rintro _ wd ⟨F25, rfl, hA, hF⟩
     refine ⟨vi (rMovE (rdT mx 16 200) (gtD (rAll (rdT mx 16 200)) k0) at_), rfl, ?_⟩
     replace hS := (hS.to (hS.mem.stepA 0 rfl hA hF)).put (d := 110) (v := vi (rMovE (rdT mx 16 200) (gtD (rAll (rdT mx 16 200)) k0) at_)) (by decide)
     clear hF
     refine hS.opsC 1 [0] [2, 8, 13, 14, 15, 16, 17] fun _ => seg [(20, vi (rMovE (rdT mx 16 200) (gtD (rAll (rdT mx 16 200)) k0) at_))] [(0, none), (1, none), (2, none)] [] trivial fun ac wd hS => ?_
     refine list_nil_seq ?_
     refine wp_seq ?_
     have hE := mv_is i1.ok hk1 at_
     have hMv := i1.mov (x := (gtD (rAll (rdT mx 16 200)) k0)) (a := at_) (rAll_rng i1.ok hk1) hat
     have hR2 := hMv.1
     obtain ⟨hN1, hN2, hN3⟩ := mv_end i1.ok hk1 at_
     refine hS.regS [0, 0, 0, 0, 0, 0, 3, 3, 3, 3, 3, 83, 80] [2, 8, 13, 14, 15, 16, 17, 20] fun _ => seg [(123, vb ((!((((rMovE (rdT mx 16 200) (gtD (rAll (rdT mx 16 200)) k0) at_) : Int) == 0) == (decide ((0 : Int) < at_)))) || ((((rMovE (rdT mx 16 200) (gtD (rAll (rdT mx 16 200)) k0) at_) : Int) != 0) && (((rMovE (rdT mx 16 200) (gtD (rAll (rdT mx 16 200)) k0) at_) : Int) != 2))))] [(0, none), (1, none), (2, none)] [] trivial fun ac wd hS => ?_
     refine hS.condK ((!((((rMovE (rdT mx 16 200) (gtD (rAll (rdT mx 16 200)) k0) at_) : Int) == 0) == (decide ((0 : Int) < at_)))) || ((((rMovE (rdT mx 16 200) (gtD (rAll (rdT mx 16 200)) k0) at_) : Int) != 0) && (((rMovE (rdT mx 16 200) (gtD (rAll (rdT mx 16 200)) k0) at_) : Int) != 2))) false (by (by_cases h9_ : at_ < 1; (rw [hE, if_pos h9_]; first | rfl | (rw [decide_eq_false (show ¬ (0 : Int) < at_ by omega)]; rfl)); (rw [hE, if_neg h9_]; first | rfl | (rw [decide_eq_true (show (0 : Int) < at_ by omega)]; rfl)))) ?_
     show Code.wp _ _ _ _ _
     refine wp_skip ?_
     refine pop_then ?_
     refine wp_seq ?_
     refine hS.regS [0, 0] [2, 8, 13, 14, 15, 16, 17] fun _ => seg [(125, vb (((rMovE (rdT mx 16 200) (gtD (rAll (rdT mx 16 200)) k0) at_) : Int) == 0))] [(0, none), (1, none), (2, none)] [] trivial fun ac wd hS => ?_
     refine hS.condC (((rMovE (rdT mx 16 200) (gtD (rAll (rdT mx 16 200)) k0) at_) : Int) == 0) (fun hb26o hb26 => ?_) (fun hb26o hb26 => ?_)
     ·
      have ha : ¬ at_ < 1 := by have h9 := hb26; rw [hE] at h9; split at h9 <;> omega
      have hG := mv_was i1.ok hk1 ha hat (by omega) j1
      refine wp_region_lit ?_
      refine hS.opsC 3 [0, 0, 0] [8, 13, 15, 16, 17] fun _ => seg [(126, .map (some mp22)), (127, vu (gtD (rAll (rdT mx 16 200)) k0)), (128, vi at_)] [(0, none), (1, none), (2, none)] [] trivial fun ac wd hS => ?_
      refine Runs0.list ?_
      refine St.mapPut hS 123 (.tmp 126) (.tmp 127) (.tmp 128) rfl (dk := .int .u64) (ek := (vu : Int → Value)) (ev := (vi : Int → Value)) (b := mp22) (q := nq) (F := (one mp22)) (f := fq) 1 (gtD (rAll (rdT mx 16 200)) k0) at_ (fun _ => rfl) (fun _ _ e_ => by injection e_) Tryd.underlying123 Tryd.underlying114 fun wd hS => ?_
      refine list_nil ?_
      refine pop_then ?_
      refine wp_seq ?_
      refine hS.regS [0, 0, 0] [8, 13, 15, 16, 17] fun _ => seg [(129, sc g217 o218 ((rAll (rdT mx 16 200)).length) c216), (130, vi (((rAll (rdT mx 16 200)).length : Nat) : Int)), (131, vi 0)] [(0, none), (1, none), (2, none)] [] trivial fun ac wd hS => ?_
      refine wp_block ?_
      refine St.loopC (σ := Int) (fun (x131 : Int) => ⟨[(8, [], pt (ν5 0) 0), (13, [], sc g217 o218 ((rAll (rdT mx 16 200)).length) c216), (15, [], vu (rNewV (rdT mx 16 200) 1)), (16, [], vi (rNewE (rdT mx 16 200) 1)), (17, [], .map (some mp22)), (129, [], sc g217 o218 ((rAll (rdT mx 16 200)).length) c216), (130, [], vi (((rAll (rdT mx 16 200)).length : Nat) : Int)), (131, [], vi x131)], [(0, .fn 0 64 dbT), ((ν5 0), .cells [pt b'2 0, vi 16, vi 200] 111), (g217, .fn o218 (o218 + (rAll (rdT mx 16 200)).length) (u1V (gtD (rAll (rdT mx 16 200))) o218))], [arR b'2 F25 (hMvM mx 16 200 (gtD (rAll (rdT mx 16 200)) k0) at_), mpR (.int .u64) (vu : Int → Value) (vi : Int → Value) mp22 (one mp22) (updN nq fq (gtD (rAll (rdT mx 16 200)) k0), updO fq (gtD (rAll (rdT mx 16 200)) k0) at_)], (0 ≤ x131 ∧ x131 ≤ (((rAll (rdT mx 16 200)).length : Nat) : Int)) ∧ True, (rAll (rdT mx 16 200)).length - Int.toNat x131⟩) 0 ⟨(by omega), trivial⟩ hS ?_
      clear hS
      rintro x131 ⟨q0, -⟩ ac wd hS
      replace q0 : 0 ≤ x131 ∧ x131 ≤ (((rAll (rdT mx 16 200)).length : Nat) : Int) := q0
      refine hS.regS [0] [8, 13, 15, 16, 17, 129, 130, 131] fun _ => seg [(132, vb (decide ((x131 : Int) < (((rAll (rdT mx 16 200)).length : Nat) : Int))))] [(0, none), (1, none), (2, none)] [] trivial fun ac wd hS => ?_
      refine wp_seq ?_
      refine hS.condC (decide ((x131 : Int) < (((rAll (rdT mx 16 200)).length : Nat) : Int))) (fun hb27o hb27 => ?_) (fun hb27o hb27 => ?_)
      ·
       have hGx := hG (Int.toNat x131) (by omega)
       refine wp_skip ?_
       refine pop_then ?_
       refine wp_seq ?_
       refine wp_block ?_
       refine hS.regS [20, fx 200 (vu ((gtD (rAll (rdT mx 16 200))) (Int.toNat x131))), 0] [8, 13, 15, 16, 17, 129, 130, 131] fun _ => seg [(22, vu ((gtD (rAll (rdT mx 16 200))) (Int.toNat x131)))] [(0, none), (1, none), (2, none)] [.p ((((u1V (gtD (rAll (rdT mx 16 200))) o218) (o218 + Int.toNat x131 * 1)) : Value) = vu ((gtD (rAll (rdT mx 16 200))) (Int.toNat x131))), .e g217, .p (o218 ≤ o218 + Int.toNat x131 * 1 ∧ o218 + Int.toNat x131 * 1 < (o218 + (rAll (rdT mx 16 200)).length)), .p ((0 : Int) ≤ x131 ∧ (x131 : Int) < (((rAll (rdT mx 16 200)).length : Nat) : Int))] ⟨((u1V_0 (gtD (rAll (rdT mx 16 200))) o218 (Int.toNat x131))), (by omega), (by omega), trivial⟩ fun ac wd hS => ?_
       refine wp_region_seq ?_
       refine hS.opsC 2 [100, 0] [8, 13, 15, 16, 17, 22, 129, 130, 131] fun _ => seg [(136, .agg #[pt b'2 0, vi 16, vi 200]), (137, vu ((gtD (rAll (rdT mx 16 200))) (Int.toNat x131)))] [(0, none), (1, none), (2, none)] [.e (ν5 0), .e (ν5 0), .e (ν5 0)] trivial fun ac wd hS => ?_
       refine hS.call0 69 #[.agg #[pt b'2 0, vi 16, vi 200], vu ((gtD (rAll (rdT mx 16 200))) (Int.toNat x131))] 138 (h_Get_r b'2 F25 (hMvM mx 16 200 (gtD (rAll (rdT mx 16 200)) k0) at_) 16 200 ((gtD (rAll (rdT mx 16 200))) (Int.toNat x131)) (rMovT (rdT mx 16 200) (gtD (rAll (rdT mx 16 200)) k0) at_) _ (hS.mem.res 0) (by first | exact i1 | exact hR2) (by exact rAll_rng i1.ok (by omega))) fun ac wd hS => ?_
       refine hS.opsC 5 [0, 0, 0, 0, 0] [8, 13, 15, 16, 17, 22, 129, 130, 131] fun _ => seg [(23, vi (rGetA (rMovT (rdT mx 16 200) (gtD (rAll (rdT mx 16 200)) k0) at_) ((gtD (rAll (rdT mx 16 200))) (Int.toNat x131)))), (24, vi (rGetE (rMovT (rdT mx 16 200) (gtD (rAll (rdT mx 16 200)) k0) at_) ((gtD (rAll (rdT mx 16 200))) (Int.toNat x131))))] [(0, none), (1, none), (2, none)] [] trivial fun ac wd hS => ?_
       refine list_nil_seq ?_
       refine wp_region_seq ?_
       refine hS.opsC 3 [0, 0, 0] [8, 13, 15, 16, 17, 22, 23, 129, 130, 131] fun _ => seg [(143, vb (((rGetE (rMovT (rdT mx 16 200) (gtD (rAll (rdT mx 16 200)) k0) at_) ((gtD (rAll (rdT mx 16 200))) (Int.toNat x131))) : Int) != 0))] [(0, none), (1, none), (2, none)] [] trivial fun ac wd hS => ?_
       have hg28o : (((rGetE (rMovT (rdT mx 16 200) (gtD (rAll (rdT mx 16 200)) k0) at_) ((gtD (rAll (rdT mx 16 200))) (Int.toNat x131))) : Int) != 0) = false := by (rw [hGx.1]; rfl)
       replace hS := hS.fix 143 (vb false) (congrArg Value.bool hg28o)
       refine hS.opsC 3 [1, 1, 1] [8, 13, 15, 16, 17, 129, 130, 131, 143] fun _ => seg [(144, vi (rGetA (rMovT (rdT mx 16 200) (gtD (rAll (rdT mx 16 200)) k0) at_) ((gtD (rAll (rdT mx 16 200))) (Int.toNat x131)))), (145, .map (some mp22)), (146, vu ((gtD (rAll (rdT mx 16 200))) (Int.toNat x131)))] [(0, none), (1, none), (2, none)] [.t false, .t false, .t false] trivial fun ac wd hS => ?_
       refine Runs1.listG hS 143 false ?_ (by decide)
       refine St.mapGet hS 123 (.tmp 145) (.tmp 146) rfl rfl (by decide) (dk := .int .u64) (ek := (vu : Int → Value)) (ev := (vi : Int → Value)) (b := mp22) (q := (updN nq fq (gtD (rAll (rdT mx 16 200)) k0))) (F := (one mp22)) (f := (updO fq (gtD (rAll (rdT mx 16 200)) k0) at_)) 1 ((gtD (rAll (rdT mx 16 200))) (Int.toNat x131)) 0 (fun _ => rfl) (fun _ _ e_ => by injection e_) Tryd.underlying123 Tryd.underlying114 Tryd.zeroValue3 fun ac hS => ?_
       refine hS.opsC 2 [1, 60] [8, 13, 15, 16, 17, 129, 130, 131] fun _ => seg [(149, vb (((rGetA (rMovT (rdT mx 16 200) (gtD (rAll (rdT mx 16 200)) k0) at_) ((gtD (rAll (rdT mx 16 200))) (Int.toNat x131))) : Int) != (((updO fq (gtD (rAll (rdT mx 16 200)) k0) at_) ((gtD (rAll (rdT mx 16 200))) (Int.toNat x131))).getD 0)))] [(0, none), (1, none), (2, none)] [.t false, .t false] trivial fun ac wd hS => ?_
       refine list_nil_seq ?_
       refine hS.condK (((rGetA (rMovT (rdT mx 16 200) (gtD (rAll (rdT mx 16 200)) k0) at_) ((gtD (rAll (rdT mx 16 200))) (Int.toNat x131))) : Int) != (((updO fq (gtD (rAll (rdT mx 16 200)) k0) at_) ((gtD (rAll (rdT mx 16 200))) (Int.toNat x131))).getD 0)) false (by (rw [hGx.2]; simp)) ?_
       show Code.wp _ _ _ _ _
       refine wp_skip ?_
       refine pop_block ?_
       refine pop_then ?_
       refine hS.regC [20, 0] [8, 13, 15, 16, 17, 129, 130] fun _ => seg [(131, vi (x131 + 1))] [(0, none), (1, none), (2, none)] [.p (fit .i64 (x131 + 1))] ⟨fit_i64 (by omega), trivial⟩ fun ac wd hS => ?_
       exact pop_then (hS.next (x131 + 1) ⟨(by first | omega | assumption | (simp; done) | (simp; omega)), trivial⟩ (by dsimp only; omega))
      ·
       refine wp_exit ?_
       refine pop_then_exit ?_
       refine pop_then_exit ?_
       refine pop_block_hit ?_
       refine pop_then ?_
       refine wp_region_seq ?_
       refine hS.opsC 1 [100] [8, 13, 15, 16] fun _ => seg [(152, .agg #[pt b'2 0, vi 16, vi 200])] [(0, none), (1, none), (2, none)] [.e (ν5 0), .e (ν5 0), .e (ν5 0)] trivial fun ac wd hS => ?_
       refine hS.call0 68 #[.agg #[pt b'2 0, vi 16, vi 200]] 153 (h_Next_r b'2 F25 (hMvM mx 16 200 (gtD (rAll (rdT mx 16 200)) k0) at_) 16 200 (rMovT (rdT mx 16 200) (gtD (rAll (rdT mx 16 200)) k0) at_) _ (hS.mem.res 0) (by first | exact i1 | exact hR2)) fun ac wd hS => ?_
       refine hS.opsC 5 [0, 0, 0, 0, 0] [8, 13, 15, 16] fun _ => seg [(25, vu (rNewV (rMovT (rdT mx 16 200) (gtD (rAll (rdT mx 16 200)) k0) at_) 1)), (26, vi (rNewE (rMovT (rdT mx 16 200) (gtD (rAll (rdT mx 16 200)) k0) at_) 1))] [(0, none), (1, none), (2, none)] [] trivial fun ac wd hS => ?_
       refine list_nil_seq ?_
       refine wp_region_seq ?_
       refine hS.opsC 9 [0, 0, 0, 0, 3, 3, 3, 80, 0] [8, 13] fun _ => seg [(164, vb ((((rNewV (rMovT (rdT mx 16 200) (gtD (rAll (rdT mx 16 200)) k0) at_) 1) : Int) == (rNewV (rdT mx 16 200) 1)) && (((rNewE (rMovT (rdT mx 16 200) (gtD (rAll (rdT mx 16 200)) k0) at_) 1) : Int) == (rNewE (rdT mx 16 200) 1))))] [(0, none), (1, none), (2, none)] [] trivial fun ac wd hS => ?_
       have hg29o : ((((rNewV (rMovT (rdT mx 16 200) (gtD (rAll (rdT mx 16 200)) k0) at_) 1) : Int) == (rNewV (rdT mx 16 200) 1)) && (((rNewE (rMovT (rdT mx 16 200) (gtD (rAll (rdT mx 16 200)) k0) at_) 1) : Int) == (rNewE (rdT mx 16 200) 1))) = true := by (rw [hN1]; first | exact beq_self_eq_true _ | (rw [hN2]; simp; done))
       replace hS := hS.fix 164 (vb true) (congrArg Value.bool hg29o)
       refine hS.opsC 1 [101] [13, 164] fun _ => seg [(165, .agg #[pt b'2 0, vi 16, vi 200])] [(0, none), (2, none)] [.t true, .e (ν5 0), .e (ν5 0), .e (ν5 0)] trivial fun ac wd hS => ?_
       refine hS.callG true 65 #[.agg #[pt b'2 0, vi 16, vi 200]] (h_All_r b'2 F25 (hMvM mx 16 200 (gtD (rAll (rdT mx 16 200)) k0) at_) 16 200 (rMovT (rdT mx 16 200) (gtD (rAll (rdT mx 16 200)) k0) at_) _ (hS.mem.res 0) (hS.mem.get 0 0 (.fn 0 64 dbT)) (by first | exact i1 | exact hR2)) ?_
       rintro _ wd ⟨ao230, c231, g232, o233, rfl, hv234, hog0, hoh0, hF⟩
       have ho35 : g232 = 0 ∨ w.heap.size ≤ g232 := by have := hS.mem.fr.size; have : w.heap.size ≤ _ := this; omega
       refine ⟨.slice ao230 ((rAll (rMovT (rdT mx 16 200) (gtD (rAll (rdT mx 16 200)) k0) at_)).length) c231, rfl, ?_⟩
       replace hS := (hS.to (hS.mem.outs hF [(g232, .fn o233 (o233 + (rAll (rMovT (rdT mx 16 200) (gtD (rAll (rdT mx 16 200)) k0) at_)).length) (u1V (gtD (rAll (rMovT (rdT mx 16 200) (gtD (rAll (rdT mx 16 200)) k0) at_))) o233))] ⟨⟨rfl, hoh0, (fun q_ => q_.elim (fun e => .inl ⟨0, .fn 0 64 dbT, by rw [e]; as_aux_lemma => kernel_rfl, rfl⟩) (fun q_ => .inr q_)) hog0⟩, trivial⟩)).put (d := 166) (v := .slice ao230 ((rAll (rMovT (rdT mx 16 200) (gtD (rAll (rdT mx 16 200)) k0) at_)).length) c231) (by decide)
       clear hF
       refine hS.opsC 6 [1, 1, 1, 1, 70, 0] [] fun _ => seg [(6, vb (((((rAll (rMovT (rdT mx 16 200) (gtD (rAll (rdT mx 16 200)) k0) at_)).length : Nat) : Int) : Int) == (((rAll (rdT mx 16 200)).length : Nat) : Int)))] [(0, none)] [.t true, .t true, .t true, .t true, .t true] trivial fun ac wd hS => ?_
       refine list_nil_seq ?_
       refine wp_ret ?_
       refine St.retC 0 hS (vb (((((rAll (rMovT (rdT mx 16 200) (gtD (rAll (rdT mx 16 200)) k0) at_)).length : Nat) : Int) : Int) == (((rAll (rdT mx 16 200)).length : Nat) : Int))) [] trivial fun hw => ?_
       refine ⟨retd (vbool ?_), hw.fr0⟩
       all_goals (first | rfl | (rw [hN3]; simp; done) | (simp; done))
     ·
      have ha : at_ < 1 := by have h9 := hb26; rw [hE] at h9; split at h9 <;> omega
      have hG := mv_was0 (h0 := (gtD (rAll (rdT mx 16 200)) k0)) i1.ok ha (by omega) j1
      refine wp_skip ?_
      refine pop_then ?_
      refine wp_seq ?_
      refine hS.regS [0, 0, 0] [8, 13, 15, 16, 17] fun _ => seg [(129, sc g217 o218 ((rAll (rdT mx 16 200)).length) c216), (130, vi (((rAll (rdT mx 16 200)).length : Nat) : Int)), (131, vi 0)] [(0, none), (1, none), (2, none)] [] trivial fun ac wd hS => ?_
      refine wp_block ?_
      refine St.loopC (σ := Int) (fun (x131 : Int) => ⟨[(8, [], pt (ν5 0) 0), (13, [], sc g217 o218 ((rAll (rdT mx 16 200)).length) c216), (15, [], vu (rNewV (rdT mx 16 200) 1)), (16, [], vi (rNewE (rdT mx 16 200) 1)), (17, [], .map (some mp22)), (129, [], sc g217 o218 ((rAll (rdT mx 16 200)).length) c216), (130, [], vi (((rAll (rdT mx 16 200)).length : Nat) : Int)), (131, [], vi x131)], [(0, .fn 0 64 dbT), ((ν5 0), .cells [pt b'2 0, vi 16, vi 200] 111), (g217, .fn o218 (o218 + (rAll (rdT mx 16 200)).length) (u1V (gtD (rAll (rdT mx 16 200))) o218))], [arR b'2 F25 (hMvM mx 16 200 (gtD (rAll (rdT mx 16 200)) k0) at_), mpR (.int .u64) (vu : Int → Value) (vi : Int → Value) mp22 (one mp22) (nq, fq)], (0 ≤ x131 ∧ x131 ≤ (((rAll (rdT mx 16 200)).length : Nat) : Int)) ∧ True, (rAll (rdT mx 16 200)).length - Int.toNat x131⟩) 0 ⟨(by omega), trivial⟩ hS ?_
      clear hS
      rintro x131 ⟨q0, -⟩ ac wd hS
      replace q0 : 0 ≤ x131 ∧ x131 ≤ (((rAll (rdT mx 16 200)).length : Nat) : Int) := q0
      refine hS.regS [0] [8, 13, 15, 16, 17, 129, 130, 131] fun _ => seg [(132, vb (decide ((x131 : Int) < (((rAll (rdT mx 16 200)).length : Nat) : Int))))] [(0, none), (1, none), (2, none)] [] trivial fun ac wd hS => ?_
      refine wp_seq ?_
      refine hS.condC (decide ((x131 : Int) < (((rAll (rdT mx 16 200)).length : Nat) : Int))) (fun hb36o hb36 => ?_) (fun hb36o hb36 => ?_)
      ·
       have hGx := hG (Int.toNat x131) (by omega)
       refine wp_skip ?_
       refine pop_then ?_
       refine wp_seq ?_
       refine wp_block ?_
       refine hS.regS [20, fx 200 (vu ((gtD (rAll (rdT mx 16 200))) (Int.toNat x131))), 0] [8, 13, 15, 16, 17, 129, 130, 131] fun _ => seg [(22, vu ((gtD (rAll (rdT mx 16 200))) (Int.toNat x131)))] [(0, none), (1, none), (2, none)] [.p ((((u1V (gtD (rAll (rdT mx 16 200))) o218) (o218 + Int.toNat x131 * 1)) : Value) = vu ((gtD (rAll (rdT mx 16 200))) (Int.toNat x131))), .e g217, .p (o218 ≤ o218 + Int.toNat x131 * 1 ∧ o218 + Int.toNat x131 * 1 < (o218 + (rAll (rdT mx 16 200)).length)), .p ((0 : Int) ≤ x131 ∧ (x131 : Int) < (((rAll (rdT mx 16 200)).length : Nat) : Int))] ⟨((u1V_0 (gtD (rAll (rdT mx 16 200))) o218 (Int.toNat x131))), (by omega), (by omega), trivial⟩ fun ac wd hS => ?_
       refine wp_region_seq ?_
       refine hS.opsC 2 [100, 0] [8, 13, 15, 16, 17, 22, 129, 130, 131] fun _ => seg [(136, .agg #[pt b'2 0, vi 16, vi 200]), (137, vu ((gtD (rAll (rdT mx 16 200))) (Int.toNat x131)))] [(0, none), (1, none), (2, none)] [.e (ν5 0), .e (ν5 0), .e (ν5 0)] trivial fun ac wd hS => ?_
       refine hS.call0 69 #[.agg #[pt b'2 0, vi 16, vi 200], vu ((gtD (rAll (rdT mx 16 200))) (Int.toNat x131))] 138 (h_Get_r b'2 F25 (hMvM mx 16 200 (gtD (rAll (rdT mx 16 200)) k0) at_) 16 200 ((gtD (rAll (rdT mx 16 200))) (Int.toNat x131)) (rMovT (rdT mx 16 200) (gtD (rAll (rdT mx 16 200)) k0) at_) _ (hS.mem.res 0) (by first | exact i1 | exact hR2) (by exact rAll_rng i1.ok (by omega))) fun ac wd hS => ?_
       refine hS.opsC 5 [0, 0, 0, 0, 0] [8, 13, 15, 16, 17, 22, 129, 130, 131] fun _ => seg [(23, vi (rGetA (rMovT (rdT mx 16 200) (gtD (rAll (rdT mx 16 200)) k0) at_) ((gtD (rAll (rdT mx 16 200))) (Int.toNat x131)))), (24, vi (rGetE (rMovT (rdT mx 16 200) (gtD (rAll (rdT mx 16 200)) k0) at_) ((gtD (rAll (rdT mx 16 200))) (Int.toNat x131))))] [(0, none), (1, none), (2, none)] [] trivial fun ac wd hS => ?_
       refine list_nil_seq ?_
       refine wp_region_seq ?_
       refine hS.opsC 3 [0, 0, 0] [8, 13, 15, 16, 17, 22, 23, 129, 130, 131] fun _ => seg [(143, vb (((rGetE (rMovT (rdT mx 16 200) (gtD (rAll (rdT mx 16 200)) k0) at_) ((gtD (rAll (rdT mx 16 200))) (Int.toNat x131))) : Int) != 0))] [(0, none), (1, none), (2, none)] [] trivial fun ac wd hS => ?_
       have hg37o : (((rGetE (rMovT (rdT mx 16 200) (gtD (rAll (rdT mx 16 200)) k0) at_) ((gtD (rAll (rdT mx 16 200))) (Int.toNat x131))) : Int) != 0) = false := by (rw [hGx.1]; rfl)
       replace hS := hS.fix 143 (vb false) (congrArg Value.bool hg37o)
       refine hS.opsC 3 [1, 1, 1] [8, 13, 15, 16, 17, 129, 130, 131, 143] fun _ => seg [(144, vi (rGetA (rMovT (rdT mx 16 200) (gtD (rAll (rdT mx 16 200)) k0) at_) ((gtD (rAll (rdT mx 16 200))) (Int.toNat x131)))), (145, .map (some mp22)), (146, vu ((gtD (rAll (rdT mx 16 200))) (Int.toNat x131)))] [(0, none), (1, none), (2, none)] [.t false, .t false, .t false] trivial fun ac wd hS => ?_
       refine Runs1.listG hS 143 false ?_ (by decide)
       refine St.mapGet hS 123 (.tmp 145) (.tmp 146) rfl rfl (by decide) (dk := .int .u64) (ek := (vu : Int → Value)) (ev := (vi : Int → Value)) (b := mp22) (q := nq) (F := (one mp22)) (f := fq) 1 ((gtD (rAll (rdT mx 16 200))) (Int.toNat x131)) 0 (fun _ => rfl) (fun _ _ e_ => by injection e_) Tryd.underlying123 Tryd.underlying114 Tryd.zeroValue3 fun ac hS => ?_
       refine hS.opsC 2 [1, 60] [8, 13, 15, 16, 17, 129, 130, 131] fun _ => seg [(149, vb (((rGetA (rMovT (rdT mx 16 200) (gtD (rAll (rdT mx 16 200)) k0) at_) ((gtD (rAll (rdT mx 16 200))) (Int.toNat x131))) : Int) != ((fq ((gtD (rAll (rdT mx 16 200))) (Int.toNat x131))).getD 0)))] [(0, none), (1, none), (2, none)] [.t false, .t false] trivial fun ac wd hS => ?_
       refine list_nil_seq ?_
       refine hS.condK (((rGetA (rMovT (rdT mx 16 200) (gtD (rAll (rdT mx 16 200)) k0) at_) ((gtD (rAll (rdT mx 16 200))) (Int.toNat x131))) : Int) != ((fq ((gtD (rAll (rdT mx 16 200))) (Int.toNat x131))).getD 0)) false (by (rw [hGx.2]; simp)) ?_
       show Code.wp _ _ _ _ _
       refine wp_skip ?_
       refine pop_block ?_
       refine pop_then ?_
       refine hS.regC [20, 0] [8, 13, 15, 16, 17, 129, 130] fun _ => seg [(131, vi (x131 + 1))] [(0, none), (1, none), (2, none)] [.p (fit .i64 (x131 + 1))] ⟨fit_i64 (by omega), trivial⟩ fun ac wd hS => ?_
       exact pop_then (hS.next (x131 + 1) ⟨(by first | omega | assumption | (simp; done) | (simp; omega)), trivial⟩ (by dsimp only; omega))
      ·
       refine wp_exit ?_
       refine pop_then_exit ?_
       refine pop_then_exit ?_
       refine pop_block_hit ?_
       refine pop_then ?_
       refine wp_region_seq ?_
       refine hS.opsC 1 [100] [8, 13, 15, 16] fun _ => seg [(152, .agg #[pt b'2 0, vi 16, vi 200])] [(0, none), (1, none), (2, none)] [.e (ν5 0), .e (ν5 0), .e (ν5 0)] trivial fun ac wd hS => ?_
       refine hS.call0 68 #[.agg #[pt b'2 0, vi 16, vi 200]] 153 (h_Next_r b'2 F25 (hMvM mx 16 200 (gtD (rAll (rdT mx 16 200)) k0) at_) 16 200 (rMovT (rdT mx 16 200) (gtD (rAll (rdT mx 16 200)) k0) at_) _ (hS.mem.res 0) (by first | exact i1 | exact hR2)) fun ac wd hS => ?_
       refine hS.opsC 5 [0, 0, 0, 0, 0] [8, 13, 15, 16] fun _ => seg [(25, vu (rNewV (rMovT (rdT mx 16 200) (gtD (rAll (rdT mx 16 200)) k0) at_) 1)), (26, vi (rNewE (rMovT (rdT mx 16 200) (gtD (rAll (rdT mx 16 200)) k0) at_) 1))] [(0, none), (1, none), (2, none)] [] trivial fun ac wd hS => ?_
       refine list_nil_seq ?_
       refine wp_region_seq ?_
       refine hS.opsC 9 [0, 0, 0, 0, 3, 3, 3, 80, 0] [8, 13] fun _ => seg [(164, vb ((((rNewV (rMovT (rdT mx 16 200) (gtD (rAll (rdT mx 16 200)) k0) at_) 1) : Int) == (rNewV (rdT mx 16 200) 1)) && (((rNewE (rMovT (rdT mx 16 200) (gtD (rAll (rdT mx 16 200)) k0) at_) 1) : Int) == (rNewE (rdT mx 16 200) 1))))] [(0, none), (1, none), (2, none)] [] trivial fun ac wd hS => ?_
       have hg38o : ((((rNewV (rMovT (rdT mx 16 200) (gtD (rAll (rdT mx 16 200)) k0) at_) 1) : Int) == (rNewV (rdT mx 16 200) 1)) && (((rNewE (rMovT (rdT mx 16 200) (gtD (rAll (rdT mx 16 200)) k0) at_) 1) : Int) == (rNewE (rdT mx 16 200) 1))) = true := by (rw [hN1]; first | exact beq_self_eq_true _ | (rw [hN2]; simp; done))
       replace hS := hS.fix 164 (vb true) (congrArg Value.bool hg38o)
       refine hS.opsC 1 [101] [13, 164] fun _ => seg [(165, .agg #[pt b'2 0, vi 16, vi 200])] [(0, none), (2, none)] [.t true, .e (ν5 0), .e (ν5 0), .e (ν5 0)] trivial fun ac wd hS => ?_
       refine hS.callG true 65 #[.agg #[pt b'2 0, vi 16, vi 200]] (h_All_r b'2 F25 (hMvM mx 16 200 (gtD (rAll (rdT mx 16 200)) k0) at_) 16 200 (rMovT (rdT mx 16 200) (gtD (rAll (rdT mx 16 200)) k0) at_) _ (hS.mem.res 0) (hS.mem.get 0 0 (.fn 0 64 dbT)) (by first | exact i1 | exact hR2)) ?_
       rintro _ wd ⟨ao239, c240, g241, o242, rfl, hv243, hog0, hoh0, hF⟩
       have ho44 : g241 = 0 ∨ w.heap.size ≤ g241 := by have := hS.mem.fr.size; have : w.heap.size ≤ _ := this; omega
       refine ⟨.slice ao239 ((rAll (rMovT (rdT mx 16 200) (gtD (rAll (rdT mx 16 200)) k0) at_)).length) c240, rfl, ?_⟩
       replace hS := (hS.to (hS.mem.outs hF [(g241, .fn o242 (o242 + (rAll (rMovT (rdT mx 16 200) (gtD (rAll (rdT mx 16 200)) k0) at_)).length) (u1V (gtD (rAll (rMovT (rdT mx 16 200) (gtD (rAll (rdT mx 16 200)) k0) at_))) o242))] ⟨⟨rfl, hoh0, (fun q_ => q_.elim (fun e => .inl ⟨0, .fn 0 64 dbT, by rw [e]; as_aux_lemma => kernel_rfl, rfl⟩) (fun q_ => .inr q_)) hog0⟩, trivial⟩)).put (d := 166) (v := .slice ao239 ((rAll (rMovT (rdT mx 16 200) (gtD (rAll (rdT mx 16 200)) k0) at_)).length) c240) (by decide)
       clear hF
       refine hS.opsC 6 [1, 1, 1, 1, 70, 0] [] fun _ => seg [(6, vb (((((rAll (rMovT (rdT mx 16 200) (gtD (rAll (rdT mx 16 200)) k0) at_)).length : Nat) : Int) : Int) == (((rAll (rdT mx 16 200)).length : Nat) : Int)))] [(0, none)] [.t true, .t true, .t true, .t true, .t true] trivial fun ac wd hS => ?_
       refine list_nil_seq ?_
       refine wp_ret ?_
       refine St.retC 0 hS (vb (((((rAll (rMovT (rdT mx 16 200) (gtD (rAll (rdT mx 16 200)) k0) at_)).length : Nat) : Int) : Int) == (((rAll (rdT mx 16 200)).length : Nat) : Int))) [] trivial fun hw => ?_
       refine ⟨retd (vbool ?_), hw.fr0⟩
       all_goals (first | rfl | (rw [hN3]; simp; done) | (simp; done))

end Go.Proofs.YthgkiieenojcpaaDoor.K
