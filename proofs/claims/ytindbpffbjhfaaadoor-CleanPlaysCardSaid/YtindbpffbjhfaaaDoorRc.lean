/-
  Walks, printed by w2.py.
-/
import Derived.Test.YtindbpffbjhfaaaDoorRb
import Derived.Test.YtindbpffbjhfaaaDoorOz
import Derived.Test.YtindbpffbjhfaaaDoorProg
namespace Go.Proofs.YtindbpffbjhfaaaDoor.K
set_option linter.unusedVariables false
set_option linter.unusedSimpArgs false

set_option maxRecDepth 100000 in
set_option maxHeartbeats 1000000 in
theorem law21_CleanPlays (size : Int) (ao7 : Option Addr) (c7 : Nat) (g7 : Nat) (o7 : Nat) (l : List (Int × Int × Int × Int × Int)) (w : World) (hh0 : HE.holds w 1 (.fn 0 64 dbT)) (hh1 : HE.holds w g7 (.fn o7 (o7 + l.length * 5) (a21V (gtD l) o7))) (hv7 : (l.length = 0 ∨ ao7 = some ⟨g7, o7, none⟩)) (hsz : 0 ≤ size ∧ size ≤ 65535) (hA : ∀ i, i < l.length → rg_a21V (gtD l i)) :
    Calls Tryd.prog 10 #[.int .u16 size, .slice ao7 l.length c7] w fun e w' => e = .returned (vb true) ∧ Fr w w' no no := by
 refine enter (args := [.int .u16 size, .slice ao7 l.length c7]) (D := no) (A := []) Tryd.func10 rfl 153 rfl [(1, .fn 0 64 dbT), (g7, .fn o7 (o7 + l.length * 5) (a21V (gtD l) o7))] (WS.startL ⟨⟨rfl, hh0⟩, ⟨rfl, hh1⟩, trivial⟩) fun ac hS => ?_
 refine hS.regS [0] [0, 1] fun _ => seg [] [(0, none), (1, none)] [] trivial fun ac wd hS => ?_
 refine wp_seq ?_
 refine wp_region_seq ?_
 refine hS.call0 57 #[] 27 (law21_awake  _ (hS.mem.get 0 1 (.fn 0 64 dbT)) ) fun ac wd hS => ?_
 refine hS.opsC 1 [0] [0, 1] fun _ => seg [(28, vb false)] [(0, none), (1, none)] [] trivial fun ac wd hS => ?_
 refine list_nil_seq ?_
 refine hS.condF ?_
 refine wp_skip ?_
 refine pop_then ?_
 refine wp_seq ?_
 refine hS.regS [0, 0, 0] [0, 1] fun _ => seg [(31, vb (decide ((60 : Int) < ((l.length : Nat) : Int))))] [(0, none), (1, none)] [] trivial fun ac wd hS => ?_
 refine hS.condC (decide ((60 : Int) < ((l.length : Nat) : Int))) (fun hb1o hb1 => ?_) (fun hb1o hb1 => ?_)
 ·
  refine hS.regS [0] [] fun _ => seg [(4, vb true)] [(0, none)] [] trivial fun ac wd hS => ?_
  refine wp_ret ?_
  refine pop_then_ret ?_
  refine St.retC 0 hS (vb true) [] trivial fun hw => ?_
  refine ⟨retd rfl, hw.fr0⟩
 ·
  refine wp_skip ?_
  refine pop_then ?_
  refine hS.regS [0, 20, 20, 0] [1] fun _ => seg [(5, vi (size % 401))] [(0, none), (1, none)] [.p ((401 : Int) ≠ 0 ∧ Int.tmod size 401 = size % 401), .p (fit .i64 size)] ⟨rem2 (by omega) (by omega), fit_i64 (by omega), trivial⟩ fun ac wd hS => ?_
  obtain ⟨nn, nn_e⟩ : ∃ q_ : Int, q_ = (size % 401) := ⟨_, rfl⟩
  replace hS := hS.fix 5 (vi nn) (show (vi (size % 401) : Value) = vi nn by rw [nn_e])
  have hnn : 0 ≤ nn ∧ nn ≤ 400 := by omega
  clear nn_e
  refine wp_region_seq ?_
  refine hS.opsC 1 [0] [1, 5] fun _ => seg [(36, vi nn)] [(0, none), (1, none)] [] trivial fun ac wd hS => ?_
  refine hS.callC 58 #[vi nn] (law21_open nn _  (by omega)) ?_
  rintro _ wd ⟨b'2, F3, rfl, hN, hF⟩
  refine ⟨.tuple #[pt b'2 0, .agg #[pt b'2 0, vi 40, vi nn], vb true], rfl, ?_⟩
  replace hS := (hS.to (hS.mem.newA hN hF)).put (d := 37) (v := .tuple #[pt b'2 0, .agg #[pt b'2 0, vi 40, vi nn], vb true]) (by decide)
  clear hF
  refine hS.opsC 8 [0, 0, 0, 0, 0, 0, 200, 0] [1, 5] fun ν7 => seg [(6, pt b'2 0), (7, pt (ν7 0) 0), (8, vb true)] [(0, none), (1, none), (2, some ((ν7 0), .cells [pt b'2 0, vi 40, vi nn] 112))] [.e (ν7 0), .e (ν7 0), .e (ν7 0)] trivial fun ac wd hS => ?_
  refine list_nil_seq ?_
  refine wp_seq ?_
  refine hS.regS [0, 0] [1, 5, 6, 7] fun _ => seg [(42, vb false)] [(0, none), (1, none), (2, none)] [] trivial fun ac wd hS => ?_
  refine hS.condF ?_
  refine wp_skip ?_
  refine pop_then ?_
  refine hS.regS [0] [1, 5, 6, 7] fun _ => seg [(9, vnil)] [(0, none), (1, none), (2, none)] [] trivial fun ac wd hS => ?_
  refine wp_seq ?_
  refine hS.regS [0, 0, 0] [5, 6, 7, 9] fun _ => seg [(43, .slice ao7 l.length c7), (44, vi ((l.length : Nat) : Int)), (45, vi 0)] [(0, none), (1, none), (2, none)] [] trivial fun ac wd hS => ?_
  refine wp_block ?_
  have hZ : HLU (comM (AM.new 1) 0 1) 40 nn [] := HLU.zero (page_thr1 (by omega)) (comM_zero (fun _ => rfl) 0 1) (by decide) (by omega)
  replace hS := hS.to (hS.mem.addNone (b := 1) (lo := 0) (hi := 64) (f := dbT) (k := ([] : List (Int × Int × Int × Int)).length * 4) (f' := (entV (gtD ([] : List (Int × Int × Int × Int))) 0)) (o := 0) 0 rfl)
  refine St.loopC (σ := Int × (Nat → Prop) × AM × Option Addr × Nat × Nat × Nat × (List (Int × Int × Int × Int))) (fun (x : Int × (Nat → Prop) × AM × Option Addr × Nat × Nat × Nat × (List (Int × Int × Int × Int))) => match x with | (x45, Fx, mx, aoq, cq, gq, oq, lq) => ⟨[(5, [], vi nn), (6, [], pt b'2 0), (7, [], pt (ν7 0) 0), (9, [], .slice aoq lq.length cq), (43, [], .slice ao7 l.length c7), (44, [], vi ((l.length : Nat) : Int)), (45, [], vi x45)], [(1, .fn 0 64 dbT), (g7, .fn o7 (o7 + l.length * 5) (a21V (gtD l) o7)), ((ν7 0), .cells [pt b'2 0, vi 40, vi nn] 112), (gq, .fn oq (oq + lq.length * 4) (entV (gtD lq) oq))], [arR b'2 Fx mx], (0 ≤ x45 ∧ x45 ≤ ((l.length : Nat) : Int)) ∧ (HLU mx 40 nn lq) ∧ (lq.length = 0 ∨ aoq = some ⟨gq, oq, none⟩) ∧ True, l.length - Int.toNat x45⟩) (0, F3, (comM (AM.new 1) 0 1), none, 0, 1, 0, ([] : List (Int × Int × Int × Int))) ⟨(by omega), (by exact hZ), (by exact (.inl rfl)), trivial⟩ hS ?_
  clear hS
  rintro ⟨x45, Fx, mx, aoq, cq, gq, oq, lq⟩ ⟨i0, i1, hvq, -⟩ ac wd hS
  replace i0 : 0 ≤ x45 ∧ x45 ≤ ((l.length : Nat) : Int) := i0
  replace i1 : HLU mx 40 nn lq := i1
  replace hvq : lq.length = 0 ∨ aoq = some ⟨gq, oq, none⟩ := hvq
  refine hS.regS [0] [5, 6, 7, 9, 43, 44, 45] fun _ => seg [(46, vb (decide ((x45 : Int) < ((l.length : Nat) : Int))))] [(0, none), (1, none), (2, none), (3, none)] [] trivial fun ac wd hS => ?_
  refine wp_seq ?_
  refine hS.condC (decide ((x45 : Int) < ((l.length : Nat) : Int))) (fun hb4o hb4 => ?_) (fun hb4o hb4 => ?_)
  ·
   refine wp_skip ?_
   refine pop_then ?_
   refine wp_seq ?_
   refine wp_block ?_
   obtain rfl : ao7 = some ⟨g7, o7, none⟩ := Or.resolve_left hv7 (by omega)
   refine hS.regS [20, fx 100 (.agg #[v8 (((gtD l) (Int.toNat x45)).1), vu (((gtD l) (Int.toNat x45)).2.1), v8 (((gtD l) (Int.toNat x45)).2.2.1), v8 (((gtD l) (Int.toNat x45)).2.2.2.1), vu (((gtD l) (Int.toNat x45)).2.2.2.2)]), 0, 400] [5, 6, 7, 9, 43, 44, 45] fun ν12 => seg [(11, pt (ν12 0) 0)] [(0, none), (1, none), (2, none), (3, none), (4, some ((ν12 0), .cells [v8 (((gtD l) (Int.toNat x45)).1), vu (((gtD l) (Int.toNat x45)).2.1), v8 (((gtD l) (Int.toNat x45)).2.2.1), v8 (((gtD l) (Int.toNat x45)).2.2.2.1), vu (((gtD l) (Int.toNat x45)).2.2.2.2)] 119))] [.e (ν12 0), .e (ν12 0), .e (ν12 0), .e (ν12 0), .e (ν12 0), .p ((.agg #[((a21V (gtD l) o7) (o7 + Int.toNat x45 * 5)), ((a21V (gtD l) o7) (o7 + Int.toNat x45 * 5 + 1)), ((a21V (gtD l) o7) (o7 + Int.toNat x45 * 5 + 2)), ((a21V (gtD l) o7) (o7 + Int.toNat x45 * 5 + 3)), ((a21V (gtD l) o7) (o7 + Int.toNat x45 * 5 + 4))] : Value) = .agg #[v8 (((gtD l) (Int.toNat x45)).1), vu (((gtD l) (Int.toNat x45)).2.1), v8 (((gtD l) (Int.toNat x45)).2.2.1), v8 (((gtD l) (Int.toNat x45)).2.2.2.1), vu (((gtD l) (Int.toNat x45)).2.2.2.2)]), .e g7, .p (o7 ≤ o7 + Int.toNat x45 * 5 + 4 ∧ o7 + Int.toNat x45 * 5 + 4 < (o7 + l.length * 5)), .e g7, .p (o7 ≤ o7 + Int.toNat x45 * 5 + 3 ∧ o7 + Int.toNat x45 * 5 + 3 < (o7 + l.length * 5)), .e g7, .p (o7 ≤ o7 + Int.toNat x45 * 5 + 2 ∧ o7 + Int.toNat x45 * 5 + 2 < (o7 + l.length * 5)), .e g7, .p (o7 ≤ o7 + Int.toNat x45 * 5 + 1 ∧ o7 + Int.toNat x45 * 5 + 1 < (o7 + l.length * 5)), .e g7, .p (o7 ≤ o7 + Int.toNat x45 * 5 ∧ o7 + Int.toNat x45 * 5 < (o7 + l.length * 5)), .p ((0 : Int) ≤ x45 ∧ (x45 : Int) < ((l.length : Nat) : Int))] ⟨(agg5 (a21V_0 (gtD l) o7 (Int.toNat x45)) (a21V_1 (gtD l) o7 (Int.toNat x45)) (a21V_2 (gtD l) o7 (Int.toNat x45)) (a21V_3 (gtD l) o7 (Int.toNat x45)) (a21V_4 (gtD l) o7 (Int.toNat x45))), (by omega), (by omega), (by omega), (by omega), (by omega), (by omega), trivial⟩ fun ac wd hS => ?_
   refine wp_seq ?_
   obtain ⟨ad, ad_e⟩ : ∃ q_ : Int, q_ = ((gtD l) (Int.toNat x45)).1 := ⟨_, rfl⟩
   obtain ⟨ai, ai_e⟩ : ∃ q_ : Int, q_ = ((gtD l) (Int.toNat x45)).2.1 := ⟨_, rfl⟩
   obtain ⟨ak, ak_e⟩ : ∃ q_ : Int, q_ = ((gtD l) (Int.toNat x45)).2.2.1 := ⟨_, rfl⟩
   obtain ⟨al, al_e⟩ : ∃ q_ : Int, q_ = ((gtD l) (Int.toNat x45)).2.2.2.1 := ⟨_, rfl⟩
   obtain ⟨aa, aa_e⟩ : ∃ q_ : Int, q_ = ((gtD l) (Int.toNat x45)).2.2.2.2 := ⟨_, rfl⟩
   replace hS := hS.to (hS.mem.tell 4 (b := (ν12 0)) (x := (.cells [v8 (((gtD l) (Int.toNat x45)).1), vu (((gtD l) (Int.toNat x45)).2.1), v8 (((gtD l) (Int.toNat x45)).2.2.1), v8 (((gtD l) (Int.toNat x45)).2.2.2.1), vu (((gtD l) (Int.toNat x45)).2.2.2.2)] 119)) (.cells [v8 ad, vu ai, v8 ak, v8 al, vu aa] 119) (hh := fun h_ => by rw [ad_e, ai_e, ak_e, al_e, aa_e]; exact h_))
   have hac := hA _ (show Int.toNat x45 < l.length by omega)
   unfold rg_a21V at hac
   rw [← ad_e, ← ai_e, ← ak_e, ← al_e, ← aa_e] at hac
   clear ad_e ai_e ak_e al_e aa_e
   obtain ⟨hac1, hac2, hac3, hac4, hac5, _⟩ := hac
   have hen := And.intro hac2 (And.intro hac3 (And.intro hac4 hac5))
   have hl9 := i1.len
   refine hS.regS [0, 400, 20] [5, 6, 7, 9, 11, 43, 44, 45] fun _ => seg [(51, v8 (ad % 5))] [(0, none), (1, none), (2, none), (3, none), (4, none)] [.p ((5 : Int) ≠ 0 ∧ Int.tmod ad 5 = ad % 5), .e (ν12 0)] ⟨rem2 (by omega) (by omega), trivial⟩ fun ac wd hS => ?_
   refine wp_block ?_
   refine hS.regS [0, 0] [5, 6, 7, 9, 11, 43, 44, 45, 51] fun _ => seg [(69, vb (((ad % 5) : Int) == 3))] [(0, none), (1, none), (2, none), (3, none), (4, none)] [] trivial fun ac wd hS => ?_
   refine hS.condC (((ad % 5) : Int) == 3) (fun hb5o hb5 => ?_) (fun hb5o hb5 => ?_)
   ·
    refine wp_region_seq ?_
    refine hS.opsC 4 [200, 0, 0, 400] [5, 6, 7, 9, 11, 43, 44, 45] fun _ => seg [(72, .agg #[pt b'2 0, vi 40, vi nn]), (75, vu ai)] [(0, none), (1, none), (2, none), (3, none), (4, none)] [.e (ν12 0), .e (ν7 0), .e (ν7 0), .e (ν7 0)] trivial fun ac wd hS => ?_
    refine hS.callC 59 #[.agg #[pt b'2 0, vi 40, vi nn], vu ai] (cl_Kill_r b'2 Fx mx 40 nn ai lq _ (hS.mem.res 0) (by exact i1)) ?_
    rintro _ wd ⟨F6, rfl, hA, hF⟩
    refine ⟨.tuple #[.agg #[vu (((eKilV lq ai)).1), v8 (((eKilV lq ai)).2.1), v8 (((eKilV lq ai)).2.2.1), vu (((eKilV lq ai)).2.2.2)], vi (eKilE lq ai)], rfl, ?_⟩
    replace hS := (hS.to (hS.mem.stepA 0 rfl hA hF)).put (d := 76) (v := .tuple #[.agg #[vu (((eKilV lq ai)).1), v8 (((eKilV lq ai)).2.1), v8 (((eKilV lq ai)).2.2.1), vu (((eKilV lq ai)).2.2.2)], vi (eKilE lq ai)]) (by decide)
    clear hF
    refine hS.opsC 6 [0, 0, 0, 0, 500, 0] [5, 6, 7, 9, 11, 43, 44, 45] fun ν16 => seg [(12, pt (ν16 0) 0), (13, vi (eKilE lq ai))] [(0, none), (1, none), (2, none), (3, none), (4, none), (5, some ((ν16 0), .cells [vu (((eKilV lq ai)).1), v8 (((eKilV lq ai)).2.1), v8 (((eKilV lq ai)).2.2.1), vu (((eKilV lq ai)).2.2.2)] 117))] [.e (ν16 0), .e (ν16 0), .e (ν16 0), .e (ν16 0)] trivial fun ac wd hS => ?_
    refine list_nil_seq ?_
    refine wp_region_seq ?_
    refine hS.opsC 4 [0, 0, 0, 400] [5, 6, 7, 12, 13, 43, 44, 45] fun _ => seg [(80, .slice aoq lq.length cq), (83, vu ai)] [(0, none), (1, none), (2, none), (3, none), (5, none)] [.e (ν12 0)] trivial fun ac wd hS => ?_
    refine hS.callC 60 #[.slice aoq lq.length cq, vu ai] (r21_Kill aoq cq gq oq lq ai _ (hS.mem.get 0 1 (.fn 0 64 dbT)) (hS.mem.get 3 gq (.fn oq (oq + lq.length * 4) (entV (gtD lq) oq))) hvq (by first | assumption | omega | (simp_all; done) | (simp_all; omega))) ?_
    rintro _ wd ⟨ao27, c28, g29, o210, rfl, hv211, hog0, hoh0, hF⟩
    have ho12 : g29 = gq ∨ g29 = 1 ∨ w.heap.size ≤ g29 := by have := hS.mem.fr.size; have : w.heap.size ≤ _ := this; omega
    refine ⟨.tuple #[.slice ao27 ((eKilL lq ai).length) c28, .agg #[vu (((eKilV lq ai)).1), v8 (((eKilV lq ai)).2.1), v8 (((eKilV lq ai)).2.2.1), vu (((eKilV lq ai)).2.2.2)], vi (eKilE lq ai)], rfl, ?_⟩
    replace hS := (hS.to (hS.mem.outs hF [(g29, .fn o210 (o210 + (eKilL lq ai).length * 4) (entV (gtD (eKilL lq ai)) o210))] ⟨⟨rfl, hoh0, (fun q_ => q_.elim (fun e => .inl ⟨3, .fn oq (oq + lq.length * 4) (entV (gtD lq) oq), by rw [e]; as_aux_lemma => kernel_rfl, rfl⟩) (fun q_ => q_.elim (fun e => .inl ⟨0, .fn 0 64 dbT, by rw [e]; as_aux_lemma => kernel_rfl, rfl⟩) (fun q_ => .inr q_))) hog0⟩, trivial⟩)).put (d := 84) (v := .tuple #[.slice ao27 ((eKilL lq ai).length) c28, .agg #[vu (((eKilV lq ai)).1), v8 (((eKilV lq ai)).2.1), v8 (((eKilV lq ai)).2.2.1), vu (((eKilV lq ai)).2.2.2)], vi (eKilE lq ai)]) (by decide)
    clear hF
    refine hS.opsC 8 [0, 0, 0, 0, 0, 0, 600, 0] [5, 6, 7, 12, 13, 43, 44, 45] fun ν18 => seg [(14, .slice ao27 ((eKilL lq ai).length) c28), (15, pt (ν18 0) 0), (16, vi (eKilE lq ai))] [(0, none), (1, none), (2, none), (4, none), (5, none), (6, some ((ν18 0), .cells [vu (((eKilV lq ai)).1), v8 (((eKilV lq ai)).2.1), v8 (((eKilV lq ai)).2.2.1), vu (((eKilV lq ai)).2.2.2)] 122))] [.e (ν18 0), .e (ν18 0), .e (ν18 0), .e (ν18 0)] trivial fun ac wd hS => ?_
    refine list_nil_seq ?_
    refine wp_seq ?_
    refine wp_region_seq ?_
    refine hS.opsC 2 [300, 500] [5, 6, 7, 13, 14, 16, 43, 44, 45] fun _ => seg [(88, .agg #[vu (((eKilV lq ai)).1), v8 (((eKilV lq ai)).2.1), v8 (((eKilV lq ai)).2.2.1), vu (((eKilV lq ai)).2.2.2)]), (89, .agg #[vu (((eKilV lq ai)).1), v8 (((eKilV lq ai)).2.1), v8 (((eKilV lq ai)).2.2.1), vu (((eKilV lq ai)).2.2.2)])] [(0, none), (1, none), (2, none), (4, none)] [.e (ν18 0), .e (ν18 0), .e (ν18 0), .e (ν18 0), .e (ν16 0), .e (ν16 0), .e (ν16 0), .e (ν16 0)] trivial fun ac wd hS => ?_
    refine Runs1.list ?_
    refine St.binS hS .neq (.tmp 88) (.tmp 89) 122 122 rfl rfl (by decide) (xs := #[vu (((eKilV lq ai)).1), v8 (((eKilV lq ai)).2.1), v8 (((eKilV lq ai)).2.2.1), vu (((eKilV lq ai)).2.2.2)]) (ys := #[vu (((eKilV lq ai)).1), v8 (((eKilV lq ai)).2.1), v8 (((eKilV lq ai)).2.2.1), vu (((eKilV lq ai)).2.2.2)]) (r := vb (!(eqAll [((((eKilV lq ai)).1 : Int), (((eKilV lq ai)).1 : Int)), ((((eKilV lq ai)).2.1 : Int), (((eKilV lq ai)).2.1 : Int)), ((((eKilV lq ai)).2.2.1 : Int), (((eKilV lq ai)).2.2.1 : Int)), ((((eKilV lq ai)).2.2.2 : Int), (((eKilV lq ai)).2.2.2 : Int))]))) (fun w => run_neS (l := [((((eKilV lq ai)).1 : Int), (((eKilV lq ai)).1 : Int)), ((((eKilV lq ai)).2.1 : Int), (((eKilV lq ai)).2.1 : Int)), ((((eKilV lq ai)).2.2.1 : Int), (((eKilV lq ai)).2.2.1 : Int)), ((((eKilV lq ai)).2.2.2 : Int), (((eKilV lq ai)).2.2.2 : Int))]) w (by as_aux_lemma => kernel_rfl) (by as_aux_lemma => kernel_rfl) (by as_aux_lemma => kernel_rfl)) (by as_aux_lemma => kernel_rfl) fun ac hS => ?_
    replace hS := hS.fix 90 (vb false) (show (vb (!(eqAll [((((eKilV lq ai)).1 : Int), (((eKilV lq ai)).1 : Int)), ((((eKilV lq ai)).2.1 : Int), (((eKilV lq ai)).2.1 : Int)), ((((eKilV lq ai)).2.2.1 : Int), (((eKilV lq ai)).2.2.1 : Int)), ((((eKilV lq ai)).2.2.2 : Int), (((eKilV lq ai)).2.2.2 : Int))])) : Value) = vb false from vbool (by simp [eqAll]))
    refine hS.opsC 5 [0, 1, 1, fx 1 (vb false), 60] [5, 6, 7, 14, 43, 44, 45] fun _ => seg [(95, vb false)] [(0, none), (1, none), (2, none), (3, none)] [.t false, .t false, .p ((vb (((eKilE lq ai) : Int) != (eKilE lq ai)) : Value) = vb false), .t false, .t false] ⟨(congrArg Value.bool (bne_self_eq_false _)), trivial⟩ fun ac wd hS => ?_
    refine list_nil_seq ?_
    refine hS.condF ?_
    refine wp_skip ?_
    refine pop_then ?_
    refine hS.regC [0, 0] [5, 6, 7, 43, 44, 45] fun _ => seg [(9, .slice ao27 ((eKilL lq ai).length) c28)] [(0, none), (1, none), (2, none), (3, none)] [] trivial fun ac wd hS => ?_
    refine pop_block ?_
    refine pop_then ?_
    have hR9 : HLU (killM mx 40 nn ai) 40 nn (eKilL lq ai) := by first | exact (i1.kill ai).2.2 | exact i1.pop.2.2 | exact (i1.add hen).2 | exact i1
    have hl10 := hR9.len
    refine wp_region_seq ?_
    refine hS.opsC 1 [200] [5, 6, 7, 9, 43, 44, 45] fun _ => seg [(119, .agg #[pt b'2 0, vi 40, vi nn])] [(0, none), (1, none), (2, none), (3, none)] [.e (ν7 0), .e (ν7 0), .e (ν7 0)] trivial fun ac wd hS => ?_
    refine hS.callC 67 #[.agg #[pt b'2 0, vi 40, vi nn]] (cl_All_r b'2 F6 (killM mx 40 nn ai) 40 nn (eKilL lq ai) _ (hS.mem.res 0) (hS.mem.get 0 1 (.fn 0 64 dbT)) (by first | with_reducible assumption | exact i1)) ?_
    rintro _ wd ⟨ao213, c214, g215, o216, rfl, hv217, hog0, hoh0, hF⟩
    have ho18 : g215 = 1 ∨ w.heap.size ≤ g215 := by have := hS.mem.fr.size; have : w.heap.size ≤ _ := this; omega
    refine ⟨.slice ao213 ((eKilL lq ai).length) c214, rfl, ?_⟩
    replace hS := (hS.to (hS.mem.outs hF [(g215, .fn o216 (o216 + (eKilL lq ai).length * 4) (entV (gtD (eKilL lq ai)) o216))] ⟨⟨rfl, hoh0, (fun q_ => q_.elim (fun e => .inl ⟨0, .fn 0 64 dbT, by rw [e]; as_aux_lemma => kernel_rfl, rfl⟩) (fun q_ => .inr q_)) hog0⟩, trivial⟩)).put (d := 120) (v := .slice ao213 ((eKilL lq ai).length) c214) (by decide)
    clear hF
    refine hS.callC 66 #[.slice ao213 ((eKilL lq ai).length) c214] (l21_Of ao213 c214 g215 o216 (eKilL lq ai) _ (hS.mem.get 0 1 (.fn 0 64 dbT)) (hS.mem.get 4 g215 (.fn o216 (o216 + (eKilL lq ai).length * 4) (entV (gtD (eKilL lq ai)) o216))) hv217 (by first | assumption | omega | (simp_all; done) | (simp_all; omega))) ?_
    rintro _ wd ⟨ao219, c220, g221, o222, rfl, hv223, hog0, hoh0, hF⟩
    have ho24 : g221 = 1 ∨ w.heap.size ≤ g221 := by have := hS.mem.fr.size; have : w.heap.size ≤ _ := this; omega
    refine ⟨.slice ao219 ((eKilL lq ai).length) c220, rfl, ?_⟩
    replace hS := (hS.to (hS.mem.outs hF [(g221, .fn o222 (o222 + (eKilL lq ai).length * 4) (entV (gtD (eKilL lq ai)) o222))] ⟨⟨rfl, hoh0, (fun q_ => q_.elim (fun e => .inl ⟨0, .fn 0 64 dbT, by rw [e]; as_aux_lemma => kernel_rfl, rfl⟩) (fun q_ => .inr q_)) hog0⟩, trivial⟩)).put (d := 121) (v := .slice ao219 ((eKilL lq ai).length) c220) (by decide)
    clear hF
    refine hS.opsC 1 [0] [5, 6, 7, 9, 43, 44, 45, 121] fun _ => seg [(122, .slice ao27 ((eKilL lq ai).length) c28)] [(0, none), (1, none), (2, none), (3, none), (5, none)] [] trivial fun ac wd hS => ?_
    refine hS.call0 65 #[.slice ao219 ((eKilL lq ai).length) c220, .slice ao27 ((eKilL lq ai).length) c28] 123 (eq_ent ao219 c220 g221 o222 (eKilL lq ai) ao27 c28 g29 o210 _ (hS.mem.get 4 g221 (.fn o222 (o222 + (eKilL lq ai).length * 4) (entV (gtD (eKilL lq ai)) o222))) (hS.mem.get 3 g29 (.fn o210 (o210 + (eKilL lq ai).length * 4) (entV (gtD (eKilL lq ai)) o210))) hv223 hv211 (by first | assumption | omega | (simp_all; done) | (simp_all; omega))) fun ac wd hS => ?_
    refine hS.opsC 2 [0, 0] [5, 6, 7, 9, 43, 44, 45] fun _ => seg [(125, vb false)] [(0, none), (1, none), (2, none), (3, none)] [] trivial fun ac wd hS => ?_
    refine hS.opsC 1 [201] [5, 6, 7, 9, 43, 44, 45, 125] fun _ => seg [(126, .agg #[pt b'2 0, vi 40, vi nn])] [(0, none), (1, none), (2, none), (3, none)] [.t false, .e (ν7 0), .e (ν7 0), .e (ν7 0)] trivial fun ac wd hS => ?_
    refine hS.callG false 68 #[.agg #[pt b'2 0, vi 40, vi nn]] (cl_Room_r b'2 F6 (killM mx 40 nn ai) 40 nn (eKilL lq ai) _ (hS.mem.res 0) (by first | with_reducible assumption | exact i1)) ?_
    rintro _ wd ⟨rfl, hF⟩
    refine ⟨vi ((nn / 24) - (((eKilL lq ai).length : Nat) : Int)), rfl, ?_⟩
    replace hS := (hS.to (hS.mem.keep0 hF)).put (d := 127) (v := vi ((nn / 24) - (((eKilL lq ai).length : Nat) : Int))) (by decide)
    clear hF
    refine hS.opsC 7 [1, 21, 1, 1, 21, fx 1 (vb false), 60] [5, 6, 7, 9, 43, 44, 45] fun _ => seg [(134, vb false)] [(0, none), (1, none), (2, none), (3, none)] [.t false, .t false, .p ((vb ((((nn / 24) - (((eKilL lq ai).length : Nat) : Int)) : Int) != ((nn / 24) - (((eKilL lq ai).length : Nat) : Int))) : Value) = vb false), .t false, .p (fit .i64 ((nn / 24) - (((eKilL lq ai).length : Nat) : Int))), .t false, .t false, .t false, .p ((24 : Int) ≠ 0 ∧ IntKind.i64.wrap (Int.tdiv nn 24) = nn / 24), .t false] ⟨(congrArg Value.bool (bne_self_eq_false _)), fit_i64 (by omega), quo2 (by omega) (by omega) (by omega), trivial⟩ fun ac wd hS => ?_
    refine list_nil_seq ?_
    refine hS.condF ?_
    refine wp_skip ?_
    refine pop_block ?_
    refine pop_then ?_
    refine hS.regC [20, 0] [5, 6, 7, 9, 43, 44] fun _ => seg [(45, vi (x45 + 1))] [(0, none), (1, none), (2, none), (3, none)] [.p (fit .i64 (x45 + 1))] ⟨fit_i64 (by omega), trivial⟩ fun ac wd hS => ?_
    replace hS := hS.perm (H' := [(1, .fn 0 64 dbT), (g7, .fn o7 (o7 + l.length * 5) (a21V (gtD l) o7)), ((ν7 0), .cells [pt b'2 0, vi 40, vi nn] 112), (g29, .fn o210 (o210 + (eKilL lq ai).length * 4) (entV (gtD (eKilL lq ai)) o210))]) [0, 1, 2, 3] (by as_aux_lemma => kernel_rfl) (by decide)
    exact pop_then (hS.next ((x45 + 1), F6, (killM mx 40 nn ai), ao27, c28, g29, o210, (eKilL lq ai)) ⟨(by omega), (by exact hR9), (by exact hv211), trivial⟩ (by dsimp only; omega))
   ·
    refine hS.regS [0, 0] [5, 6, 7, 9, 11, 43, 44, 45] fun _ => seg [(97, vb (((ad % 5) : Int) == 4))] [(0, none), (1, none), (2, none), (3, none), (4, none)] [] trivial fun ac wd hS => ?_
    refine hS.condC (((ad % 5) : Int) == 4) (fun hb25o hb25 => ?_) (fun hb25o hb25 => ?_)
    ·
     refine wp_region_seq ?_
     refine hS.opsC 1 [200] [5, 6, 7, 9, 43, 44, 45] fun _ => seg [(100, .agg #[pt b'2 0, vi 40, vi nn])] [(0, none), (1, none), (2, none), (3, none)] [.e (ν7 0), .e (ν7 0), .e (ν7 0)] trivial fun ac wd hS => ?_
     refine hS.callC 61 #[.agg #[pt b'2 0, vi 40, vi nn]] (cl_Pop_r b'2 Fx mx 40 nn lq _ (hS.mem.res 0) (by exact i1)) ?_
     rintro _ wd ⟨F26, rfl, hA, hF⟩
     refine ⟨.tuple #[.agg #[vu (((ePopV lq)).1), v8 (((ePopV lq)).2.1), v8 (((ePopV lq)).2.2.1), vu (((ePopV lq)).2.2.2)], vb (ePopB lq)], rfl, ?_⟩
     replace hS := (hS.to (hS.mem.stepA 0 rfl hA hF)).put (d := 101) (v := .tuple #[.agg #[vu (((ePopV lq)).1), v8 (((ePopV lq)).2.1), v8 (((ePopV lq)).2.2.1), vu (((ePopV lq)).2.2.2)], vb (ePopB lq)]) (by decide)
     clear hF
     refine hS.opsC 6 [0, 0, 0, 0, 400, 0] [5, 6, 7, 9, 43, 44, 45] fun ν30 => seg [(17, pt (ν30 0) 0), (18, vb (ePopB lq))] [(0, none), (1, none), (2, none), (3, none), (4, some ((ν30 0), .cells [vu (((ePopV lq)).1), v8 (((ePopV lq)).2.1), v8 (((ePopV lq)).2.2.1), vu (((ePopV lq)).2.2.2)] 117))] [.e (ν30 0), .e (ν30 0), .e (ν30 0), .e (ν30 0)] trivial fun ac wd hS => ?_
     refine list_nil_seq ?_
     refine wp_region_seq ?_
     refine hS.opsC 1 [0] [5, 6, 7, 17, 18, 43, 44, 45] fun _ => seg [(105, .slice aoq lq.length cq)] [(0, none), (1, none), (2, none), (3, none), (4, none)] [] trivial fun ac wd hS => ?_
     refine hS.callC 62 #[.slice aoq lq.length cq] (r21_Pop aoq cq gq oq lq _ (hS.mem.get 0 1 (.fn 0 64 dbT)) (hS.mem.get 3 gq (.fn oq (oq + lq.length * 4) (entV (gtD lq) oq))) hvq (by first | assumption | omega | (simp_all; done) | (simp_all; omega))) ?_
     rintro _ wd ⟨ao227, c228, g229, o230, rfl, hv231, hog0, hoh0, hF⟩
     have ho32 : g229 = gq ∨ g229 = 1 ∨ w.heap.size ≤ g229 := by have := hS.mem.fr.size; have : w.heap.size ≤ _ := this; omega
     refine ⟨.tuple #[.slice ao227 ((ePopL lq).length) c228, .agg #[vu (((ePopV lq)).1), v8 (((ePopV lq)).2.1), v8 (((ePopV lq)).2.2.1), vu (((ePopV lq)).2.2.2)], vb (ePopB lq)], rfl, ?_⟩
     replace hS := (hS.to (hS.mem.outs hF [(g229, .fn o230 (o230 + (ePopL lq).length * 4) (entV (gtD (ePopL lq)) o230))] ⟨⟨rfl, hoh0, (fun q_ => q_.elim (fun e => .inl ⟨3, .fn oq (oq + lq.length * 4) (entV (gtD lq) oq), by rw [e]; as_aux_lemma => kernel_rfl, rfl⟩) (fun q_ => q_.elim (fun e => .inl ⟨0, .fn 0 64 dbT, by rw [e]; as_aux_lemma => kernel_rfl, rfl⟩) (fun q_ => .inr q_))) hog0⟩, trivial⟩)).put (d := 106) (v := .tuple #[.slice ao227 ((ePopL lq).length) c228, .agg #[vu (((ePopV lq)).1), v8 (((ePopV lq)).2.1), v8 (((ePopV lq)).2.2.1), vu (((ePopV lq)).2.2.2)], vb (ePopB lq)]) (by decide)
     clear hF
     refine hS.opsC 8 [0, 0, 0, 0, 0, 0, 600, 0] [5, 6, 7, 17, 18, 43, 44, 45] fun ν32 => seg [(19, .slice ao227 ((ePopL lq).length) c228), (20, pt (ν32 0) 0), (21, vb (ePopB lq))] [(0, none), (1, none), (2, none), (4, none), (5, none), (6, some ((ν32 0), .cells [vu (((ePopV lq)).1), v8 (((ePopV lq)).2.1), v8 (((ePopV lq)).2.2.1), vu (((ePopV lq)).2.2.2)] 122))] [.e (ν32 0), .e (ν32 0), .e (ν32 0), .e (ν32 0)] trivial fun ac wd hS => ?_
     refine list_nil_seq ?_
     refine wp_seq ?_
     refine wp_region_seq ?_
     refine hS.opsC 2 [300, 500] [5, 6, 7, 18, 19, 21, 43, 44, 45] fun _ => seg [(110, .agg #[vu (((ePopV lq)).1), v8 (((ePopV lq)).2.1), v8 (((ePopV lq)).2.2.1), vu (((ePopV lq)).2.2.2)]), (111, .agg #[vu (((ePopV lq)).1), v8 (((ePopV lq)).2.1), v8 (((ePopV lq)).2.2.1), vu (((ePopV lq)).2.2.2)])] [(0, none), (1, none), (2, none), (4, none)] [.e (ν32 0), .e (ν32 0), .e (ν32 0), .e (ν32 0), .e (ν30 0), .e (ν30 0), .e (ν30 0), .e (ν30 0)] trivial fun ac wd hS => ?_
     refine Runs1.list ?_
     refine St.binS hS .neq (.tmp 110) (.tmp 111) 122 122 rfl rfl (by decide) (xs := #[vu (((ePopV lq)).1), v8 (((ePopV lq)).2.1), v8 (((ePopV lq)).2.2.1), vu (((ePopV lq)).2.2.2)]) (ys := #[vu (((ePopV lq)).1), v8 (((ePopV lq)).2.1), v8 (((ePopV lq)).2.2.1), vu (((ePopV lq)).2.2.2)]) (r := vb (!(eqAll [((((ePopV lq)).1 : Int), (((ePopV lq)).1 : Int)), ((((ePopV lq)).2.1 : Int), (((ePopV lq)).2.1 : Int)), ((((ePopV lq)).2.2.1 : Int), (((ePopV lq)).2.2.1 : Int)), ((((ePopV lq)).2.2.2 : Int), (((ePopV lq)).2.2.2 : Int))]))) (fun w => run_neS (l := [((((ePopV lq)).1 : Int), (((ePopV lq)).1 : Int)), ((((ePopV lq)).2.1 : Int), (((ePopV lq)).2.1 : Int)), ((((ePopV lq)).2.2.1 : Int), (((ePopV lq)).2.2.1 : Int)), ((((ePopV lq)).2.2.2 : Int), (((ePopV lq)).2.2.2 : Int))]) w (by as_aux_lemma => kernel_rfl) (by as_aux_lemma => kernel_rfl) (by as_aux_lemma => kernel_rfl)) (by as_aux_lemma => kernel_rfl) fun ac hS => ?_
     replace hS := hS.fix 112 (vb false) (show (vb (!(eqAll [((((ePopV lq)).1 : Int), (((ePopV lq)).1 : Int)), ((((ePopV lq)).2.1 : Int), (((ePopV lq)).2.1 : Int)), ((((ePopV lq)).2.2.1 : Int), (((ePopV lq)).2.2.1 : Int)), ((((ePopV lq)).2.2.2 : Int), (((ePopV lq)).2.2.2 : Int))])) : Value) = vb false from vbool (by simp [eqAll]))
     refine hS.opsC 5 [0, 1, 1, fx 1 (vb false), 60] [5, 6, 7, 19, 43, 44, 45] fun _ => seg [(117, vb false)] [(0, none), (1, none), (2, none), (3, none)] [.t false, .t false, .p ((vb (!((ePopB lq) == (ePopB lq))) : Value) = vb false), .t false, .t false] ⟨(congrArg Value.bool (by simp)), trivial⟩ fun ac wd hS => ?_
     refine list_nil_seq ?_
     refine hS.condF ?_
     refine wp_skip ?_
     refine pop_then ?_
     refine hS.regC [0, 0] [5, 6, 7, 43, 44, 45] fun _ => seg [(9, .slice ao227 ((ePopL lq).length) c228)] [(0, none), (1, none), (2, none), (3, none)] [] trivial fun ac wd hS => ?_
     refine pop_block ?_
     refine pop_then ?_
     have hR9 : HLU (popM mx 40 nn) 40 nn (ePopL lq) := by first | exact (i1.kill ai).2.2 | exact i1.pop.2.2 | exact (i1.add hen).2 | exact i1
     have hl10 := hR9.len
     refine wp_region_seq ?_
     refine hS.opsC 1 [200] [5, 6, 7, 9, 43, 44, 45] fun _ => seg [(119, .agg #[pt b'2 0, vi 40, vi nn])] [(0, none), (1, none), (2, none), (3, none)] [.e (ν7 0), .e (ν7 0), .e (ν7 0)] trivial fun ac wd hS => ?_
     refine hS.callC 67 #[.agg #[pt b'2 0, vi 40, vi nn]] (cl_All_r b'2 F26 (popM mx 40 nn) 40 nn (ePopL lq) _ (hS.mem.res 0) (hS.mem.get 0 1 (.fn 0 64 dbT)) (by first | with_reducible assumption | exact i1)) ?_
     rintro _ wd ⟨ao233, c234, g235, o236, rfl, hv237, hog0, hoh0, hF⟩
     have ho38 : g235 = 1 ∨ w.heap.size ≤ g235 := by have := hS.mem.fr.size; have : w.heap.size ≤ _ := this; omega
     refine ⟨.slice ao233 ((ePopL lq).length) c234, rfl, ?_⟩
     replace hS := (hS.to (hS.mem.outs hF [(g235, .fn o236 (o236 + (ePopL lq).length * 4) (entV (gtD (ePopL lq)) o236))] ⟨⟨rfl, hoh0, (fun q_ => q_.elim (fun e => .inl ⟨0, .fn 0 64 dbT, by rw [e]; as_aux_lemma => kernel_rfl, rfl⟩) (fun q_ => .inr q_)) hog0⟩, trivial⟩)).put (d := 120) (v := .slice ao233 ((ePopL lq).length) c234) (by decide)
     clear hF
     refine hS.callC 66 #[.slice ao233 ((ePopL lq).length) c234] (l21_Of ao233 c234 g235 o236 (ePopL lq) _ (hS.mem.get 0 1 (.fn 0 64 dbT)) (hS.mem.get 4 g235 (.fn o236 (o236 + (ePopL lq).length * 4) (entV (gtD (ePopL lq)) o236))) hv237 (by first | assumption | omega | (simp_all; done) | (simp_all; omega))) ?_
     rintro _ wd ⟨ao239, c240, g241, o242, rfl, hv243, hog0, hoh0, hF⟩
     have ho44 : g241 = 1 ∨ w.heap.size ≤ g241 := by have := hS.mem.fr.size; have : w.heap.size ≤ _ := this; omega
     refine ⟨.slice ao239 ((ePopL lq).length) c240, rfl, ?_⟩
     replace hS := (hS.to (hS.mem.outs hF [(g241, .fn o242 (o242 + (ePopL lq).length * 4) (entV (gtD (ePopL lq)) o242))] ⟨⟨rfl, hoh0, (fun q_ => q_.elim (fun e => .inl ⟨0, .fn 0 64 dbT, by rw [e]; as_aux_lemma => kernel_rfl, rfl⟩) (fun q_ => .inr q_)) hog0⟩, trivial⟩)).put (d := 121) (v := .slice ao239 ((ePopL lq).length) c240) (by decide)
     clear hF
     refine hS.opsC 1 [0] [5, 6, 7, 9, 43, 44, 45, 121] fun _ => seg [(122, .slice ao227 ((ePopL lq).length) c228)] [(0, none), (1, none), (2, none), (3, none), (5, none)] [] trivial fun ac wd hS => ?_
     refine hS.call0 65 #[.slice ao239 ((ePopL lq).length) c240, .slice ao227 ((ePopL lq).length) c228] 123 (eq_ent ao239 c240 g241 o242 (ePopL lq) ao227 c228 g229 o230 _ (hS.mem.get 4 g241 (.fn o242 (o242 + (ePopL lq).length * 4) (entV (gtD (ePopL lq)) o242))) (hS.mem.get 3 g229 (.fn o230 (o230 + (ePopL lq).length * 4) (entV (gtD (ePopL lq)) o230))) hv243 hv231 (by first | assumption | omega | (simp_all; done) | (simp_all; omega))) fun ac wd hS => ?_
     refine hS.opsC 2 [0, 0] [5, 6, 7, 9, 43, 44, 45] fun _ => seg [(125, vb false)] [(0, none), (1, none), (2, none), (3, none)] [] trivial fun ac wd hS => ?_
     refine hS.opsC 1 [201] [5, 6, 7, 9, 43, 44, 45, 125] fun _ => seg [(126, .agg #[pt b'2 0, vi 40, vi nn])] [(0, none), (1, none), (2, none), (3, none)] [.t false, .e (ν7 0), .e (ν7 0), .e (ν7 0)] trivial fun ac wd hS => ?_
     refine hS.callG false 68 #[.agg #[pt b'2 0, vi 40, vi nn]] (cl_Room_r b'2 F26 (popM mx 40 nn) 40 nn (ePopL lq) _ (hS.mem.res 0) (by first | with_reducible assumption | exact i1)) ?_
     rintro _ wd ⟨rfl, hF⟩
     refine ⟨vi ((nn / 24) - (((ePopL lq).length : Nat) : Int)), rfl, ?_⟩
     replace hS := (hS.to (hS.mem.keep0 hF)).put (d := 127) (v := vi ((nn / 24) - (((ePopL lq).length : Nat) : Int))) (by decide)
     clear hF
     refine hS.opsC 7 [1, 21, 1, 1, 21, fx 1 (vb false), 60] [5, 6, 7, 9, 43, 44, 45] fun _ => seg [(134, vb false)] [(0, none), (1, none), (2, none), (3, none)] [.t false, .t false, .p ((vb ((((nn / 24) - (((ePopL lq).length : Nat) : Int)) : Int) != ((nn / 24) - (((ePopL lq).length : Nat) : Int))) : Value) = vb false), .t false, .p (fit .i64 ((nn / 24) - (((ePopL lq).length : Nat) : Int))), .t false, .t false, .t false, .p ((24 : Int) ≠ 0 ∧ IntKind.i64.wrap (Int.tdiv nn 24) = nn / 24), .t false] ⟨(congrArg Value.bool (bne_self_eq_false _)), fit_i64 (by omega), quo2 (by omega) (by omega) (by omega), trivial⟩ fun ac wd hS => ?_
     refine list_nil_seq ?_
     refine hS.condF ?_
     refine wp_skip ?_
     refine pop_block ?_
     refine pop_then ?_
     refine hS.regC [20, 0] [5, 6, 7, 9, 43, 44] fun _ => seg [(45, vi (x45 + 1))] [(0, none), (1, none), (2, none), (3, none)] [.p (fit .i64 (x45 + 1))] ⟨fit_i64 (by omega), trivial⟩ fun ac wd hS => ?_
     replace hS := hS.perm (H' := [(1, .fn 0 64 dbT), (g7, .fn o7 (o7 + l.length * 5) (a21V (gtD l) o7)), ((ν7 0), .cells [pt b'2 0, vi 40, vi nn] 112), (g229, .fn o230 (o230 + (ePopL lq).length * 4) (entV (gtD (ePopL lq)) o230))]) [0, 1, 2, 3] (by as_aux_lemma => kernel_rfl) (by decide)
     exact pop_then (hS.next ((x45 + 1), F26, (popM mx 40 nn), ao227, c228, g229, o230, (ePopL lq)) ⟨(by omega), (by exact hR9), (by exact hv231), trivial⟩ (by dsimp only; omega))
    ·
     refine wp_region_seq ?_
     refine hS.opsC 3 [200, 0, 400] [5, 6, 7, 9, 11, 43, 44, 45] fun _ => seg [(52, .agg #[pt b'2 0, vi 40, vi nn]), (54, .agg #[vu ai, v8 ak, v8 al, vu aa])] [(0, none), (1, none), (2, none), (3, none), (4, none)] [.e (ν12 0), .e (ν12 0), .e (ν12 0), .e (ν12 0), .e (ν7 0), .e (ν7 0), .e (ν7 0)] trivial fun ac wd hS => ?_
     refine hS.callC 63 #[.agg #[pt b'2 0, vi 40, vi nn], .agg #[vu ai, v8 ak, v8 al, vu aa]] (cl_Add_r b'2 Fx mx 40 nn ai ak al aa lq _ (hS.mem.res 0) (by exact i1) (by first | assumption | omega | (simp_all; done) | (simp_all; omega))) ?_
     rintro _ wd ⟨F45, rfl, hA, hF⟩
     refine ⟨vi (eAddE lq (nn / 24) ai), rfl, ?_⟩
     replace hS := (hS.to (hS.mem.stepA 0 rfl hA hF)).put (d := 55) (v := vi (eAddE lq (nn / 24) ai)) (by decide)
     clear hF
     refine hS.opsC 1 [0] [5, 6, 7, 9, 11, 43, 44, 45] fun _ => seg [(22, vi (eAddE lq (nn / 24) ai))] [(0, none), (1, none), (2, none), (3, none), (4, none)] [] trivial fun ac wd hS => ?_
     refine list_nil_seq ?_
     refine wp_region_seq ?_
     refine hS.opsC 5 [0, 0, 20, 0, 400] [5, 6, 7, 22, 43, 44, 45] fun _ => seg [(57, .slice aoq lq.length cq), (59, vi (nn / 24)), (61, .agg #[vu ai, v8 ak, v8 al, vu aa])] [(0, none), (1, none), (2, none), (3, none)] [.e (ν12 0), .e (ν12 0), .e (ν12 0), .e (ν12 0), .p ((24 : Int) ≠ 0 ∧ IntKind.i64.wrap (Int.tdiv nn 24) = nn / 24)] ⟨quo2 (by omega) (by omega) (by omega), trivial⟩ fun ac wd hS => ?_
     refine hS.callC 64 #[.slice aoq lq.length cq, vi (nn / 24), .agg #[vu ai, v8 ak, v8 al, vu aa]] (r21_Add aoq cq gq oq lq (nn / 24) ai ak al aa _ (hS.mem.get 0 1 (.fn 0 64 dbT)) (hS.mem.get 3 gq (.fn oq (oq + lq.length * 4) (entV (gtD lq) oq))) hvq (by first | assumption | omega | (simp_all; done) | (simp_all; omega))) ?_
     rintro _ wd ⟨ao246, c247, g248, o249, rfl, hv250, hog0, hoh0, hF⟩
     have ho51 : g248 = gq ∨ g248 = 1 ∨ w.heap.size ≤ g248 := by have := hS.mem.fr.size; have : w.heap.size ≤ _ := this; omega
     refine ⟨.tuple #[.slice ao246 ((eAddL lq (nn / 24) ai ak al aa).length) c247, vi (eAddE lq (nn / 24) ai)], rfl, ?_⟩
     replace hS := (hS.to (hS.mem.outs hF [(g248, .fn o249 (o249 + (eAddL lq (nn / 24) ai ak al aa).length * 4) (entV (gtD (eAddL lq (nn / 24) ai ak al aa)) o249))] ⟨⟨rfl, hoh0, (fun q_ => q_.elim (fun e => .inl ⟨3, .fn oq (oq + lq.length * 4) (entV (gtD lq) oq), by rw [e]; as_aux_lemma => kernel_rfl, rfl⟩) (fun q_ => q_.elim (fun e => .inl ⟨0, .fn 0 64 dbT, by rw [e]; as_aux_lemma => kernel_rfl, rfl⟩) (fun q_ => .inr q_))) hog0⟩, trivial⟩)).put (d := 62) (v := .tuple #[.slice ao246 ((eAddL lq (nn / 24) ai ak al aa).length) c247, vi (eAddE lq (nn / 24) ai)]) (by decide)
     clear hF
     refine hS.opsC 5 [0, 0, 0, 0, 0] [5, 6, 7, 22, 43, 44, 45] fun _ => seg [(23, .slice ao246 ((eAddL lq (nn / 24) ai ak al aa).length) c247), (24, vi (eAddE lq (nn / 24) ai))] [(0, none), (1, none), (2, none), (4, none)] [] trivial fun ac wd hS => ?_
     refine list_nil_seq ?_
     refine wp_seq ?_
     refine hS.regS [0, 0, fx 0 (vb false)] [5, 6, 7, 23, 43, 44, 45] fun _ => seg [(67, vb false)] [(0, none), (1, none), (2, none), (3, none)] [.p ((vb (((eAddE lq (nn / 24) ai) : Int) != (eAddE lq (nn / 24) ai)) : Value) = vb false)] ⟨(congrArg Value.bool (bne_self_eq_false _)), trivial⟩ fun ac wd hS => ?_
     refine hS.condF ?_
     refine wp_skip ?_
     refine pop_then ?_
     refine hS.regC [0, 0] [5, 6, 7, 43, 44, 45] fun _ => seg [(9, .slice ao246 ((eAddL lq (nn / 24) ai ak al aa).length) c247)] [(0, none), (1, none), (2, none), (3, none)] [] trivial fun ac wd hS => ?_
     refine pop_block ?_
     refine pop_then ?_
     have hR9 : HLU (addM mx 40 nn ai ak al aa) 40 nn (eAddL lq (nn / 24) ai ak al aa) := by first | exact (i1.kill ai).2.2 | exact i1.pop.2.2 | exact (i1.add hen).2 | exact i1
     have hl10 := hR9.len
     refine wp_region_seq ?_
     refine hS.opsC 1 [200] [5, 6, 7, 9, 43, 44, 45] fun _ => seg [(119, .agg #[pt b'2 0, vi 40, vi nn])] [(0, none), (1, none), (2, none), (3, none)] [.e (ν7 0), .e (ν7 0), .e (ν7 0)] trivial fun ac wd hS => ?_
     refine hS.callC 67 #[.agg #[pt b'2 0, vi 40, vi nn]] (cl_All_r b'2 F45 (addM mx 40 nn ai ak al aa) 40 nn (eAddL lq (nn / 24) ai ak al aa) _ (hS.mem.res 0) (hS.mem.get 0 1 (.fn 0 64 dbT)) (by first | with_reducible assumption | exact i1)) ?_
     rintro _ wd ⟨ao252, c253, g254, o255, rfl, hv256, hog0, hoh0, hF⟩
     have ho57 : g254 = 1 ∨ w.heap.size ≤ g254 := by have := hS.mem.fr.size; have : w.heap.size ≤ _ := this; omega
     refine ⟨.slice ao252 ((eAddL lq (nn / 24) ai ak al aa).length) c253, rfl, ?_⟩
     replace hS := (hS.to (hS.mem.outs hF [(g254, .fn o255 (o255 + (eAddL lq (nn / 24) ai ak al aa).length * 4) (entV (gtD (eAddL lq (nn / 24) ai ak al aa)) o255))] ⟨⟨rfl, hoh0, (fun q_ => q_.elim (fun e => .inl ⟨0, .fn 0 64 dbT, by rw [e]; as_aux_lemma => kernel_rfl, rfl⟩) (fun q_ => .inr q_)) hog0⟩, trivial⟩)).put (d := 120) (v := .slice ao252 ((eAddL lq (nn / 24) ai ak al aa).length) c253) (by decide)
     clear hF
     refine hS.callC 66 #[.slice ao252 ((eAddL lq (nn / 24) ai ak al aa).length) c253] (l21_Of ao252 c253 g254 o255 (eAddL lq (nn / 24) ai ak al aa) _ (hS.mem.get 0 1 (.fn 0 64 dbT)) (hS.mem.get 4 g254 (.fn o255 (o255 + (eAddL lq (nn / 24) ai ak al aa).length * 4) (entV (gtD (eAddL lq (nn / 24) ai ak al aa)) o255))) hv256 (by first | assumption | omega | (simp_all; done) | (simp_all; omega))) ?_
     rintro _ wd ⟨ao258, c259, g260, o261, rfl, hv262, hog0, hoh0, hF⟩
     have ho63 : g260 = 1 ∨ w.heap.size ≤ g260 := by have := hS.mem.fr.size; have : w.heap.size ≤ _ := this; omega
     refine ⟨.slice ao258 ((eAddL lq (nn / 24) ai ak al aa).length) c259, rfl, ?_⟩
     replace hS := (hS.to (hS.mem.outs hF [(g260, .fn o261 (o261 + (eAddL lq (nn / 24) ai ak al aa).length * 4) (entV (gtD (eAddL lq (nn / 24) ai ak al aa)) o261))] ⟨⟨rfl, hoh0, (fun q_ => q_.elim (fun e => .inl ⟨0, .fn 0 64 dbT, by rw [e]; as_aux_lemma => kernel_rfl, rfl⟩) (fun q_ => .inr q_)) hog0⟩, trivial⟩)).put (d := 121) (v := .slice ao258 ((eAddL lq (nn / 24) ai ak al aa).length) c259) (by decide)
     clear hF
     refine hS.opsC 1 [0] [5, 6, 7, 9, 43, 44, 45, 121] fun _ => seg [(122, .slice ao246 ((eAddL lq (nn / 24) ai ak al aa).length) c247)] [(0, none), (1, none), (2, none), (3, none), (5, none)] [] trivial fun ac wd hS => ?_
     refine hS.call0 65 #[.slice ao258 ((eAddL lq (nn / 24) ai ak al aa).length) c259, .slice ao246 ((eAddL lq (nn / 24) ai ak al aa).length) c247] 123 (eq_ent ao258 c259 g260 o261 (eAddL lq (nn / 24) ai ak al aa) ao246 c247 g248 o249 _ (hS.mem.get 4 g260 (.fn o261 (o261 + (eAddL lq (nn / 24) ai ak al aa).length * 4) (entV (gtD (eAddL lq (nn / 24) ai ak al aa)) o261))) (hS.mem.get 3 g248 (.fn o249 (o249 + (eAddL lq (nn / 24) ai ak al aa).length * 4) (entV (gtD (eAddL lq (nn / 24) ai ak al aa)) o249))) hv262 hv250 (by first | assumption | omega | (simp_all; done) | (simp_all; omega))) fun ac wd hS => ?_
     refine hS.opsC 2 [0, 0] [5, 6, 7, 9, 43, 44, 45] fun _ => seg [(125, vb false)] [(0, none), (1, none), (2, none), (3, none)] [] trivial fun ac wd hS => ?_
     refine hS.opsC 1 [201] [5, 6, 7, 9, 43, 44, 45, 125] fun _ => seg [(126, .agg #[pt b'2 0, vi 40, vi nn])] [(0, none), (1, none), (2, none), (3, none)] [.t false, .e (ν7 0), .e (ν7 0), .e (ν7 0)] trivial fun ac wd hS => ?_
     refine hS.callG false 68 #[.agg #[pt b'2 0, vi 40, vi nn]] (cl_Room_r b'2 F45 (addM mx 40 nn ai ak al aa) 40 nn (eAddL lq (nn / 24) ai ak al aa) _ (hS.mem.res 0) (by first | with_reducible assumption | exact i1)) ?_
     rintro _ wd ⟨rfl, hF⟩
     refine ⟨vi ((nn / 24) - (((eAddL lq (nn / 24) ai ak al aa).length : Nat) : Int)), rfl, ?_⟩
     replace hS := (hS.to (hS.mem.keep0 hF)).put (d := 127) (v := vi ((nn / 24) - (((eAddL lq (nn / 24) ai ak al aa).length : Nat) : Int))) (by decide)
     clear hF
     refine hS.opsC 7 [1, 21, 1, 1, 21, fx 1 (vb false), 60] [5, 6, 7, 9, 43, 44, 45] fun _ => seg [(134, vb false)] [(0, none), (1, none), (2, none), (3, none)] [.t false, .t false, .p ((vb ((((nn / 24) - (((eAddL lq (nn / 24) ai ak al aa).length : Nat) : Int)) : Int) != ((nn / 24) - (((eAddL lq (nn / 24) ai ak al aa).length : Nat) : Int))) : Value) = vb false), .t false, .p (fit .i64 ((nn / 24) - (((eAddL lq (nn / 24) ai ak al aa).length : Nat) : Int))), .t false, .t false, .t false, .p ((24 : Int) ≠ 0 ∧ IntKind.i64.wrap (Int.tdiv nn 24) = nn / 24), .t false] ⟨(congrArg Value.bool (bne_self_eq_false _)), fit_i64 (by omega), quo2 (by omega) (by omega) (by omega), trivial⟩ fun ac wd hS => ?_
     refine list_nil_seq ?_
     refine hS.condF ?_
     refine wp_skip ?_
     refine pop_block ?_
     refine pop_then ?_
     refine hS.regC [20, 0] [5, 6, 7, 9, 43, 44] fun _ => seg [(45, vi (x45 + 1))] [(0, none), (1, none), (2, none), (3, none)] [.p (fit .i64 (x45 + 1))] ⟨fit_i64 (by omega), trivial⟩ fun ac wd hS => ?_
     replace hS := hS.perm (H' := [(1, .fn 0 64 dbT), (g7, .fn o7 (o7 + l.length * 5) (a21V (gtD l) o7)), ((ν7 0), .cells [pt b'2 0, vi 40, vi nn] 112), (g248, .fn o249 (o249 + (eAddL lq (nn / 24) ai ak al aa).length * 4) (entV (gtD (eAddL lq (nn / 24) ai ak al aa)) o249))]) [0, 1, 2, 3] (by as_aux_lemma => kernel_rfl) (by decide)
     exact pop_then (hS.next ((x45 + 1), F45, (addM mx 40 nn ai ak al aa), ao246, c247, g248, o249, (eAddL lq (nn / 24) ai ak al aa)) ⟨(by omega), (by exact hR9), (by exact hv250), trivial⟩ (by dsimp only; omega))
  ·
   refine wp_exit ?_
   refine pop_then_exit ?_
   refine pop_then_exit ?_
   refine pop_block_hit ?_
   refine pop_then ?_
   have hl10 := i1.len
   refine wp_region_seq ?_
   refine hS.opsC 1 [0] [5, 9] fun _ => seg [(137, pt b'2 0)] [(0, none), (3, none)] [] trivial fun ac wd hS => ?_
   refine hS.callC 29 #[pt b'2 0] (ar_Clone b'2 Fx mx _ (hS.mem.res 0) ) ?_
   rintro _ wd ⟨b'64, F65, rfl, hN, hF⟩
   refine ⟨pt b'64 0, rfl, ?_⟩
   replace hS := (hS.to (hS.mem.stepA 0 (r' := arR b'64 F65 mx) rfl hN hF)).put (d := 138) (v := pt b'64 0) (by decide)
   clear hF
   refine hS.opsC 1 [0] [9, 138] fun _ => seg [(139, vi nn)] [(0, none), (1, none)] [] trivial fun ac wd hS => ?_
   refine hS.call0 28 #[pt b'64 0, vi 40, vi nn] 140 (vw_Of b'64 F65 mx 40 nn _ (hS.mem.res 0) (by exact i1.hl.slots.there)) fun ac wd hS => ?_
   refine hS.opsC 6 [0, 0, 0, 0, 200, 0] [9] fun ν56 => seg [(25, pt (ν56 0) 0), (26, vi 0)] [(0, none), (1, none), (2, some ((ν56 0), .cells [pt b'64 0, vi 40, vi nn] 25))] [.e (ν56 0), .e (ν56 0), .e (ν56 0)] trivial fun ac wd hS => ?_
   refine list_nil_seq ?_
   refine wp_region_seq ?_
   refine hS.opsC 3 [0, 0, 0] [9, 25] fun _ => seg [(145, vb true)] [(0, none), (1, none), (2, none)] [] trivial fun ac wd hS => ?_
   refine hS.opsC 1 [201] [9, 145] fun _ => seg [(146, .agg #[pt b'64 0, vi 40, vi nn])] [(0, none), (1, none)] [.t true, .e (ν56 0), .e (ν56 0), .e (ν56 0)] trivial fun ac wd hS => ?_
   refine hS.callG true 69 #[.agg #[pt b'64 0, vi 40, vi nn]] (cl_Open b'64 40 nn _  ) ?_
   rintro _ wd ⟨rfl, hF⟩
   refine ⟨.agg #[pt b'64 0, vi 40, vi nn], rfl, ?_⟩
   replace hS := (hS.to (hS.mem.keep0 hF)).put (d := 147) (v := .agg #[pt b'64 0, vi 40, vi nn]) (by decide)
   clear hF
   refine hS.callG true 67 #[.agg #[pt b'64 0, vi 40, vi nn]] (cl_All_r b'64 F65 mx 40 nn lq _ (hS.mem.res 0) (hS.mem.get 0 1 (.fn 0 64 dbT)) (by first | with_reducible assumption | exact i1)) ?_
   rintro _ wd ⟨ao266, c267, g268, o269, rfl, hv270, hog0, hoh0, hF⟩
   have ho71 : g268 = 1 ∨ w.heap.size ≤ g268 := by have := hS.mem.fr.size; have : w.heap.size ≤ _ := this; omega
   refine ⟨.slice ao266 lq.length c267, rfl, ?_⟩
   replace hS := (hS.to (hS.mem.outs hF [(g268, .fn o269 (o269 + lq.length * 4) (entV (gtD lq) o269))] ⟨⟨rfl, hoh0, (fun q_ => q_.elim (fun e => .inl ⟨0, .fn 0 64 dbT, by rw [e]; as_aux_lemma => kernel_rfl, rfl⟩) (fun q_ => .inr q_)) hog0⟩, trivial⟩)).put (d := 148) (v := .slice ao266 lq.length c267) (by decide)
   clear hF
   refine hS.callG true 66 #[.slice ao266 lq.length c267] (l21_Of ao266 c267 g268 o269 lq _ (hS.mem.get 0 1 (.fn 0 64 dbT)) (hS.mem.get 2 g268 (.fn o269 (o269 + lq.length * 4) (entV (gtD lq) o269))) hv270 (by first | assumption | omega | (simp_all; done) | (simp_all; omega))) ?_
   rintro _ wd ⟨ao272, c273, g274, o275, rfl, hv276, hog0, hoh0, hF⟩
   have ho77 : g274 = 1 ∨ w.heap.size ≤ g274 := by have := hS.mem.fr.size; have : w.heap.size ≤ _ := this; omega
   refine ⟨.slice ao272 lq.length c273, rfl, ?_⟩
   replace hS := (hS.to (hS.mem.outs hF [(g274, .fn o275 (o275 + lq.length * 4) (entV (gtD lq) o275))] ⟨⟨rfl, hoh0, (fun q_ => q_.elim (fun e => .inl ⟨0, .fn 0 64 dbT, by rw [e]; as_aux_lemma => kernel_rfl, rfl⟩) (fun q_ => .inr q_)) hog0⟩, trivial⟩)).put (d := 149) (v := .slice ao272 lq.length c273) (by decide)
   clear hF
   refine hS.opsC 1 [1] [145, 149] fun _ => seg [(150, .slice aoq lq.length cq)] [(0, none), (1, none), (3, none)] [.t true] trivial fun ac wd hS => ?_
   refine hS.callG true 65 #[.slice ao272 lq.length c273, .slice aoq lq.length cq] (eq_ent ao272 c273 g274 o275 lq aoq cq gq oq _ (hS.mem.get 2 g274 (.fn o275 (o275 + lq.length * 4) (entV (gtD lq) o275))) (hS.mem.get 1 gq (.fn oq (oq + lq.length * 4) (entV (gtD lq) oq))) hv276 hvq (by first | assumption | omega | (simp_all; done) | (simp_all; omega))) ?_
   rintro _ wd ⟨rfl, hF⟩
   refine ⟨vb true, rfl, ?_⟩
   replace hS := (hS.to (hS.mem.keep0 hF)).put (d := 151) (v := vb true) (by decide)
   clear hF
   refine hS.opsC 2 [70, 0] [] fun _ => seg [(4, vb true)] [(0, none)] [.t true] trivial fun ac wd hS => ?_
   refine list_nil_seq ?_
   refine wp_ret ?_
   refine St.retC 0 hS (vb true) [] trivial fun hw => ?_
   refine ⟨retd rfl, hw.fr0⟩

end Go.Proofs.YtindbpffbjhfaaaDoor.K
