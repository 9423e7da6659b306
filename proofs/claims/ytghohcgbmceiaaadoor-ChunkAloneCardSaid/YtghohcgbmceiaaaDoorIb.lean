/-
  Walks, printed by w2.py.
-/
import Derived.Test.YtghohcgbmceiaaaDoorIa
import Derived.Test.YtghohcgbmceiaaaDoorProg
namespace Go.Proofs.YtghohcgbmceiaaaDoor.K
set_option linter.unusedVariables false
set_option linter.unusedSimpArgs false

set_option maxRecDepth 100000 in
set_option maxHeartbeats 1000000 in
theorem slices_Max0 (g : Nat) (c : Nat) (n : Nat) (wi : Nat → Int) (w : World) (hh0 : HE.holds w g (.fn 0 (0 + n) (u64z wi 0))) (hz : ∀ i, i < n → wi i = 0) (h0 : 0 < n) (hn : n ≤ 4294967296) :
    Calls Tryd.prog 42 #[sc g 0 n c] w fun e w' => e = .returned (vu 0) ∧ Fr w w' no no := by
 refine enter (args := [sc g 0 n c]) (D := no) (A := []) Tryd.func42 rfl 25 rfl [(g, .fn 0 (0 + n) (u64z wi 0))] (WS.startL ⟨⟨rfl, hh0⟩, trivial⟩) fun ac hS => ?_
 refine hS.regS [0] [0] fun _ => seg [] [(0, none)] [] trivial fun ac wd hS => ?_
 refine wp_seq ?_
 refine hS.regS [0, 0, 0] [0] fun _ => seg [(7, vb (decide ((((n : Nat) : Int) : Int) < 1)))] [(0, none)] [] trivial fun ac wd hS => ?_
 refine hS.condK (decide ((((n : Nat) : Int) : Int) < 1)) false (by exact decide_eq_false (by omega)) ?_
 show Code.wp _ _ _ _ _
 refine wp_skip ?_
 refine pop_then ?_
 refine hS.regS [0, 10, fx 0 (vu (wi 0)), 0] [0] fun _ => seg [(3, vu (wi 0))] [(0, none)] [.p ((((u64z wi 0) (Int.toNat 0)) : Value) = vu (wi 0)), .e g, .p (0 ≤ Int.toNat 0 ∧ Int.toNat 0 < (0 + n)), .p ((0 : Int) ≤ 0 ∧ (0 : Int) < ((n : Nat) : Int))] ⟨(u64z_abs wi 0), (by omega), (by omega), trivial⟩ fun ac wd hS => ?_
 refine wp_seq ?_
 refine hS.regS [0] [0, 3] fun _ => seg [(4, vi 1)] [(0, none)] [] trivial fun ac wd hS => ?_
 refine wp_block ?_
 refine St.loopC (σ := Int × Int) (fun (x : Int × Int) => match x with | (x3, x4) => ⟨[(0, [], sc g 0 n c), (3, [], vu x3), (4, [], vi x4)], [(g, .fn 0 (0 + n) (u64z wi 0))], [], (1 ≤ x4 ∧ x4 ≤ (n : Int)) ∧ (x3 = 0) ∧ True, n - Int.toNat x4⟩) ((wi 0), 1) ⟨(by first | omega | exact hz 0 h0), (by first | omega | exact hz 0 h0), trivial⟩ hS ?_
 clear hS
 rintro ⟨x3, x4⟩ ⟨i0, i1, -⟩ ac wd hS
 replace i0 : 1 ≤ x4 ∧ x4 ≤ (n : Int) := i0
 replace i1 : x3 = 0 := i1
 refine wp_seq ?_
 refine hS.regS [0, 0, 0, 0] [0, 3, 4] fun _ => seg [(15, vb (decide ((x4 : Int) < ((n : Nat) : Int))))] [(0, none)] [] trivial fun ac wd hS => ?_
 refine hS.condC (decide ((x4 : Int) < ((n : Nat) : Int))) (fun hb1o hb1 => ?_) (fun hb1o hb1 => ?_)
 ·
  refine wp_skip ?_
  refine pop_then ?_
  refine wp_seq ?_
  refine wp_block ?_
  refine hS.regC [0, 0, 0, 10, fx 0 (vu (wi (Int.toNat x4))), 0, 0] [0, 4] fun _ => seg [(3, vu (imax x3 (wi (Int.toNat x4))))] [(0, none)] [.p ((((u64z wi 0) (Int.toNat x4)) : Value) = vu (wi (Int.toNat x4))), .e g, .p (0 ≤ Int.toNat x4 ∧ Int.toNat x4 < (0 + n)), .p ((0 : Int) ≤ x4 ∧ (x4 : Int) < ((n : Nat) : Int))] ⟨(u64z_abs wi (Int.toNat x4)), (by omega), (by omega), trivial⟩ fun ac wd hS => ?_
  refine pop_block ?_
  refine pop_then ?_
  refine hS.regC [0, 20, 0] [0, 3] fun _ => seg [(4, vi (x4 + 1))] [(0, none)] [.p (fit .i64 (x4 + 1))] ⟨fit_i64 (by omega), trivial⟩ fun ac wd hS => ?_
  exact pop_then (hS.next ((imax x3 (wi (Int.toNat x4))), (x4 + 1)) ⟨(by first | omega | assumption | (simp; done) | (simp; omega)), (by rw [i1, hz _ (by omega)]; rfl), trivial⟩ (by dsimp only; omega))
 ·
  refine wp_exit ?_
  refine pop_then_exit ?_
  refine pop_then_exit ?_
  refine pop_block_hit ?_
  refine pop_then ?_
  refine hS.regS [0, 0] [] fun _ => seg [(2, vu x3)] [] [] trivial fun ac wd hS => ?_
  refine wp_ret ?_
  refine St.retC 0 hS (vu x3) [] trivial fun hw => ?_
  refine ⟨retd (vint ?_), hw.fr0⟩
  all_goals (exact i1)

set_option maxRecDepth 100000 in
set_option maxHeartbeats 1000000 in
theorem slices_EqualW (g : Nat) (c : Nat) (n : Nat) (wi : Nat → Int) (g_ : Nat) (u_ : Nat) (c_ : Nat) (ws : Nat → Nat) (w : World) (hh0 : HE.holds w g (.fn 0 (0 + n) (u64z wi 0))) (hh1 : HE.holds w g_ (.fn u_ (u_ + n) (u64s ws u_))) (hq : ∀ i, i < n → wi i = ((ws i : Nat) : Int)) (hn : n ≤ 4294967296) :
    Calls Tryd.prog 44 #[sc g 0 n c, sc g_ u_ n c_] w fun e w' => e = .returned (vb true) ∧ Fr w w' no no := by
 refine enter (args := [sc g 0 n c, sc g_ u_ n c_]) (D := no) (A := []) Tryd.func44 rfl 26 rfl [(g, .fn 0 (0 + n) (u64z wi 0)), (g_, .fn u_ (u_ + n) (u64s ws u_))] (WS.startL ⟨⟨rfl, hh0⟩, ⟨rfl, hh1⟩, trivial⟩) fun ac hS => ?_
 refine hS.regS [0] [0, 1] fun _ => seg [] [(0, none), (1, none)] [] trivial fun ac wd hS => ?_
 refine wp_seq ?_
 refine hS.regS [0, 0, 0, 0, fx 0 (vb false)] [0, 1] fun _ => seg [(10, vb false)] [(0, none), (1, none)] [.p ((vb ((((n : Nat) : Int) : Int) != ((n : Nat) : Int)) : Value) = vb false)] ⟨(congrArg Value.bool (bne_self_eq_false _)), trivial⟩ fun ac wd hS => ?_
 refine hS.condF ?_
 refine wp_skip ?_
 refine pop_then ?_
 refine wp_seq ?_
 refine hS.regS [0, 0, 0] [0, 1] fun _ => seg [(12, vi ((n : Nat) : Int)), (13, vi 0)] [(0, none), (1, none)] [] trivial fun ac wd hS => ?_
 refine wp_block ?_
 refine St.loopC (σ := Int) (fun (x13 : Int) => ⟨[(0, [], sc g 0 n c), (1, [], sc g_ u_ n c_), (12, [], vi ((n : Nat) : Int)), (13, [], vi x13)], [(g, .fn 0 (0 + n) (u64z wi 0)), (g_, .fn u_ (u_ + n) (u64s ws u_))], [], (0 ≤ x13 ∧ x13 ≤ (n : Int)) ∧ True, n - Int.toNat x13⟩) 0 ⟨(by omega), trivial⟩ hS ?_
 clear hS
 rintro x13 ⟨i0, -⟩ ac wd hS
 replace i0 : 0 ≤ x13 ∧ x13 ≤ (n : Int) := i0
 refine hS.regS [0] [0, 1, 12, 13] fun _ => seg [(14, vb (decide ((x13 : Int) < ((n : Nat) : Int))))] [(0, none), (1, none)] [] trivial fun ac wd hS => ?_
 refine wp_seq ?_
 refine hS.condC (decide ((x13 : Int) < ((n : Nat) : Int))) (fun hb1o hb1 => ?_) (fun hb1o hb1 => ?_)
 ·
  refine wp_skip ?_
  refine pop_then ?_
  refine wp_seq ?_
  refine wp_block ?_
  refine hS.regS [0, 0] [0, 1, 12, 13] fun _ => seg [(5, vi x13)] [(0, none), (1, none)] [] trivial fun ac wd hS => ?_
  refine hS.drawS [0, 0, 10, fx 0 (vu (wi (Int.toNat x13))), 0, 0, 20, fx 100 (vu ((ws (Int.toNat x13) : Nat) : Int)), 0] [0, 1, 12, 13] <| seg [(24, vb (((wi (Int.toNat x13)) : Int) != ((ws (Int.toNat x13) : Nat) : Int)))] [(0, none), (1, none)] [.p ((((u64s ws u_) (u_ + Int.toNat x13 * 1)) : Value) = vu ((ws (Int.toNat x13) : Nat) : Int)), .e g_, .p (u_ ≤ u_ + Int.toNat x13 * 1 ∧ u_ + Int.toNat x13 * 1 < (u_ + n)), .p ((0 : Int) ≤ x13 ∧ (x13 : Int) < ((n : Nat) : Int)), .p ((((u64z wi 0) (Int.toNat x13)) : Value) = vu (wi (Int.toNat x13))), .e g, .p (0 ≤ Int.toNat x13 ∧ Int.toNat x13 < (0 + n)), .p ((0 : Int) ≤ x13 ∧ (x13 : Int) < ((n : Nat) : Int))] ⟨(u64s_rel ws u_ (Int.toNat x13)), (by omega), (by omega), (u64z_abs wi (Int.toNat x13)), (by omega), (by omega), trivial⟩ fun ac wd hS => ?_
  refine hS.condK (((wi (Int.toNat x13)) : Int) != ((ws (Int.toNat x13) : Nat) : Int)) false (by rw [hq _ (by omega)]; exact bne_self_eq_false _) ?_
  show Code.wp _ _ _ _ _
  refine wp_skip ?_
  refine pop_block ?_
  refine pop_then ?_
  refine hS.regC [20, 0] [0, 1, 12] fun _ => seg [(13, vi (x13 + 1))] [(0, none), (1, none)] [.p (fit .i64 (x13 + 1))] ⟨fit_i64 (by omega), trivial⟩ fun ac wd hS => ?_
  exact pop_then (hS.next (x13 + 1) ⟨(by first | omega | assumption | (simp; done) | (simp; omega)), trivial⟩ (by dsimp only; omega))
 ·
  refine wp_exit ?_
  refine pop_then_exit ?_
  refine pop_then_exit ?_
  refine pop_block_hit ?_
  refine pop_then ?_
  refine hS.regS [0] [] fun _ => seg [(4, vb true)] [] [] trivial fun ac wd hS => ?_
  refine wp_ret ?_
  refine St.retC 0 hS (vb true) [] trivial fun hw => ?_
  refine ⟨retd rfl, hw.fr0⟩

set_option maxRecDepth 100000 in
set_option maxHeartbeats 1000000 in
theorem law05_FieldBack_yes (g : Nat) (o : Nat) (c : Nat) (l : List Int) (q : Nat) (u : Nat) (k : Nat) (cq : Nat) (ws : Nat → Nat) (iq : Int) (xn : Nat) (w : World) (hh0 : HE.holds w 1 (.fn 0 64 dbT)) (hh1 : HE.holds w g (.fn o (o + l.length) (ints l o))) (hh2 : HE.holds w q (.fn u (u + k) (u64s ws u))) (hW : okW l) (hk : l.length ≤ k) (hws : ∀ i, i < k → ws i ≤ 18446744073709551615) (hx : xn ≤ 18446744073709551615) (hkb : k ≤ cq ∧ cq ≤ 9223372036854775807) :
    Calls Tryd.prog 6 #[sc g o l.length c, sc q u k cq, vi iq, vu ((xn : Nat) : Int)] w fun e w' => e = .returned (vb true) ∧ Fr w w' no no := by
 obtain ⟨hW1, hW2, hW3⟩ := id hW
 have hsb := fun n => sumT_bd hW n
 have hk0 := okW_chk.2 hW
 have hS8 := hsb l.length
 have hR : RecV l (comM (AM.new 1) 0 1) 10 (sumT l l.length) := ⟨hW, page_thr (by omega), Int.le_refl _⟩
 have hR2 : RecV l (pRM l l.length ws (comM (AM.new 1) 0 1) 10 (sumT l l.length)) 10 (sumT l l.length) := hR.same (pRM_com _ _ _ _ _ _).1 (pRM_com _ _ _ _ _ _).2
 have hR3 : RecV l (setM l (pRM l l.length ws (comM (AM.new 1) 0 1) 10 (sumT l l.length)) 10 (sumT l l.length) iq ((xn : Nat) : Int)) 10 (sumT l l.length) := hR2.same (setM_com _ _ _ _ _ _).1 (setM_com _ _ _ _ _ _).2
 have hwl : ∀ i, i < l.length → ws i ≤ 18446744073709551615 := fun i hi => hws i (by omega)
 refine enter (args := [sc g o l.length c, sc q u k cq, vi iq, vu ((xn : Nat) : Int)]) (D := no) (A := []) Tryd.func6 rfl 111 rfl [(1, .fn 0 64 dbT), (g, .fn o (o + l.length) (ints l o)), (q, .fn u (u + k) (u64s ws u))] (WS.startL ⟨⟨rfl, hh0⟩, ⟨rfl, hh1⟩, ⟨rfl, hh2⟩, trivial⟩) fun ac hS => ?_
 refine hS.regS [0] [0, 1, 2, 3] fun _ => seg [] [(0, none), (1, none), (2, none)] [] trivial fun ac wd hS => ?_
 refine wp_seq ?_
 refine wp_region_seq ?_
 refine hS.call0 30 #[] 21 (law05_awake  _ (hS.mem.get 0 1 (.fn 0 64 dbT)) ) fun ac wd hS => ?_
 refine hS.opsC 1 [0] [0, 1, 2, 3] fun _ => seg [(22, vb false)] [(0, none), (1, none), (2, none)] [] trivial fun ac wd hS => ?_
 refine list_nil_seq ?_
 refine hS.condF ?_
 refine wp_skip ?_
 refine pop_then ?_
 refine wp_seq ?_
 refine wp_region_seq ?_
 refine hS.opsC 1 [0] [0, 1, 2, 3] fun _ => seg [(23, sc g o l.length c)] [(0, none), (1, none), (2, none)] [] trivial fun ac wd hS => ?_
 refine hS.call0 32 #[sc g o l.length c] 24 (ref05_Check g o c l _ (hS.mem.get 1 g (.fn o (o + l.length) (ints l o))) ) fun ac wd hS => ?_
 refine hS.opsC 8 [0, 0, 3, 3, 3, 3, 3, 80] [0, 1, 2, 3] fun _ => seg [(32, vb ((((chkW l) : Int) != 0) || (decide ((((k : Nat) : Int) : Int) < ((l.length : Nat) : Int)))))] [(0, none), (1, none), (2, none)] [] trivial fun ac wd hS => ?_
 refine list_nil_seq ?_
 refine hS.condK ((((chkW l) : Int) != 0) || (decide ((((k : Nat) : Int) : Int) < ((l.length : Nat) : Int)))) false (by rw [hk0]; simp; omega) ?_
 show Code.wp _ _ _ _ _
 refine wp_skip ?_
 refine pop_then ?_
 refine wp_region_seq ?_
 refine hS.opsC 4 [0, 0, 0, fx 20 (sc q u l.length cq)] [0, 1, 2, 3] fun _ => seg [(36, sc q u l.length cq)] [(0, none), (1, none), (2, none)] [.p ((sc q u (Int.toNat (((l.length : Nat) : Int) : Int)) cq : Value) = sc q u l.length cq), .p (0 ≤ (((l.length : Nat) : Int) : Int) ∧ (((l.length : Nat) : Int) : Int) ≤ ((cq : Nat) : Int) ∧ k ≤ cq ∧ (0 : Int) = 0)] ⟨(rfl), (by omega), trivial⟩ fun ac wd hS => ?_
 refine hS.callC 38 #[sc q u l.length cq] (slices_CloneW q u cq l.length ws (fun _ => false) _ (HE.fn_sub (hS.mem.get 2 q (.fn u (u + k) (u64s ws u))) (by omega)) (by first | assumption | omega | (simp_all; done) | (simp_all; omega))) ?_
 rintro _ wd ⟨g21, c22, tot23, rfl, hog0, hoh0, hF⟩
 have ho4 : w.heap.size ≤ g21 := Nat.le_trans hS.mem.fr.size hog0
 refine ⟨sc g21 0 l.length c22, rfl, ?_⟩
 replace hS := (hS.to (hS.mem.outR hF hog0 hoh0)).put (d := 37) (v := sc g21 0 l.length c22) (by decide)
 clear hF
 refine hS.opsC 1 [0] [0, 2, 3] fun _ => seg [(1, sc g21 0 l.length c22)] [(0, none), (1, none), (3, none)] [] trivial fun ac wd hS => ?_
 refine list_nil_seq ?_
 refine wp_region_seq ?_
 refine hS.opsC 1 [0] [1, 2, 3] fun _ => seg [(39, sc g o l.length c)] [(0, none), (1, none), (2, none)] [] trivial fun ac wd hS => ?_
 refine hS.callC 31 #[sc g o l.length c] (field_Of g o c l _ (hS.mem.get 1 g (.fn o (o + l.length) (ints l o))) (by first | assumption | omega | (simp_all; done) | (simp_all; omega))) ?_
 rintro _ wd ⟨g25, c26, rfl, hc27, hog0, hoh0, hF⟩
 have ho8 : w.heap.size ≤ g25 := Nat.le_trans hS.mem.fr.size hog0
 refine ⟨.tuple #[.agg #[sc g25 0 l.length c26], vi 0], rfl, ?_⟩
 replace hS := (hS.to (hS.mem.outs hF [(g25, .fn 0 (0 + l.length) (ints l 0))] ⟨⟨rfl, hoh0, .inr hog0⟩, trivial⟩)).put (d := 40) (v := .tuple #[.agg #[sc g25 0 l.length c26], vi 0]) (by decide)
 clear hF
 refine hS.opsC 6 [0, 0, 0, 0, 400, 0] [1, 2, 3] fun ν8 => seg [(9, pt (ν8 0) 0), (10, vi 0)] [(0, none), (2, none), (3, none), (4, some ((ν8 0), .cells [sc g25 0 l.length c26] 46))] [.e (ν8 0)] trivial fun ac wd hS => ?_
 refine list_nil_seq ?_
 refine wp_region_seq ?_
 refine hS.opsC 1 [300] [1, 2, 3, 9, 10] fun _ => seg [(44, .agg #[sc g25 0 l.length c26])] [(0, none), (1, none), (2, none), (3, none)] [.e (ν8 0)] trivial fun ac wd hS => ?_
 refine hS.call0 34 #[.agg #[sc g25 0 l.length c26]] 45 (rec_Size g25 0 c26 l _ (hS.mem.get 2 g25 (.fn 0 (0 + l.length) (ints l 0))) (by first | assumption | omega | (simp_all; done) | (simp_all; omega)) (by first | assumption | omega | (simp_all; done) | (simp_all; omega))) fun ac wd hS => ?_
 refine hS.callC 39 #[vi (sumT l l.length)] (law05_page (sumT l l.length) _  (by omega)) ?_
 rintro _ wd ⟨b'9, g210, u211, cp212, rf213, F14, rfl, hN, hF⟩
 refine ⟨.tuple #[pt b'9 0, .agg #[pt b'9 0, vi 10, vi (sumT l l.length)], .agg #[sc g210 u211 1 cp212, vi rf213], .agg #[vi 10, vi (sumT l l.length)], vb true], rfl, ?_⟩
 replace hS := (hS.to (hS.mem.newA hN hF)).put (d := 46) (v := .tuple #[pt b'9 0, .agg #[pt b'9 0, vi 10, vi (sumT l l.length)], .agg #[sc g210 u211 1 cp212, vi rf213], .agg #[vi 10, vi (sumT l l.length)], vb true]) (by decide)
 clear hF
 refine hS.opsC 14 [0, 0, 0, 0, 0, 0, 0, 0, 0, 0, 400, 500, 600, 0] [1, 2, 3, 9, 10] fun ν10 => seg [(12, pt (ν10 0) 0), (15, vb true)] [(0, none), (1, none), (2, none), (3, none), (4, some ((ν10 0), .cells [pt b'9 0, vi 10, vi (sumT l l.length)] 29))] [.e (ν10 2), .e (ν10 2), .e (ν10 1), .e (ν10 1), .e (ν10 0), .e (ν10 0), .e (ν10 0)] trivial fun ac wd hS => ?_
 refine list_nil_seq ?_
 refine wp_seq ?_
 refine hS.regS [0, 0, 0, 1, 1, 60] [1, 2, 3, 9, 12] fun _ => seg [(57, vb false)] [(0, none), (1, none), (2, none), (3, none), (4, none)] [.t false, .t false, .t false] trivial fun ac wd hS => ?_
 refine hS.condF ?_
 refine wp_skip ?_
 refine pop_then ?_
 refine wp_region_seq ?_
 refine hS.opsC 3 [300, 400, 0] [1, 2, 3, 9, 12] fun _ => seg [(58, .agg #[sc g25 0 l.length c26]), (59, .agg #[pt b'9 0, vi 10, vi (sumT l l.length)]), (60, sc g21 0 l.length c22)] [(0, none), (1, none), (2, none), (3, none), (4, none)] [.e (ν10 0), .e (ν10 0), .e (ν10 0), .e (ν8 0)] trivial fun ac wd hS => ?_
 refine hS.callC 40 #[.agg #[sc g25 0 l.length c26], .agg #[pt b'9 0, vi 10, vi (sumT l l.length)], sc g21 0 l.length c22] (rec_Put b'9 F14 (comM (AM.new 1) 0 1) g25 0 c26 l 10 (sumT l l.length) g21 0 l.length c22 ws _ (hS.mem.res 0) (hS.mem.get 2 g25 (.fn 0 (0 + l.length) (ints l 0))) (HE.fn_hi (by omega) (HE.of_row (hS.mem.get 1 g21 (.row 54 l.length tot23 (u64s ws 0))) (fun _ _ => rfl))) (hS.mem.nF (g := g25) (r := arR b'9 F14 (comM (AM.new 1) 0 1)) 2 0) (hS.mem.nF (g := g21) (r := arR b'9 F14 (comM (AM.new 1) 0 1)) 1 0) (by first | assumption | omega | (simp_all; done) | (simp_all; omega)) (by first | assumption | omega | (simp_all; done) | (simp_all; omega)) (by first | assumption | omega | (simp_all; done) | (simp_all; omega)) (by first | assumption | omega | (simp_all; done) | (simp_all; omega))) ?_
 rintro _ wd ⟨F15, rfl, hA, hF⟩
 refine ⟨vi (pRE l l.length ws (comM (AM.new 1) 0 1) 10 (sumT l l.length)), rfl, ?_⟩
 replace hS := (hS.to (hS.mem.stepA 0 rfl hA hF)).put (d := 61) (v := vi (pRE l l.length ws (comM (AM.new 1) 0 1) 10 (sumT l l.length))) (by decide)
 clear hF
 refine hS.opsC 1 [0] [1, 2, 3, 9, 12] fun _ => seg [(16, vi (pRE l l.length ws (comM (AM.new 1) 0 1) 10 (sumT l l.length)))] [(0, none), (1, none), (2, none), (3, none), (4, none)] [] trivial fun ac wd hS => ?_
 refine list_nil_seq ?_
 refine wp_seq ?_
 refine hS.regS [0, 0] [1, 2, 3, 9, 12, 16] fun _ => seg [(63, vb (((pRE l l.length ws (comM (AM.new 1) 0 1) 10 (sumT l l.length)) : Int) != 0))] [(0, none), (1, none), (2, none), (3, none), (4, none)] [] trivial fun ac wd hS => ?_
 refine hS.condC (((pRE l l.length ws (comM (AM.new 1) 0 1) 10 (sumT l l.length)) : Int) != 0) (fun hb16o hb16 => ?_) (fun hb16o hb16 => ?_)
 ·
  have hp0 := hb16
  obtain ⟨hpE, hpm⟩ := pR_bad hR hp0
  refine wp_region_seq ?_
  refine hS.opsC 2 [300, 400] [1, 16] fun _ => seg [(65, .agg #[sc g25 0 l.length c26]), (66, .agg #[pt b'9 0, vi 10, vi (sumT l l.length)])] [(0, none), (1, none), (2, none)] [.e (ν10 0), .e (ν10 0), .e (ν10 0), .e (ν8 0)] trivial fun ac wd hS => ?_
  refine hS.callC 41 #[.agg #[sc g25 0 l.length c26], .agg #[pt b'9 0, vi 10, vi (sumT l l.length)]] (rec_All b'9 F15 (pRM l l.length ws (comM (AM.new 1) 0 1) 10 (sumT l l.length)) g25 0 c26 l 10 (sumT l l.length) _ (hS.mem.res 0) (hS.mem.get 2 g25 (.fn 0 (0 + l.length) (ints l 0))) (by first | assumption | omega | (simp_all; done) | (simp_all; omega)) (by first | assumption | omega | (simp_all; done) | (simp_all; omega)) (by first | assumption | omega | (simp_all; done) | (simp_all; omega)) (by first | exact hR3.vb0 (Int.le_refl _) | exact hR2.vb0 (Int.le_refl _))) ?_
  rintro _ wd ⟨g217, c218, rfl, hc219, hog0, hoh0, hF⟩
  have ho20 : w.heap.size ≤ g217 := Nat.le_trans hS.mem.fr.size hog0
  refine ⟨.tuple #[sc g217 0 l.length c218, vi 0], rfl, ?_⟩
  replace hS := (hS.to (hS.mem.outs hF [(g217, .fn 0 (0 + l.length) (u64z (fun i => getW l (pRM l l.length ws (comM (AM.new 1) 0 1) 10 (sumT l l.length)) 10 (sumT l l.length) (i : Int)) 0))] ⟨⟨rfl, hoh0, .inr hog0⟩, trivial⟩)).put (d := 67) (v := .tuple #[sc g217 0 l.length c218, vi 0]) (by decide)
  clear hF
  refine hS.opsC 5 [0, 0, 0, 0, 0] [1, 16] fun _ => seg [(17, sc g217 0 l.length c218), (18, vi 0)] [(0, none), (1, none), (3, none)] [] trivial fun ac wd hS => ?_
  refine list_nil_seq ?_
  refine wp_region_seq ?_
  refine hS.opsC 14 [0, 0, 0, 3, 3, 80, 0, 3, 3, 3, 3, fx 3 (vb true), 80, 0] [17] fun _ => seg [(83, vb (((((pRE l l.length ws (comM (AM.new 1) 0 1) 10 (sumT l l.length)) : Int) == 16) && true) && true))] [(0, none), (2, none)] [.p (((((((pRE l l.length ws (comM (AM.new 1) 0 1) 10 (sumT l l.length)) : Int) == 16) && true) = true) ∧ True) → AllP [(vb ((((l.length : Nat) : Int) : Int) == ((l.length : Nat) : Int)) : Value) = vb true])] ⟨(fun ⟨hc0, _⟩ => by replace hc0 := nrm hc0; exact ⟨(congrArg Value.bool (beq_self_eq_true _)), trivial⟩), trivial⟩ fun ac wd hS => ?_
  have hg21o : (((((pRE l l.length ws (comM (AM.new 1) 0 1) 10 (sumT l l.length)) : Int) == 16) && true) && true) = true := by rw [hpE]; rfl
  replace hS := hS.fix 83 (vb true) (congrArg Value.bool hg21o)
  refine hS.opsC 1 [1] [83] fun _ => seg [(84, sc g217 0 l.length c218)] [(0, none), (1, none)] [.t true] trivial fun ac wd hS => ?_
  refine hS.callG true 42 #[sc g217 0 l.length c218] (slices_Max0 g217 c218 l.length (fun i => getW l (pRM l l.length ws (comM (AM.new 1) 0 1) 10 (sumT l l.length)) 10 (sumT l l.length) (i : Int)) _ (hS.mem.get 1 g217 (.fn 0 (0 + l.length) (u64z (fun i => getW l (pRM l l.length ws (comM (AM.new 1) 0 1) 10 (sumT l l.length)) 10 (sumT l l.length) (i : Int)) 0))) (by intro j hj; show getW l (pRM l l.length ws (comM (AM.new 1) 0 1) 10 (sumT l l.length)) 10 (sumT l l.length) (j : Int) = 0; rw [hpm]; exact hR.zero (comM_zero (fun _ => rfl) 0 1) (hasW_of hj)) (by first | assumption | omega | (simp_all; done) | (simp_all; omega)) (by first | assumption | omega | (simp_all; done) | (simp_all; omega))) ?_
  rintro _ wd ⟨rfl, hF⟩
  refine ⟨vu 0, rfl, ?_⟩
  replace hS := (hS.to (hS.mem.keep0 hF)).put (d := 85) (v := vu 0) (by decide)
  clear hF
  refine hS.opsC 3 [1, 70, 0] [] fun _ => seg [(8, vb true)] [(0, none)] [.t true, .t true] trivial fun ac wd hS => ?_
  refine list_nil_seq ?_
  refine wp_ret ?_
  refine pop_then_ret ?_
  refine St.retC 0 hS (vb true) [] trivial fun hw => ?_
  refine ⟨retd rfl, hw.fr0⟩
 ·
  have hp0 : pRE l l.length ws (comM (AM.new 1) 0 1) 10 (sumT l l.length) = 0 := hb16
  refine wp_skip ?_
  refine pop_then ?_
  refine wp_seq ?_
  refine wp_region_seq ?_
  refine hS.opsC 4 [300, 400, 0, 0] [1, 2, 3, 9, 12] fun _ => seg [(88, .agg #[sc g25 0 l.length c26]), (89, .agg #[pt b'9 0, vi 10, vi (sumT l l.length)]), (90, vi iq), (91, vu ((xn : Nat) : Int))] [(0, none), (1, none), (2, none), (3, none), (4, none)] [.e (ν10 0), .e (ν10 0), .e (ν10 0), .e (ν8 0)] trivial fun ac wd hS => ?_
  refine hS.callC 43 #[.agg #[sc g25 0 l.length c26], .agg #[pt b'9 0, vi 10, vi (sumT l l.length)], vi iq, vu ((xn : Nat) : Int)] (rec_Set b'9 F15 (pRM l l.length ws (comM (AM.new 1) 0 1) 10 (sumT l l.length)) g25 0 c26 l 10 (sumT l l.length) iq ((xn : Nat) : Int) _ (hS.mem.res 0) (hS.mem.get 2 g25 (.fn 0 (0 + l.length) (ints l 0))) (hS.mem.nF (g := g25) (r := arR b'9 F15 (pRM l l.length ws (comM (AM.new 1) 0 1) 10 (sumT l l.length))) 2 0) (by first | assumption | omega | (simp_all; done) | (simp_all; omega)) (by first | assumption | omega | (simp_all; done) | (simp_all; omega)) (by first | assumption | omega | (simp_all; done) | (simp_all; omega))) ?_
  rintro _ wd ⟨F22, rfl, hA, hF⟩
  refine ⟨vi (setE l (pRM l l.length ws (comM (AM.new 1) 0 1) 10 (sumT l l.length)) 10 (sumT l l.length) iq ((xn : Nat) : Int)), rfl, ?_⟩
  replace hS := (hS.to (hS.mem.stepA 0 rfl hA hF)).put (d := 92) (v := vi (setE l (pRM l l.length ws (comM (AM.new 1) 0 1) 10 (sumT l l.length)) 10 (sumT l l.length) iq ((xn : Nat) : Int))) (by decide)
  clear hF
  refine hS.opsC 1 [0] [1, 2, 3, 9, 12] fun _ => seg [(93, vb (((setE l (pRM l l.length ws (comM (AM.new 1) 0 1) 10 (sumT l l.length)) 10 (sumT l l.length) iq ((xn : Nat) : Int)) : Int) == 0))] [(0, none), (1, none), (2, none), (3, none), (4, none)] [] trivial fun ac wd hS => ?_
  refine list_nil_seq ?_
  refine hS.condC (((setE l (pRM l l.length ws (comM (AM.new 1) 0 1) 10 (sumT l l.length)) 10 (sumT l l.length) iq ((xn : Nat) : Int)) : Int) == 0) (fun hb23o hb23 => ?_) (fun hb23o hb23 => ?_)
  ·
   have hs0 := hb23
   have hEQ := field_back1 hR hwl hx hp0 hs0
   obtain ⟨hiq, hfq⟩ := hR2.set_in hs0
   have hiq2 := hasW_in hiq
   refine hS.regC [0, 0, 0, 10, 100] [1, 9, 12] fun _ => seg [] [(0, none), (1, some (g21, .row 54 l.length tot23 (fun x => if x = Int.toNat iq then vu ((xn : Nat) : Int) else (u64s ws 0) x))), (2, none), (3, none), (4, none)] [.e g21, .p (Int.toNat iq < l.length), .p ((0 : Int) ≤ iq ∧ (iq : Int) < ((l.length : Nat) : Int))] ⟨(by omega), (by omega), trivial⟩ fun ac wd hS => ?_
   replace hS := hS.to (hS.mem.tellR 1 (b := g21) (e := 54) (m := l.length) (tot := tot23) (f := (fun x => if x = Int.toNat iq then vu ((xn : Nat) : Int) else (u64s ws 0) x)) (u64s (putW ws (Int.toNat iq) xn) 0) (fun o ho => u64s_putv ws (Int.toNat iq) xn o))
   refine pop_then ?_
   refine wp_region_seq ?_
   refine hS.opsC 2 [300, 400] [1] fun _ => seg [(99, .agg #[sc g25 0 l.length c26]), (100, .agg #[pt b'9 0, vi 10, vi (sumT l l.length)])] [(0, none), (1, none), (2, none)] [.e (ν10 0), .e (ν10 0), .e (ν10 0), .e (ν8 0)] trivial fun ac wd hS => ?_
   refine hS.callC 41 #[.agg #[sc g25 0 l.length c26], .agg #[pt b'9 0, vi 10, vi (sumT l l.length)]] (rec_All b'9 F22 (setM l (pRM l l.length ws (comM (AM.new 1) 0 1) 10 (sumT l l.length)) 10 (sumT l l.length) iq ((xn : Nat) : Int)) g25 0 c26 l 10 (sumT l l.length) _ (hS.mem.res 0) (hS.mem.get 2 g25 (.fn 0 (0 + l.length) (ints l 0))) (by first | assumption | omega | (simp_all; done) | (simp_all; omega)) (by first | assumption | omega | (simp_all; done) | (simp_all; omega)) (by first | assumption | omega | (simp_all; done) | (simp_all; omega)) (by first | exact hR3.vb0 (Int.le_refl _) | exact hR2.vb0 (Int.le_refl _))) ?_
   rintro _ wd ⟨g224, c225, rfl, hc226, hog0, hoh0, hF⟩
   have ho27 : w.heap.size ≤ g224 := Nat.le_trans hS.mem.fr.size hog0
   refine ⟨.tuple #[sc g224 0 l.length c225, vi 0], rfl, ?_⟩
   replace hS := (hS.to (hS.mem.outs hF [(g224, .fn 0 (0 + l.length) (u64z (fun i => getW l (setM l (pRM l l.length ws (comM (AM.new 1) 0 1) 10 (sumT l l.length)) 10 (sumT l l.length) iq ((xn : Nat) : Int)) 10 (sumT l l.length) (i : Int)) 0))] ⟨⟨rfl, hoh0, .inr hog0⟩, trivial⟩)).put (d := 101) (v := .tuple #[sc g224 0 l.length c225, vi 0]) (by decide)
   clear hF
   refine hS.opsC 5 [0, 0, 0, 0, 0] [1] fun _ => seg [(19, sc g224 0 l.length c225), (20, vi 0)] [(0, none), (1, none), (3, none)] [] trivial fun ac wd hS => ?_
   refine list_nil_seq ?_
   refine wp_region_seq ?_
   refine hS.opsC 3 [0, 0, 0] [1, 19] fun _ => seg [(106, vb true)] [(0, none), (1, none), (2, none)] [] trivial fun ac wd hS => ?_
   refine hS.opsC 2 [1, 1] [106] fun _ => seg [(107, sc g224 0 l.length c225), (108, sc g21 0 l.length c22)] [(0, none), (1, none), (2, none)] [.t true, .t true] trivial fun ac wd hS => ?_
   refine hS.callG true 44 #[sc g224 0 l.length c225, sc g21 0 l.length c22] (slices_EqualW g224 c225 l.length (fun i => getW l (setM l (pRM l l.length ws (comM (AM.new 1) 0 1) 10 (sumT l l.length)) 10 (sumT l l.length) iq ((xn : Nat) : Int)) 10 (sumT l l.length) (i : Int)) g21 0 c22 (putW ws (Int.toNat iq) xn) _ (hS.mem.get 2 g224 (.fn 0 (0 + l.length) (u64z (fun i => getW l (setM l (pRM l l.length ws (comM (AM.new 1) 0 1) 10 (sumT l l.length)) 10 (sumT l l.length) iq ((xn : Nat) : Int)) 10 (sumT l l.length) (i : Int)) 0))) (HE.fn_hi (by omega) (HE.of_row (hS.mem.get 1 g21 (.row 54 l.length tot23 (u64s (putW ws (Int.toNat iq) xn) 0))) (fun _ _ => rfl))) (by exact hEQ) (by first | assumption | omega | (simp_all; done) | (simp_all; omega))) ?_
   rintro _ wd ⟨rfl, hF⟩
   refine ⟨vb true, rfl, ?_⟩
   replace hS := (hS.to (hS.mem.keep0 hF)).put (d := 109) (v := vb true) (by decide)
   clear hF
   refine hS.opsC 2 [70, 0] [] fun _ => seg [(8, vb true)] [(0, none)] [.t true] trivial fun ac wd hS => ?_
   refine list_nil_seq ?_
   refine wp_ret ?_
   refine St.retC 0 hS (vb true) [] trivial fun hw => ?_
   refine ⟨retd rfl, hw.fr0⟩
  ·
   have hs0 := hb23
   have hEQ := field_back2 hR hwl hp0 hs0
   refine wp_skip ?_
   refine pop_then ?_
   refine wp_region_seq ?_
   refine hS.opsC 2 [300, 400] [1] fun _ => seg [(99, .agg #[sc g25 0 l.length c26]), (100, .agg #[pt b'9 0, vi 10, vi (sumT l l.length)])] [(0, none), (1, none), (2, none)] [.e (ν10 0), .e (ν10 0), .e (ν10 0), .e (ν8 0)] trivial fun ac wd hS => ?_
   refine hS.callC 41 #[.agg #[sc g25 0 l.length c26], .agg #[pt b'9 0, vi 10, vi (sumT l l.length)]] (rec_All b'9 F22 (setM l (pRM l l.length ws (comM (AM.new 1) 0 1) 10 (sumT l l.length)) 10 (sumT l l.length) iq ((xn : Nat) : Int)) g25 0 c26 l 10 (sumT l l.length) _ (hS.mem.res 0) (hS.mem.get 2 g25 (.fn 0 (0 + l.length) (ints l 0))) (by first | assumption | omega | (simp_all; done) | (simp_all; omega)) (by first | assumption | omega | (simp_all; done) | (simp_all; omega)) (by first | assumption | omega | (simp_all; done) | (simp_all; omega)) (by first | exact hR3.vb0 (Int.le_refl _) | exact hR2.vb0 (Int.le_refl _))) ?_
   rintro _ wd ⟨g228, c229, rfl, hc230, hog0, hoh0, hF⟩
   have ho31 : w.heap.size ≤ g228 := Nat.le_trans hS.mem.fr.size hog0
   refine ⟨.tuple #[sc g228 0 l.length c229, vi 0], rfl, ?_⟩
   replace hS := (hS.to (hS.mem.outs hF [(g228, .fn 0 (0 + l.length) (u64z (fun i => getW l (setM l (pRM l l.length ws (comM (AM.new 1) 0 1) 10 (sumT l l.length)) 10 (sumT l l.length) iq ((xn : Nat) : Int)) 10 (sumT l l.length) (i : Int)) 0))] ⟨⟨rfl, hoh0, .inr hog0⟩, trivial⟩)).put (d := 101) (v := .tuple #[sc g228 0 l.length c229, vi 0]) (by decide)
   clear hF
   refine hS.opsC 5 [0, 0, 0, 0, 0] [1] fun _ => seg [(19, sc g228 0 l.length c229), (20, vi 0)] [(0, none), (1, none), (3, none)] [] trivial fun ac wd hS => ?_
   refine list_nil_seq ?_
   refine wp_region_seq ?_
   refine hS.opsC 3 [0, 0, 0] [1, 19] fun _ => seg [(106, vb true)] [(0, none), (1, none), (2, none)] [] trivial fun ac wd hS => ?_
   refine hS.opsC 2 [1, 1] [106] fun _ => seg [(107, sc g228 0 l.length c229), (108, sc g21 0 l.length c22)] [(0, none), (1, none), (2, none)] [.t true, .t true] trivial fun ac wd hS => ?_
   refine hS.callG true 44 #[sc g228 0 l.length c229, sc g21 0 l.length c22] (slices_EqualW g228 c229 l.length (fun i => getW l (setM l (pRM l l.length ws (comM (AM.new 1) 0 1) 10 (sumT l l.length)) 10 (sumT l l.length) iq ((xn : Nat) : Int)) 10 (sumT l l.length) (i : Int)) g21 0 c22 ws _ (hS.mem.get 2 g228 (.fn 0 (0 + l.length) (u64z (fun i => getW l (setM l (pRM l l.length ws (comM (AM.new 1) 0 1) 10 (sumT l l.length)) 10 (sumT l l.length) iq ((xn : Nat) : Int)) 10 (sumT l l.length) (i : Int)) 0))) (HE.fn_hi (by omega) (HE.of_row (hS.mem.get 1 g21 (.row 54 l.length tot23 (u64s ws 0))) (fun _ _ => rfl))) (by exact hEQ) (by first | assumption | omega | (simp_all; done) | (simp_all; omega))) ?_
   rintro _ wd ⟨rfl, hF⟩
   refine ⟨vb true, rfl, ?_⟩
   replace hS := (hS.to (hS.mem.keep0 hF)).put (d := 109) (v := vb true) (by decide)
   clear hF
   refine hS.opsC 2 [70, 0] [] fun _ => seg [(8, vb true)] [(0, none)] [.t true] trivial fun ac wd hS => ?_
   refine list_nil_seq ?_
   refine wp_ret ?_
   refine St.retC 0 hS (vb true) [] trivial fun hw => ?_
   refine ⟨retd rfl, hw.fr0⟩

set_option maxRecDepth 100000 in
set_option maxHeartbeats 1000000 in
theorem law05_FieldBack_few (g : Nat) (o : Nat) (c : Nat) (l : List Int) (q : Nat) (u : Nat) (k : Nat) (cq : Nat) (ws : Nat → Nat) (iq : Int) (xn : Nat) (w : World) (hh0 : HE.holds w 1 (.fn 0 64 dbT)) (hh1 : HE.holds w g (.fn o (o + l.length) (ints l o))) (hh2 : HE.holds w q (.fn u (u + k) (u64s ws u))) (hW : okW l) (hk : k < l.length) (hws : ∀ i, i < k → ws i ≤ 18446744073709551615) (hx : xn ≤ 18446744073709551615) (hkb : k ≤ cq ∧ cq ≤ 9223372036854775807) :
    Calls Tryd.prog 6 #[sc g o l.length c, sc q u k cq, vi iq, vu ((xn : Nat) : Int)] w fun e w' => e = .returned (vb true) ∧ Fr w w' no no := by
 have hk0 := okW_chk.2 hW
 refine enter (args := [sc g o l.length c, sc q u k cq, vi iq, vu ((xn : Nat) : Int)]) (D := no) (A := []) Tryd.func6 rfl 111 rfl [(1, .fn 0 64 dbT), (g, .fn o (o + l.length) (ints l o)), (q, .fn u (u + k) (u64s ws u))] (WS.startL ⟨⟨rfl, hh0⟩, ⟨rfl, hh1⟩, ⟨rfl, hh2⟩, trivial⟩) fun ac hS => ?_
 refine hS.regS [0] [0, 1, 2, 3] fun _ => seg [] [(0, none), (1, none), (2, none)] [] trivial fun ac wd hS => ?_
 refine wp_seq ?_
 refine wp_region_seq ?_
 refine hS.call0 30 #[] 21 (law05_awake  _ (hS.mem.get 0 1 (.fn 0 64 dbT)) ) fun ac wd hS => ?_
 refine hS.opsC 1 [0] [0, 1, 2, 3] fun _ => seg [(22, vb false)] [(0, none), (1, none), (2, none)] [] trivial fun ac wd hS => ?_
 refine list_nil_seq ?_
 refine hS.condF ?_
 refine wp_skip ?_
 refine pop_then ?_
 refine wp_seq ?_
 refine wp_region_seq ?_
 refine hS.opsC 1 [0] [0, 1, 2, 3] fun _ => seg [(23, sc g o l.length c)] [(0, none), (1, none), (2, none)] [] trivial fun ac wd hS => ?_
 refine hS.call0 32 #[sc g o l.length c] 24 (ref05_Check g o c l _ (hS.mem.get 1 g (.fn o (o + l.length) (ints l o))) ) fun ac wd hS => ?_
 refine hS.opsC 8 [0, 0, 3, 3, 3, 3, 3, 80] [0, 1, 2, 3] fun _ => seg [(32, vb ((((chkW l) : Int) != 0) || (decide ((((k : Nat) : Int) : Int) < ((l.length : Nat) : Int)))))] [(0, none), (1, none), (2, none)] [] trivial fun ac wd hS => ?_
 refine list_nil_seq ?_
 refine hS.condK ((((chkW l) : Int) != 0) || (decide ((((k : Nat) : Int) : Int) < ((l.length : Nat) : Int)))) true (by rw [hk0]; simp; omega) ?_
 show Code.wp _ _ _ _ _
 refine hS.regS [0] [] fun _ => seg [(8, vb true)] [(0, none)] [] trivial fun ac wd hS => ?_
 refine wp_ret ?_
 refine pop_then_ret ?_
 refine St.retC 0 hS (vb true) [] trivial fun hw => ?_
 refine ⟨retd rfl, hw.fr0⟩

set_option maxRecDepth 100000 in
set_option maxHeartbeats 1000000 in
theorem law05_FieldBack_few0 (g : Nat) (o : Nat) (c : Nat) (l : List Int) (ao : Option Addr) (cz : Nat) (iq : Int) (xn : Nat) (w : World) (hh0 : HE.holds w 1 (.fn 0 64 dbT)) (hh1 : HE.holds w g (.fn o (o + l.length) (ints l o))) (hW : okW l) :
    Calls Tryd.prog 6 #[sc g o l.length c, .slice ao 0 cz, vi iq, vu ((xn : Nat) : Int)] w fun e w' => e = .returned (vb true) ∧ Fr w w' no no := by
 have hk0 := okW_chk.2 hW
 obtain ⟨hW1, hW2, hW3⟩ := id hW
 have hsb := fun n => sumT_bd hW n
 refine enter (args := [sc g o l.length c, .slice ao 0 cz, vi iq, vu ((xn : Nat) : Int)]) (D := no) (A := []) Tryd.func6 rfl 111 rfl [(1, .fn 0 64 dbT), (g, .fn o (o + l.length) (ints l o))] (WS.startL ⟨⟨rfl, hh0⟩, ⟨rfl, hh1⟩, trivial⟩) fun ac hS => ?_
 refine hS.regS [0] [0, 1, 2, 3] fun _ => seg [] [(0, none), (1, none)] [] trivial fun ac wd hS => ?_
 refine wp_seq ?_
 refine wp_region_seq ?_
 refine hS.call0 30 #[] 21 (law05_awake  _ (hS.mem.get 0 1 (.fn 0 64 dbT)) ) fun ac wd hS => ?_
 refine hS.opsC 1 [0] [0, 1, 2, 3] fun _ => seg [(22, vb false)] [(0, none), (1, none)] [] trivial fun ac wd hS => ?_
 refine list_nil_seq ?_
 refine hS.condF ?_
 refine wp_skip ?_
 refine pop_then ?_
 refine wp_seq ?_
 refine wp_region_seq ?_
 refine hS.opsC 1 [0] [0, 1, 2, 3] fun _ => seg [(23, sc g o l.length c)] [(0, none), (1, none)] [] trivial fun ac wd hS => ?_
 refine hS.call0 32 #[sc g o l.length c] 24 (ref05_Check g o c l _ (hS.mem.get 1 g (.fn o (o + l.length) (ints l o))) ) fun ac wd hS => ?_
 refine hS.opsC 8 [0, 0, 3, 3, 3, 3, 3, 80] [0, 1, 2, 3] fun _ => seg [(32, vb ((((chkW l) : Int) != 0) || (decide ((0 : Int) < ((l.length : Nat) : Int)))))] [(0, none), (1, none)] [] trivial fun ac wd hS => ?_
 refine list_nil_seq ?_
 refine hS.condK ((((chkW l) : Int) != 0) || (decide ((0 : Int) < ((l.length : Nat) : Int)))) true (by rw [hk0]; simp; omega) ?_
 show Code.wp _ _ _ _ _
 refine hS.regS [0] [] fun _ => seg [(8, vb true)] [(0, none)] [] trivial fun ac wd hS => ?_
 refine wp_ret ?_
 refine pop_then_ret ?_
 refine St.retC 0 hS (vb true) [] trivial fun hw => ?_
 refine ⟨retd rfl, hw.fr0⟩

set_option maxRecDepth 100000 in
set_option maxHeartbeats 1000000 in
theorem law05_FieldBack_no (g : Nat) (o : Nat) (c : Nat) (l : List Int) (ao : Option Addr) (kk : Nat) (cz : Nat) (iq : Int) (xn : Nat) (w : World) (hh0 : HE.holds w 1 (.fn 0 64 dbT)) (hh1 : HE.holds w g (.fn o (o + l.length) (ints l o))) (hN : chkW l ≠ 0) :
    Calls Tryd.prog 6 #[sc g o l.length c, .slice ao kk cz, vi iq, vu ((xn : Nat) : Int)] w fun e w' => e = .returned (vb true) ∧ Fr w w' no no := by
 refine enter (args := [sc g o l.length c, .slice ao kk cz, vi iq, vu ((xn : Nat) : Int)]) (D := no) (A := []) Tryd.func6 rfl 111 rfl [(1, .fn 0 64 dbT), (g, .fn o (o + l.length) (ints l o))] (WS.startL ⟨⟨rfl, hh0⟩, ⟨rfl, hh1⟩, trivial⟩) fun ac hS => ?_
 refine hS.regS [0] [0, 1, 2, 3] fun _ => seg [] [(0, none), (1, none)] [] trivial fun ac wd hS => ?_
 refine wp_seq ?_
 refine wp_region_seq ?_
 refine hS.call0 30 #[] 21 (law05_awake  _ (hS.mem.get 0 1 (.fn 0 64 dbT)) ) fun ac wd hS => ?_
 refine hS.opsC 1 [0] [0, 1, 2, 3] fun _ => seg [(22, vb false)] [(0, none), (1, none)] [] trivial fun ac wd hS => ?_
 refine list_nil_seq ?_
 refine hS.condF ?_
 refine wp_skip ?_
 refine pop_then ?_
 refine wp_seq ?_
 refine wp_region_seq ?_
 refine hS.opsC 1 [0] [0, 1, 2, 3] fun _ => seg [(23, sc g o l.length c)] [(0, none), (1, none)] [] trivial fun ac wd hS => ?_
 refine hS.call0 32 #[sc g o l.length c] 24 (ref05_Check g o c l _ (hS.mem.get 1 g (.fn o (o + l.length) (ints l o))) ) fun ac wd hS => ?_
 refine hS.opsC 8 [0, 0, 3, 3, 3, 3, 3, 80] [0, 1, 2, 3] fun _ => seg [(32, vb ((((chkW l) : Int) != 0) || (decide ((((kk : Nat) : Int) : Int) < ((l.length : Nat) : Int)))))] [(0, none), (1, none)] [] trivial fun ac wd hS => ?_
 refine list_nil_seq ?_
 refine hS.condK ((((chkW l) : Int) != 0) || (decide ((((kk : Nat) : Int) : Int) < ((l.length : Nat) : Int)))) true (by simp [hN]) ?_
 show Code.wp _ _ _ _ _
 refine hS.regS [0] [] fun _ => seg [(8, vb true)] [(0, none)] [] trivial fun ac wd hS => ?_
 refine wp_ret ?_
 refine pop_then_ret ?_
 refine St.retC 0 hS (vb true) [] trivial fun hw => ?_
 refine ⟨retd rfl, hw.fr0⟩

set_option maxRecDepth 100000 in
set_option maxHeartbeats 1000000 in
theorem law05_FieldBack_nil (ao : Option Addr) (c : Nat) (ao2 : Option Addr) (kk : Nat) (cz : Nat) (iq : Int) (xn : Nat) (w : World) (hh0 : HE.holds w 1 (.fn 0 64 dbT)) :
    Calls Tryd.prog 6 #[.slice ao 0 c, .slice ao2 kk cz, vi iq, vu ((xn : Nat) : Int)] w fun e w' => e = .returned (vb true) ∧ Fr w w' no no := by
 refine enter (args := [.slice ao 0 c, .slice ao2 kk cz, vi iq, vu ((xn : Nat) : Int)]) (D := no) (A := []) Tryd.func6 rfl 111 rfl [(1, .fn 0 64 dbT)] (WS.startL ⟨⟨rfl, hh0⟩, trivial⟩) fun ac hS => ?_
 refine hS.regS [0] [0, 1, 2, 3] fun _ => seg [] [(0, none)] [] trivial fun ac wd hS => ?_
 refine wp_seq ?_
 refine wp_region_seq ?_
 refine hS.call0 30 #[] 21 (law05_awake  _ (hS.mem.get 0 1 (.fn 0 64 dbT)) ) fun ac wd hS => ?_
 refine hS.opsC 1 [0] [0, 1, 2, 3] fun _ => seg [(22, vb false)] [(0, none)] [] trivial fun ac wd hS => ?_
 refine list_nil_seq ?_
 refine hS.condF ?_
 refine wp_skip ?_
 refine pop_then ?_
 refine wp_seq ?_
 refine wp_region_seq ?_
 refine hS.opsC 1 [0] [0, 1, 2, 3] fun _ => seg [(23, .slice ao 0 c)] [(0, none)] [] trivial fun ac wd hS => ?_
 refine hS.call0 32 #[.slice ao 0 c] 24 (ref05_Check_nil ao c _  ) fun ac wd hS => ?_
 refine hS.opsC 8 [0, 0, 2, 2, 2, 2, 2, 70] [0, 1, 2, 3] fun _ => seg [(32, vb true)] [(0, none)] [.t true, .t true, .t true, .t true, .t true, .t true] trivial fun ac wd hS => ?_
 refine list_nil_seq ?_
 refine hS.condT ?_
 refine hS.regS [0] [] fun _ => seg [(8, vb true)] [(0, none)] [] trivial fun ac wd hS => ?_
 refine wp_ret ?_
 refine pop_then_ret ?_
 refine St.retC 0 hS (vb true) [] trivial fun hw => ?_
 refine ⟨retd rfl, hw.fr0⟩

end Go.Proofs.YtghohcgbmceiaaaDoor.K
