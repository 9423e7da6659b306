/-
  Walks, printed by w2.py.
-/
import Derived.Test.YthgkiieenojcpaaDoorYb
import Derived.Test.YthgkiieenojcpaaDoorYc
import Derived.Test.YthgkiieenojcpaaDoorProg
namespace Go.Proofs.YthgkiieenojcpaaDoor.K
set_option linter.unusedVariables false
set_option linter.unusedSimpArgs false

theorem ar_Fill_k (b : Nat) (F : Nat → Prop) (m : AM) (a : Int) (n : Int) (c : Int) (w : World) (hr : (arR b F m).R w) (hc : 0 ≤ c ∧ c ≤ 255) :
    Calls Tryd.prog 56 #[pt b 0, vi a, vi n, v8 c] w fun e w' => ∃ (F' : Nat → Prop), e = .returned (vi (chkE m a n)) ∧ (arR b F' (filM m a n (u8 c))).R w' ∧ Fr w w' F F' := by
 have h_ := ar_Fill b F m a n (u8 c) w hr
 rw [u8_toNat hc] at h_
 exact h_

set_option maxRecDepth 100000 in
set_option maxHeartbeats 1000000 in
theorem law05_FieldTexts (size : Int) (at_ : Int) (most : Int) (s : ByteArray) (w : World) (hh0 : HE.holds w 0 (.fn 0 64 dbT)) :
    Calls Tryd.prog 10 #[vi size, vi at_, vi most, .string s] w fun e w' => e = .returned (vb true) ∧ Fr w w' no no := by
 refine enter (args := [vi size, vi at_, vi most, .string s]) (D := no) (A := []) Tryd.func10 rfl 101 rfl [(0, .fn 0 64 dbT)] (WS.startL ⟨⟨rfl, hh0⟩, trivial⟩) fun ac hS => ?_
 refine hS.regS [0] [0, 1, 2, 3] fun _ => seg [] [(0, none)] [] trivial fun ac wd hS => ?_
 refine wp_seq ?_
 refine wp_region_seq ?_
 refine hS.call0 54 #[] 19 (law05_awake  _ (hS.mem.get 0 0 (.fn 0 64 dbT)) ) fun ac wd hS => ?_
 refine hS.opsC 1 [0] [0, 1, 2, 3] fun _ => seg [(20, vb false)] [(0, none)] [] trivial fun ac wd hS => ?_
 refine list_nil_seq ?_
 refine hS.condF ?_
 refine wp_skip ?_
 refine pop_then ?_
 refine wp_seq ?_
 refine hS.regS [0, 0, 0, 3, 3, 80, 0, 3, 3, 3, 80] [0, 1, 2, 3] fun _ => seg [(31, vb (((decide ((size : Int) < 0)) || (decide ((400 : Int) < size))) || (decide ((300 : Int) < ((ByteArray.size s : Nat) : Int)))))] [(0, none)] [] trivial fun ac wd hS => ?_
 refine hS.condC (((decide ((size : Int) < 0)) || (decide ((400 : Int) < size))) || (decide ((300 : Int) < ((ByteArray.size s : Nat) : Int)))) (fun hb1o hb1 => ?_) (fun hb1o hb1 => ?_)
 ·
  refine hS.regS [0] [] fun _ => seg [(8, vb true)] [(0, none)] [] trivial fun ac wd hS => ?_
  refine wp_ret ?_
  refine pop_then_ret ?_
  refine St.retC 0 hS (vb true) [] trivial fun hw => ?_
  refine ⟨retd rfl, hw.fr0⟩
 ·
  refine wp_skip ?_
  refine pop_then ?_
  refine wp_region_seq ?_
  refine hS.opsC 1 [0] [1, 2, 3] fun _ => seg [(33, vi size)] [(0, none)] [] trivial fun ac wd hS => ?_
  refine hS.callC 55 #[vi size] (law05_page size _  (by omega)) ?_
  rintro _ wd ⟨b'2, g23, u24, cp25, rf26, F7, rfl, hN, hF⟩
  refine ⟨.tuple #[pt b'2 0, .agg #[pt b'2 0, vi 10, vi size], .agg #[sc g23 u24 1 cp25, vi rf26], .agg #[vi 10, vi size], vb true], rfl, ?_⟩
  replace hS := (hS.to (hS.mem.newA hN hF)).put (d := 34) (v := .tuple #[pt b'2 0, .agg #[pt b'2 0, vi 10, vi size], .agg #[sc g23 u24 1 cp25, vi rf26], .agg #[vi 10, vi size], vb true]) (by decide)
  clear hF
  refine hS.opsC 14 [0, 0, 0, 0, 0, 0, 0, 0, 0, 0, 100, 200, 300, 0] [1, 2, 3] fun ν6 => seg [(9, pt b'2 0), (10, pt (ν6 0) 0), (13, vb true)] [(0, none), (1, some ((ν6 0), .cells [pt b'2 0, vi 10, vi size] 72))] [.e (ν6 2), .e (ν6 2), .e (ν6 1), .e (ν6 1), .e (ν6 0), .e (ν6 0), .e (ν6 0)] trivial fun ac wd hS => ?_
  refine list_nil_seq ?_
  refine wp_seq ?_
  refine wp_region_seq ?_
  refine hS.opsC 3 [0, 0, 0] [1, 2, 3, 9, 10] fun _ => seg [(42, vb false)] [(0, none), (1, none)] [] trivial fun ac wd hS => ?_
  refine hS.opsC 1 [1] [1, 2, 3, 9, 10, 42] fun _ => seg [(43, pt b'2 0)] [(0, none), (1, none)] [.t false] trivial fun ac wd hS => ?_
  refine hS.callG false 56 #[pt b'2 0, vi 0, vi 4096, v8 255] (ar_Fill_k b'2 F7 (comM (AM.new 1) 0 1) 0 4096 255 _ (hS.mem.res 0) (by decide)) ?_
  rintro _ wd ⟨F8, rfl, hA, hF⟩
  refine ⟨vi (chkE (comM (AM.new 1) 0 1) 0 4096), rfl, ?_⟩
  replace hS := (hS.to (hS.mem.stepA 0 rfl hA hF)).put (d := 44) (v := vi (chkE (comM (AM.new 1) 0 1) 0 4096)) (by decide)
  clear hF
  refine hS.opsC 2 [1, 60] [1, 2, 3, 9, 10] fun _ => seg [(46, vb (((chkE (comM (AM.new 1) 0 1) 0 4096) : Int) != 0))] [(0, none), (1, none)] [.t false, .t false] trivial fun ac wd hS => ?_
  refine list_nil_seq ?_
  refine hS.condK (((chkE (comM (AM.new 1) 0 1) 0 4096) : Int) != 0) false (by decide +kernel) ?_
  show Code.wp _ _ _ _ _
  refine wp_skip ?_
  refine pop_then ?_
  obtain ⟨M, M_e⟩ : ∃ q_ : AM, q_ = (filM (comM (AM.new 1) 0 1) 0 4096 (u8 255)) := ⟨_, rfl⟩
  replace hS := hS.to (hS.mem.arTell (b := b'2) (F := F8) (m := (filM (comM (AM.new 1) 0 1) 0 4096 (u8 255))) (m' := M) 0 M_e.symm)
  have hM : ∀ x, x < 4096 → M.mem x = 255 := by rw [M_e]; exact fun x hx => ff_mem hx
  have hMt : thr M 0 4096 = true := by rw [M_e]; exact ff_thr
  clear M_e
  have hsz := byt_4096s ((fpM_thr M 10 size at_ most s 0 4096).trans hMt)
  refine wp_region_seq ?_
  refine hS.opsC 4 [100, 0, 0, 0] [1, 2, 3, 9, 10] fun _ => seg [(47, .agg #[pt b'2 0, vi 10, vi size]), (48, vi at_), (49, vi most), (50, .string s)] [(0, none), (1, none)] [.e (ν6 0), .e (ν6 0), .e (ν6 0)] trivial fun ac wd hS => ?_
  refine hS.callC 57 #[.agg #[pt b'2 0, vi 10, vi size], vi at_, vi most, .string s] (fd_PutText b'2 F8 M 10 size at_ most s _ (hS.mem.res 0) (by first | assumption | omega | (simp_all; done) | (simp_all; omega))) ?_
  rintro _ wd ⟨F9, rfl, hA, hF⟩
  refine ⟨vi (fpE M 10 size at_ most s), rfl, ?_⟩
  replace hS := (hS.to (hS.mem.stepA 0 rfl hA hF)).put (d := 51) (v := vi (fpE M 10 size at_ most s)) (by decide)
  clear hF
  refine hS.opsC 1 [0] [1, 2, 3, 9, 10] fun _ => seg [(14, vi (fpE M 10 size at_ most s))] [(0, none), (1, none)] [] trivial fun ac wd hS => ?_
  refine list_nil_seq ?_
  refine wp_region_seq ?_
  refine hS.opsC 1 [0] [1, 2, 3, 10, 14] fun _ => seg [(53, pt b'2 0)] [(0, none), (1, none)] [] trivial fun ac wd hS => ?_
  refine hS.call0 42 #[pt b'2 0, vi 0, vi 4096] 54 (ar_Bytes b'2 F9 (fpM M 10 size at_ most s) 0 4096 _ (hS.mem.res 0) ) fun ac wd hS => ?_
  refine hS.opsC 5 [0, 0, 0, 0, 0] [1, 2, 3, 10, 14] fun _ => seg [(15, .string (bytS (fpM M 10 size at_ most s) 0 4096))] [(0, none), (1, none)] [] trivial fun ac wd hS => ?_
  refine list_nil_seq ?_
  refine wp_seq ?_
  refine hS.regS [0, 0] [1, 2, 3, 10, 15] fun _ => seg [(58, vb (((fpE M 10 size at_ most s) : Int) != 0))] [(0, none), (1, none)] [] trivial fun ac wd hS => ?_
  refine hS.condC (((fpE M 10 size at_ most s) : Int) != 0) (fun hb10o hb10 => ?_) (fun hb10o hb10 => ?_)
  ·
   have hA9 := fx_all hM hMt hb10
   refine wp_region_seq ?_
   refine hS.opsC 1 [0] [] fun _ => seg [(59, .string (bytS (fpM M 10 size at_ most s) 0 4096))] [(0, none)] [] trivial fun ac wd hS => ?_
   refine hS.call0 53 #[.string (⟨#[255]⟩ : ByteArray), vi 4096] 60 (str_Repeat (⟨#[255]⟩ : ByteArray) 4096 _  (by (have h9 : (⟨#[255]⟩ : ByteArray).size = 1 := rfl; rw [h9]; omega))) fun ac wd hS => ?_
   refine hS.opsC 2 [0, 0] [] fun _ => seg [(8, vb (ByteArray.toList (bytS (fpM M 10 size at_ most s) 0 4096) == ByteArray.toList (repS (⟨#[255]⟩ : ByteArray) (Int.toNat 4096))))] [(0, none)] [] trivial fun ac wd hS => ?_
   refine list_nil_seq ?_
   refine wp_ret ?_
   refine pop_then_ret ?_
   refine St.retC 0 hS (vb (ByteArray.toList (bytS (fpM M 10 size at_ most s) 0 4096) == ByteArray.toList (repS (⟨#[255]⟩ : ByteArray) (Int.toNat 4096)))) [] trivial fun hw => ?_
   refine ⟨retd (vbool ?_), hw.fr0⟩
   all_goals (first | rfl | (rw [hA9]; exact beq_self_eq_true _) | (rw [hB2]; exact beq_self_eq_true _))
  ·
   have hE0 : fpE M 10 size at_ most s = 0 := hb10
   obtain ⟨hy1, hy2, _, _⟩ := fp_in hE0
   obtain ⟨hT1, hT2⟩ := txt_back hE0 (by decide)
   have hB1 := fx_front hM hMt hE0 (by omega)
   have hB2 := fx_back hM hMt hE0 (by omega)
   refine wp_skip ?_
   refine pop_then ?_
   refine wp_region_seq ?_
   refine hS.opsC 3 [100, 0, 0] [1, 2, 3, 15] fun _ => seg [(63, .agg #[pt b'2 0, vi 10, vi size]), (64, vi at_), (65, vi most)] [(0, none)] [.e (ν6 0), .e (ν6 0), .e (ν6 0)] trivial fun ac wd hS => ?_
   refine hS.call0 58 #[.agg #[pt b'2 0, vi 10, vi size], vi at_, vi most] 66 (fd_Text b'2 F9 (fpM M 10 size at_ most s) 10 size at_ most _ (hS.mem.res 0) (by first | assumption | omega | (simp_all; done) | (simp_all; omega))) fun ac wd hS => ?_
   refine hS.opsC 5 [0, 0, 0, 0, 0] [1, 2, 3, 15] fun _ => seg [(17, .string (ftV (fpM M 10 size at_ most s) 10 size at_ most)), (18, vi (ftE (fpM M 10 size at_ most s) 10 size at_ most))] [(0, none)] [] trivial fun ac wd hS => ?_
   refine list_nil_seq ?_
   refine St.ordBeginS [(0, 1), (1, 1), (2, 1), (3, 1), (4, 1), (5, 1), (6, 1), (7, 1), (8, 1), (9, 1), (10, 1), (11, 1), (12, 1), (13, 1), (14, 0), (15, 1), (16, 1), (17, 1), (18, 1), (19, 1), (20, 1), (21, 1), (22, 1), (23, 1), (24, 1), (25, 1), (26, 1), (27, 1), (28, 1), (29, 0), (30, 1), (31, 1), (32, 1)] [(0, .fn 0 64 dbT)] [0] hS fun wd hS => ?_
   have hap := hS.mem.pairs (Hf := [(0, .fn 0 64 dbT)]) (l := [0])
   refine St.ordF [0, 0, 0] [0, 1, 2] [1, 2, 3, 15, 17] (rest := [(3, 1), (4, 1), (5, 1), (6, 1), (7, 1), (8, 1), (9, 1), (10, 1), (11, 1), (12, 1), (13, 1), (14, 0), (15, 1), (16, 1), (17, 1), (18, 1), (19, 1), (20, 1), (21, 1), (22, 1), (23, 1), (24, 1), (25, 1), (26, 1), (27, 1), (28, 1), (29, 0), (30, 1), (31, 1), (32, 1)]) hS hap <| segF [(71, vb (((ftE (fpM M 10 size at_ most s) 10 size at_ most) : Int) == 0))] [] trivial fun ac hS => ?_
   have hk11 : (((ftE (fpM M 10 size at_ most s) 10 size at_ most) : Int) == 0) = true := by (rw [← hT2]; rfl)
   replace hS := hS.fix 71 (vb true) (congrArg Value.bool hk11)
   refine St.ordF [1, 1, 1, 70, 0] [3, 4, 5, 6, 7] [1, 2, 15] (rest := [(8, 1), (9, 1), (10, 1), (11, 1), (12, 1), (13, 1), (14, 0), (15, 1), (16, 1), (17, 1), (18, 1), (19, 1), (20, 1), (21, 1), (22, 1), (23, 1), (24, 1), (25, 1), (26, 1), (27, 1), (28, 1), (29, 0), (30, 1), (31, 1), (32, 1)]) hS hap <| segF [(76, vb (ByteArray.toList (ftV (fpM M 10 size at_ most s) 10 size at_ most) == ByteArray.toList s))] [.t true, .t true, .t true, .t true] trivial fun ac hS => ?_
   have hk12 : (ByteArray.toList (ftV (fpM M 10 size at_ most s) 10 size at_ most) == ByteArray.toList s) = true := by (rw [← hT1]; exact beq_self_eq_true _)
   replace hS := hS.fix 76 (vb true) (congrArg Value.bool hk12)
   refine St.ordF [1, 1, 21, 11, 1, 21] [8, 9, 10, 11, 12, 13] [1, 2, 15, 76] (rest := [(14, 0), (15, 1), (16, 1), (17, 1), (18, 1), (19, 1), (20, 1), (21, 1), (22, 1), (23, 1), (24, 1), (25, 1), (26, 1), (27, 1), (28, 1), (29, 0), (30, 1), (31, 1), (32, 1)]) hS hap <| segF [(80, .string (ByteArray.extract (bytS (fpM M 10 size at_ most s) 0 4096) (Int.toNat (0 : Int)) (Int.toNat (10 + at_)))), (82, vi (10 + at_))] [.t true, .p (fit .i64 (10 + at_)), .t true, .t true, .p (0 ≤ (0 : Int) ∧ (0 : Int) ≤ (10 + at_) ∧ (10 + at_) ≤ (ByteArray.size (bytS (fpM M 10 size at_ most s) 0 4096) : Int)), .t true, .p (fit .i64 (10 + at_)), .t true, .t true] ⟨fit_i64 (by omega), (by omega), fit_i64 (by omega), trivial⟩ fun ac hS => ?_
   refine hS.ordCG 14 true 53 #[.string (⟨#[255]⟩ : ByteArray), vi (10 + at_)] (str_Repeat (⟨#[255]⟩ : ByteArray) (10 + at_) _  (by (have h9 : (⟨#[255]⟩ : ByteArray).size = 1 := rfl; rw [h9]; omega))) ?_
   rintro _ wd ⟨rfl, hF⟩
   refine ⟨.string (repS (⟨#[255]⟩ : ByteArray) (Int.toNat (10 + at_))), rfl, ?_⟩
   replace hS := (hS.to (hS.mem.keep0 hF)).put (d := 83) (v := .string (repS (⟨#[255]⟩ : ByteArray) (Int.toNat (10 + at_)))) (by decide)
   clear hF
   refine hS.ordV (l := [0]) ?_
   refine St.ordF [1, 70, 0] [15, 16, 17] [1, 2, 15] (rest := [(18, 1), (19, 1), (20, 1), (21, 1), (22, 1), (23, 1), (24, 1), (25, 1), (26, 1), (27, 1), (28, 1), (29, 0), (30, 1), (31, 1), (32, 1)]) hS hap <| segF [(86, vb (ByteArray.toList (ByteArray.extract (bytS (fpM M 10 size at_ most s) 0 4096) (Int.toNat (0 : Int)) (Int.toNat (10 + at_))) == ByteArray.toList (repS (⟨#[255]⟩ : ByteArray) (Int.toNat (10 + at_)))))] [.t true, .t true] trivial fun ac hS => ?_
   have hk13 : (ByteArray.toList (ByteArray.extract (bytS (fpM M 10 size at_ most s) 0 4096) (Int.toNat (0 : Int)) (Int.toNat (10 + at_))) == ByteArray.toList (repS (⟨#[255]⟩ : ByteArray) (Int.toNat (10 + at_)))) = true := by (rw [hB1]; exact beq_self_eq_true _)
   replace hS := hS.fix 86 (vb true) (congrArg Value.bool hk13)
   refine St.ordF [1, 1, 21, 1, 21, 21, 11, 1, 21, 1, 21] [18, 19, 20, 21, 22, 23, 24, 25, 26, 27, 28] [86] (rest := [(29, 0), (30, 1), (31, 1), (32, 1)]) hS hap <| segF [(93, .string (ByteArray.extract (bytS (fpM M 10 size at_ most s) 0 4096) (Int.toNat (((10 + at_) + most) + 1)) (Int.toNat ((ByteArray.size (bytS (fpM M 10 size at_ most s) 0 4096) : Nat) : Int)))), (97, vi ((4085 - at_) - most))] [.t true, .p (fit .i64 ((4085 - at_) - most)), .t true, .t true, .p (fit .i64 (4085 - at_)), .t true, .t true, .p (0 ≤ (((10 + at_) + most) + 1) ∧ (((10 + at_) + most) + 1) ≤ ((ByteArray.size (bytS (fpM M 10 size at_ most s) 0 4096) : Nat) : Int) ∧ ((ByteArray.size (bytS (fpM M 10 size at_ most s) 0 4096) : Nat) : Int) ≤ (ByteArray.size (bytS (fpM M 10 size at_ most s) 0 4096) : Int)), .t true, .p (fit .i64 (((10 + at_) + most) + 1)), .t true, .p (fit .i64 ((10 + at_) + most)), .t true, .t true, .p (fit .i64 (10 + at_)), .t true, .t true] ⟨fit_i64 (by omega), fit_i64 (by omega), (by omega), fit_i64 (by omega), fit_i64 (by omega), fit_i64 (by omega), trivial⟩ fun ac hS => ?_
   refine hS.ordCG 29 true 53 #[.string (⟨#[255]⟩ : ByteArray), vi ((4085 - at_) - most)] (str_Repeat (⟨#[255]⟩ : ByteArray) ((4085 - at_) - most) _  (by (have h9 : (⟨#[255]⟩ : ByteArray).size = 1 := rfl; rw [h9]; omega))) ?_
   rintro _ wd ⟨rfl, hF⟩
   refine ⟨.string (repS (⟨#[255]⟩ : ByteArray) (Int.toNat ((4085 - at_) - most))), rfl, ?_⟩
   replace hS := (hS.to (hS.mem.keep0 hF)).put (d := 98) (v := .string (repS (⟨#[255]⟩ : ByteArray) (Int.toNat ((4085 - at_) - most)))) (by decide)
   clear hF
   refine hS.ordV (l := [0]) ?_
   refine St.ordF [1, 70, 0] [30, 31, 32] [] (rest := []) hS hap <| segF [(8, vb (ByteArray.toList (ByteArray.extract (bytS (fpM M 10 size at_ most s) 0 4096) (Int.toNat (((10 + at_) + most) + 1)) (Int.toNat ((ByteArray.size (bytS (fpM M 10 size at_ most s) 0 4096) : Nat) : Int))) == ByteArray.toList (repS (⟨#[255]⟩ : ByteArray) (Int.toNat ((4085 - at_) - most)))))] [.t true, .t true] trivial fun ac hS => ?_
   refine ord_nil ?_
   refine wp_ret ?_
   refine St.retC 0 hS (vb (ByteArray.toList (ByteArray.extract (bytS (fpM M 10 size at_ most s) 0 4096) (Int.toNat (((10 + at_) + most) + 1)) (Int.toNat ((ByteArray.size (bytS (fpM M 10 size at_ most s) 0 4096) : Nat) : Int))) == ByteArray.toList (repS (⟨#[255]⟩ : ByteArray) (Int.toNat ((4085 - at_) - most))))) [] trivial fun hw => ?_
   refine ⟨retd (vbool ?_), hw.fr0⟩
   all_goals (first | rfl | (rw [hA9]; exact beq_self_eq_true _) | (rw [hB2]; exact beq_self_eq_true _))

end Go.Proofs.YthgkiieenojcpaaDoor.K
