/-
  Walks, printed by w2.py.
-/
import Derived.Test.YtdjhdcaanmkblaaDoorM3
import Derived.Test.YtdjhdcaanmkblaaDoorProg
namespace Go.Proofs.YtdjhdcaanmkblaaDoor.K
set_option linter.unusedVariables false
set_option linter.unusedSimpArgs false

set_option maxRecDepth 100000 in
set_option maxHeartbeats 1000000 in
theorem ref03_Num (v : Int) (k : Int) (w : World) (hv : 0 ≤ v ∧ v ≤ 18446744073709551615) (hk : k ≤ 4294967296) :
    Calls Tryd.prog 112 #[vu v, vi k] w fun e w' => e = .returned (.string (numB v (Int.toNat k))) ∧ Fr w w' no no := by
 refine enter (args := [vu v, vi k]) (D := no) (A := []) Tryd.func112 rfl 22 rfl [] (WS.startL trivial) fun ac hS => ?_
 refine hS.regS [0] [0, 1] fun _ => seg [] [] [] trivial fun ac wd hS => ?_
 replace hS := hS.to (hS.mem.bufNew 5)
 refine hS.regS [0] [0, 1] fun _ => seg [(5, vnil)] [] [] trivial fun ac wd hS => ?_
 refine wp_seq ?_
 refine hS.regS [0] [0, 1, 5] fun _ => seg [(6, vi 0)] [] [] trivial fun ac wd hS => ?_
 refine wp_block ?_
 refine St.loopC (σ := Int × Int × Option Addr × Nat × (Nat → Prop) × ByteArray) (fun (x : Int × Int × Option Addr × Nat × (Nat → Prop) × ByteArray) => match x with | (x0, x6, xo, xc, Fx, sx) => ⟨[(0, [], vu x0), (1, [], vi k), (5, [], .slice xo (ByteArray.size sx) xc), (6, [], vi x6)], [], [bufR 5 (.slice xo (ByteArray.size sx) xc) Fx sx], (0 ≤ x6 ∧ (x6 ≤ k ∨ x6 = 0)) ∧ (sx = numB v (Int.toNat x6)) ∧ (x0 = v / 256 ^ Int.toNat x6) ∧ (0 ≤ x0 ∧ x0 ≤ 18446744073709551615) ∧ True, Int.toNat (k - x6)⟩) (v, 0, none, 0, no, ByteArray.empty) ⟨(by first | omega | rfl | exact (num_zero v)), (by first | omega | rfl | exact (num_zero v)), (by first | omega | rfl | exact (num_zero v)), (by first | omega | rfl | exact (num_zero v)), trivial⟩ hS ?_
 clear hS
 rintro ⟨x0, x6, xo, xc, Fx, sx⟩ ⟨i0, i1, i2, i3, -⟩ ac wd hS
 replace i0 : 0 ≤ x6 ∧ (x6 ≤ k ∨ x6 = 0) := i0
 replace i1 : sx = numB v (Int.toNat x6) := i1
 replace i2 : x0 = v / 256 ^ Int.toNat x6 := i2
 replace i3 : 0 ≤ x0 ∧ x0 ≤ 18446744073709551615 := i3
 have hsz := numB_size v (Int.toNat x6)
 have hsz2 : sx.size = Int.toNat x6 := by rw [i1, hsz]
 refine wp_seq ?_
 refine hS.regS [0, 0, 0] [0, 1, 5, 6] fun _ => seg [(9, vb (decide ((x6 : Int) < k)))] [] [] trivial fun ac wd hS => ?_
 refine hS.condC (decide ((x6 : Int) < k)) (fun hb1o hb1 => ?_) (fun hb1o hb1 => ?_)
 ·
  refine wp_skip ?_
  refine pop_then ?_
  refine wp_seq ?_
  refine wp_block ?_
  refine wp_region_seq ?_
  refine hS.opsC 5 [0, 0, 20, 0, 0] [0, 1, 5, 6] fun ν5 => seg [(12, .slice xo (ByteArray.size sx) xc), (16, sc (ν5 0) 0 1 1)] [(0, some ((ν5 0), .cells [v8 (IntKind.wrap .u8 (x0 % 256))] 5))] [.p ((256 : Int) ≠ 0 ∧ Int.tmod x0 256 = x0 % 256)] ⟨rem2 (by omega) (by omega), trivial⟩ fun ac wd hS => ?_
  obtain ⟨i_, hi_, hz_, hs_, hb_⟩ := info_get (P := Tryd.prog) (e := 5) (z := v8 0) (s := 1) (b := 1) (by kernel_rfl)
  refine Runs1.list ?_
  refine St.appB hS (.tmp 12) (.tmp 16) 163 rfl rfl (by decide) Tryd.underlying163 hi_ hz_ hs_ (by omega) rfl (b := (ν5 0)) (off := 0) (k := 1) (cp := 1) (fun _ => u8 (IntKind.wrap .u8 (x0 % 256))) (Cells8.one (hS.mem.get 0 (ν5 0) (.cells [v8 (IntKind.wrap .u8 (x0 % 256))] 5)) (by exact wrap_u8 _)) (by omega) (by omega) fun ac wd v2_ F4 hB5 _ hS => ?_
  obtain ⟨xo2, xc3, rfl⟩ := hB5.slice
  refine hS.opsC 1 [0] [0, 1, 6] fun _ => seg [(5, .slice xo2 (ByteArray.size (sx ++ bs (fun _ => u8 (IntKind.wrap .u8 (x0 % 256))) 1)) xc3)] [] [] trivial fun ac wd hS => ?_
  refine list_nil_seq ?_
  refine hS.regC [0, 20, 0] [1, 5, 6] fun _ => seg [(0, vu (x0 / 256))] [] [.p ((256 : Int) ≠ 0 ∧ IntKind.u64.wrap (Int.tdiv x0 256) = x0 / 256)] ⟨quo2_u64 (by omega) (by omega) (by omega), trivial⟩ fun ac wd hS => ?_
  refine pop_block ?_
  refine pop_then ?_
  refine hS.regC [0, 20, 0] [0, 1, 5] fun _ => seg [(6, vi (x6 + 1))] [] [.p (fit .i64 (x6 + 1))] ⟨fit_i64 (by omega), trivial⟩ fun ac wd hS => ?_
  exact pop_then (hS.next ((x0 / 256), (x6 + 1), xo2, xc3, F4, (sx ++ bs (fun _ => u8 (IntKind.wrap .u8 (x0 % 256))) 1)) ⟨(by first | omega | assumption | (simp; done) | (simp; omega)), (by exact num_step i1 i2 (by omega)), (by exact num_div i2 (by omega)), (by first | omega | assumption | (simp; done) | (simp; omega)), trivial⟩ (by dsimp only; omega))
 ·
  refine wp_exit ?_
  refine pop_then_exit ?_
  refine pop_then_exit ?_
  refine pop_block_hit ?_
  refine pop_then ?_
  refine wp_region_seq ?_
  refine hS.opsC 1 [0] [] fun _ => seg [(20, .slice xo (ByteArray.size sx) xc)] [] [] trivial fun ac wd hS => ?_
  refine Runs1.list ?_
  refine St.toStrB hS (.tmp 20) 163 9 rfl rfl (by decide) Tryd.underlying163 Tryd.underlying5 Tryd.underlying9 fun ac hS => ?_
  refine hS.opsC 1 [0] [] fun _ => seg [(4, .string sx)] [] [] trivial fun ac wd hS => ?_
  refine list_nil_seq ?_
  refine wp_ret ?_
  refine St.retC 0 hS (.string sx) [] trivial fun hw => ?_
  refine ⟨retd (vstr ?_), hw.fr0⟩
  all_goals (first | rfl | (rw [i1]; exact congrArg (numB v) (by omega)))

set_option maxRecDepth 100000 in
set_option maxHeartbeats 1000000 in
theorem ref03_Bytes (g : Nat) (u : Nat) (n : Nat) (cp : Nat) (rf : Int) (a : Int) (k : Int) (S : Nat → ByteArray) (w : World) (hh0 : HE.holds w g (.fn u (u + n) (strs S u))) (hn : n ≤ 1048576) (hP : ∀ i, i < n → thereF S i = true → (S i).size = 4096) :
    Calls Tryd.prog 55 #[.agg #[sc g u n cp, vi rf], vi a, vi k] w fun e w' => e = .returned (.tuple #[.string (rBy S n a k), vi (chkE (amS S n) a k)]) ∧ Fr w w' no no := by
 refine enter (args := [.agg #[sc g u n cp, vi rf], vi a, vi k]) (D := no) (A := []) Tryd.func55 rfl 44 rfl [(g, .fn u (u + n) (strs S u))] (WS.startL ⟨⟨rfl, hh0⟩, trivial⟩) fun ac hS => ?_
 refine hS.regS [0, 0, 0] [1, 2] fun ν1 => seg [(3, pt (ν1 0) 0)] [(0, none), (1, some ((ν1 0), .cells [sc g u n cp, vi rf] 30))] [] trivial fun ac wd hS => ?_
 refine wp_seq ?_
 refine wp_region_seq ?_
 refine hS.opsC 3 [100, 0, 0] [1, 2, 3] fun _ => seg [(10, .agg #[sc g u n cp, vi rf]), (11, vi a), (12, vi k)] [(0, none), (1, none)] [.e (ν1 0), .e (ν1 0)] trivial fun ac wd hS => ?_
 refine hS.call0 24 #[.agg #[sc g u n cp, vi rf], vi a, vi k] 13 (ref03_There g u n cp rf a k S _ (hS.mem.get 0 g (.fn u (u + n) (strs S u))) (by first | assumption | omega | (simp_all; done) | (simp_all; omega))) fun ac wd hS => ?_
 refine hS.opsC 1 [0] [1, 2, 3] fun _ => seg [(14, vb (!(thr (amS S n) a k)))] [(0, none), (1, none)] [] trivial fun ac wd hS => ?_
 refine list_nil_seq ?_
 refine hS.condC (!(thr (amS S n) a k)) (fun hb1o hb1 => ?_) (fun hb1o hb1 => ?_)
 ·
  have hno : thr (amS S n) a k = false := by simpa using hb1
  refine hS.regS [0, 0] [] fun _ => seg [(6, .string (⟨#[]⟩ : ByteArray)), (7, vi 3)] [] [] trivial fun ac wd hS => ?_
  refine wp_ret ?_
  refine pop_then_ret ?_
  refine St.retC 0 hS (.tuple #[.string (⟨#[]⟩ : ByteArray), vi 3]) [] trivial fun hw => ?_
  refine ⟨retd (tuple2 (vstr ?_) (vint ?_)), hw.fr0⟩
  all_goals (first | rfl | exact rBy_no hno | exact (chk_three hno).symm | exact (chk_thr hthr).symm | (rw [i1, show Int.toNat (x1 - a) = Int.toNat k by omega]; exact rBy_yes hthr))
 ·
  have hthr : thr (amS S n) a k = true := by simpa using hb1
  obtain ⟨hI1, hI2, hI3, hI4⟩ := inB_facts (thr_in hthr)
  have hI5 : (amS S n).cap = n := rfl
  refine wp_skip ?_
  refine pop_then ?_
  refine hS.regS [0] [1, 2, 3] fun _ => seg [(8, .string (⟨#[]⟩ : ByteArray))] [(0, none), (1, none)] [] trivial fun ac wd hS => ?_
  refine wp_seq ?_
  refine wp_block ?_
  refine St.loopC (σ := Int × Int × ByteArray) (fun (x : Int × Int × ByteArray) => match x with | (x1, x2, x8) => ⟨[(1, [], vi x1), (2, [], vi x2), (3, [], pt (ν1 0) 0), (8, [], .string x8)], [(g, .fn u (u + n) (strs S u)), ((ν1 0), .cells [sc g u n cp, vi rf] 30)], [], (0 ≤ x2 ∧ a ≤ x1 ∧ x1 + x2 = a + k) ∧ (x8 = bs (fun j => memS S (Int.toNat a + j)) (Int.toNat (x1 - a))) ∧ True, Int.toNat x2⟩) (a, k, (⟨#[]⟩ : ByteArray)) ⟨(by first | omega | (rw [show Int.toNat (a - a) = 0 by omega]; rfl)), (by first | omega | (rw [show Int.toNat (a - a) = 0 by omega]; rfl)), trivial⟩ hS ?_
  clear hS
  rintro ⟨x1, x2, x8⟩ ⟨i0, i1, -⟩ ac wd hS
  replace i0 : 0 ≤ x2 ∧ a ≤ x1 ∧ x1 + x2 = a + k := i0
  replace i1 : x8 = bs (fun j => memS S (Int.toNat a + j)) (Int.toNat (x1 - a)) := i1
  have hsz : x8.size = Int.toNat (x1 - a) := by rw [i1, bs_size]
  have him : 0 < x2 → 1 ≤ imin x2 (4096 - (x1 % 4096)) ∧ imin x2 (4096 - (x1 % 4096)) ≤ x2 ∧ imin x2 (4096 - (x1 % 4096)) ≤ 4096 - (x1 % 4096) := fun h => by unfold imin; split <;> omega
  have hpg : 0 < x2 → Int.toNat (x1 / 4096) < n ∧ (S (Int.toNat (x1 / 4096))).size = 4096 := fun h => pg_size hP hthr (by omega) (by omega)
  refine wp_seq ?_
  refine hS.regS [0, 0] [1, 2, 3, 8] fun _ => seg [(16, vb (decide ((0 : Int) < x2)))] [(0, none), (1, none)] [] trivial fun ac wd hS => ?_
  refine hS.condC (decide ((0 : Int) < x2)) (fun hb2o hb2 => ?_) (fun hb2o hb2 => ?_)
  ·
   refine wp_skip ?_
   refine pop_then ?_
   refine wp_block ?_
   refine hS.regS [0, 0, 20, 20, 0, 0] [1, 2, 3, 8] fun _ => seg [(9, vi (imin x2 (4096 - (x1 % 4096))))] [(0, none), (1, none)] [.p (fit .i64 (4096 - (x1 % 4096))), .p ((4096 : Int) ≠ 0 ∧ Int.tmod x1 4096 = x1 % 4096)] ⟨fit_i64 (by first | omega | (have := him (by omega); omega)), rem2 (by omega) (by omega), trivial⟩ fun ac wd hS => ?_
   refine hS.regS [0, 0, 100, 0, 20, 20, fx 0 (.string (S (Int.toNat (x1 / 4096)))), 0, 20, 0, 20, 0, 20, 10, 10, 0] [1, 2, 3, 9] fun _ => seg [(8, .string (x8 ++ (ByteArray.extract (S (Int.toNat (x1 / 4096))) (Int.toNat (x1 % 4096)) (Int.toNat ((x1 % 4096) + (imin x2 (4096 - (x1 % 4096))))))))] [(0, none), (1, none)] [.p (((ByteArray.size x8 + ByteArray.size (ByteArray.extract (S (Int.toNat (x1 / 4096))) (Int.toNat (x1 % 4096)) (Int.toNat ((x1 % 4096) + (imin x2 (4096 - (x1 % 4096)))))) : Nat) : Int) ≤ IntKind.i64.max), .p (0 ≤ (x1 % 4096) ∧ (x1 % 4096) ≤ ((x1 % 4096) + (imin x2 (4096 - (x1 % 4096)))) ∧ ((x1 % 4096) + (imin x2 (4096 - (x1 % 4096)))) ≤ (ByteArray.size (S (Int.toNat (x1 / 4096))) : Int)), .p (fit .i64 ((x1 % 4096) + (imin x2 (4096 - (x1 % 4096))))), .p ((4096 : Int) ≠ 0 ∧ Int.tmod x1 4096 = x1 % 4096), .p ((4096 : Int) ≠ 0 ∧ Int.tmod x1 4096 = x1 % 4096), .p ((((strs S u) (u + Int.toNat (x1 / 4096) * 1)) : Value) = .string (S (Int.toNat (x1 / 4096)))), .e g, .p (u ≤ u + Int.toNat (x1 / 4096) * 1 ∧ u + Int.toNat (x1 / 4096) * 1 < (u + n)), .p ((0 : Int) ≤ (x1 / 4096) ∧ ((x1 / 4096) : Int) < ((n : Nat) : Int)), .p ((4096 : Int) ≠ 0 ∧ IntKind.i64.wrap (Int.tdiv x1 4096) = x1 / 4096), .e (ν1 0)] ⟨(by have h9 : IntKind.i64.max = 9223372036854775807 := rfl; have := him (by omega); have := (hpg (by omega)).2; rw [h9, ByteArray.size_extract]; omega), (by first | omega | (have := him (by omega); have := hpg (by omega); omega)), fit_i64 (by first | omega | (have := him (by omega); omega)), rem2 (by omega) (by omega), rem2 (by omega) (by omega), (strs_rel S u (Int.toNat (x1 / 4096))), (by first | omega | (have := him (by omega); have := hpg (by omega); omega)), (by first | omega | (have := him (by omega); have := hpg (by omega); omega)), quo2 (by omega) (by omega) (by omega), trivial⟩ fun ac wd hS => ?_
   refine hS.regS [0, 0, 20, 0] [2, 3, 8, 9] fun _ => seg [(1, vi (x1 + (imin x2 (4096 - (x1 % 4096)))))] [(0, none), (1, none)] [.p (fit .i64 (x1 + (imin x2 (4096 - (x1 % 4096)))))] ⟨fit_i64 (by first | omega | (have := him (by omega); omega)), trivial⟩ fun ac wd hS => ?_
   refine hS.regC [0, 0, 20, 0] [1, 3, 8] fun _ => seg [(2, vi (x2 - (imin x2 (4096 - (x1 % 4096)))))] [(0, none), (1, none)] [.p (fit .i64 (x2 - (imin x2 (4096 - (x1 % 4096)))))] ⟨fit_i64 (by first | omega | (have := him (by omega); omega)), trivial⟩ fun ac wd hS => ?_
   refine pop_block ?_
   exact pop_then (hS.next ((x1 + (imin x2 (4096 - (x1 % 4096)))), (x2 - (imin x2 (4096 - (x1 % 4096)))), (x8 ++ (ByteArray.extract (S (Int.toNat (x1 / 4096))) (Int.toNat (x1 % 4096)) (Int.toNat ((x1 % 4096) + (imin x2 (4096 - (x1 % 4096)))))))) ⟨(by first | omega | assumption | (simp; done) | (simp; omega)), (by exact rb_step i1 (k := Int.toNat (imin x2 (4096 - (x1 % 4096)))) (by omega) (by have := him (by omega); omega) (by have := him (by omega); omega) (hpg (by omega)).2 (by have := him (by omega); omega)), trivial⟩ (by dsimp only; omega))
  ·
   refine wp_exit ?_
   refine pop_then_exit ?_
   refine pop_then_exit ?_
   refine pop_block_hit ?_
   refine pop_then ?_
   refine hS.regS [0, 0, 0] [] fun _ => seg [(6, .string x8), (7, vi 0)] [] [] trivial fun ac wd hS => ?_
   refine wp_ret ?_
   refine St.retC 0 hS (.tuple #[.string x8, vi 0]) [] trivial fun hw => ?_
   refine ⟨retd (tuple2 (vstr ?_) (vint ?_)), hw.fr0⟩
   all_goals (first | rfl | exact rBy_no hno | exact (chk_three hno).symm | exact (chk_thr hthr).symm | (rw [i1, show Int.toNat (x1 - a) = Int.toNat k by omega]; exact rBy_yes hthr))

set_option maxRecDepth 100000 in
set_option maxHeartbeats 1000000 in
theorem ref03_Load (g : Nat) (u : Nat) (n : Nat) (cp : Nat) (rf : Int) (a : Int) (k : Int) (S : Nat → ByteArray) (w : World) (hh0 : HE.holds w g (.fn u (u + n) (strs S u))) (hn : n ≤ 1048576) (hP : ∀ i, i < n → thereF S i = true → (S i).size = 4096) :
    Calls Tryd.prog 53 #[.agg #[sc g u n cp, vi rf], vi a, vi k] w fun e w' => e = .returned (.tuple #[vu (rLd S n a k), vi (ldE (amS S n) a k)]) ∧ Fr w w' no no := by
 refine enter (args := [.agg #[sc g u n cp, vi rf], vi a, vi k]) (D := no) (A := []) Tryd.func53 rfl 38 rfl [(g, .fn u (u + n) (strs S u))] (WS.startL ⟨⟨rfl, hh0⟩, trivial⟩) fun ac hS => ?_
 refine hS.regS [0, 0, 0] [1, 2] fun ν1 => seg [(3, pt (ν1 0) 0)] [(0, none), (1, some ((ν1 0), .cells [sc g u n cp, vi rf] 30))] [] trivial fun ac wd hS => ?_
 refine wp_seq ?_
 refine wp_region_seq ?_
 refine hS.opsC 1 [0] [1, 2, 3] fun _ => seg [(12, vi k)] [(0, none), (1, none)] [] trivial fun ac wd hS => ?_
 refine hS.call0 111 #[vi k] 13 (ref03_whole k _  ) fun ac wd hS => ?_
 refine hS.opsC 1 [0] [1, 2, 3] fun _ => seg [(14, vb (!(wholeB k)))] [(0, none), (1, none)] [] trivial fun ac wd hS => ?_
 refine list_nil_seq ?_
 refine hS.condC (!(wholeB k)) (fun hb1o hb1 => ?_) (fun hb1o hb1 => ?_)
 ·
  have hwh : wholeB k = false := by simpa using hb1
  refine hS.regS [0, 0] [] fun _ => seg [(6, vu 0), (7, vi 2)] [] [] trivial fun ac wd hS => ?_
  refine wp_ret ?_
  refine pop_then_ret ?_
  refine St.retC 0 hS (.tuple #[vu 0, vi 2]) [] trivial fun hw => ?_
  refine ⟨retd (tuple2 (vint ?_) (vint ?_)), hw.fr0⟩
  all_goals (first | rfl | exact rLd_no hwh | exact ld_e1 hwh | exact (ld_e2 hwh).symm | (rw [i1, show Int.toNat (((ByteArray.size (rBy S n a k) : Nat) : Int) - 1 - x11) = (ByteArray.size (rBy S n a k)) by omega]; exact rLd_yes hwh))
 ·
  have hwh : wholeB k = true := by simpa using hb1
  obtain ⟨hk1, hk8⟩ := wholeB_le hwh
  have hs8 := rBy_size (S := S) (n := n) (a := a) hk8
  refine wp_skip ?_
  refine pop_then ?_
  refine wp_region_seq ?_
  refine hS.opsC 3 [100, 0, 0] [] fun _ => seg [(16, .agg #[sc g u n cp, vi rf]), (17, vi a), (18, vi k)] [(0, none)] [.e (ν1 0), .e (ν1 0)] trivial fun ac wd hS => ?_
  refine hS.call0 55 #[.agg #[sc g u n cp, vi rf], vi a, vi k] 19 (ref03_Bytes g u n cp rf a k S _ (hS.mem.get 0 g (.fn u (u + n) (strs S u))) (by first | assumption | omega | (simp_all; done) | (simp_all; omega)) (by first | assumption | omega | (simp_all; done) | (simp_all; omega))) fun ac wd hS => ?_
  refine hS.opsC 5 [0, 0, 0, 0, 0] [] fun _ => seg [(8, .string (rBy S n a k)), (9, vi (chkE (amS S n) a k))] [] [] trivial fun ac wd hS => ?_
  refine list_nil_seq ?_
  refine hS.regS [0] [8, 9] fun _ => seg [(10, vu 0)] [] [] trivial fun ac wd hS => ?_
  refine wp_seq ?_
  refine hS.regS [0, 0, 20, 0] [8, 9, 10] fun _ => seg [(11, vi (((ByteArray.size (rBy S n a k) : Nat) : Int) - 1))] [] [.p (fit .i64 (((ByteArray.size (rBy S n a k) : Nat) : Int) - 1))] ⟨fit_i64 (by omega), trivial⟩ fun ac wd hS => ?_
  refine wp_block ?_
  refine St.loopC (σ := Int × Int) (fun (x : Int × Int) => match x with | (x10, x11) => ⟨[(8, [], .string (rBy S n a k)), (9, [], vi (chkE (amS S n) a k)), (10, [], vu x10), (11, [], vi x11)], [], [], (-1 ≤ x11 ∧ x11 ≤ ((ByteArray.size (rBy S n a k) : Nat) : Int) - 1) ∧ (x10 = rLdN (rBy S n a k) (Int.toNat (((ByteArray.size (rBy S n a k) : Nat) : Int) - 1 - x11))) ∧ True, Int.toNat (x11 + 1)⟩) (0, (((ByteArray.size (rBy S n a k) : Nat) : Int) - 1)) ⟨(by first | omega | (rw [show Int.toNat (((ByteArray.size (rBy S n a k) : Nat) : Int) - 1 - (((ByteArray.size (rBy S n a k) : Nat) : Int) - 1)) = 0 by omega]; rfl)), (by first | omega | (rw [show Int.toNat (((ByteArray.size (rBy S n a k) : Nat) : Int) - 1 - (((ByteArray.size (rBy S n a k) : Nat) : Int) - 1)) = 0 by omega]; rfl)), trivial⟩ hS ?_
  clear hS
  rintro ⟨x10, x11⟩ ⟨i0, i1, -⟩ ac wd hS
  replace i0 : -1 ≤ x11 ∧ x11 ≤ ((ByteArray.size (rBy S n a k) : Nat) : Int) - 1 := i0
  replace i1 : x10 = rLdN (rBy S n a k) (Int.toNat (((ByteArray.size (rBy S n a k) : Nat) : Int) - 1 - x11)) := i1
  have hby := bat_byte (rBy S n a k) x11
  refine wp_seq ?_
  refine hS.regS [0, 0] [8, 9, 10, 11] fun _ => seg [(26, vb (decide ((0 : Int) ≤ x11)))] [] [] trivial fun ac wd hS => ?_
  refine hS.condC (decide ((0 : Int) ≤ x11)) (fun hb2o hb2 => ?_) (fun hb2o hb2 => ?_)
  ·
   refine wp_skip ?_
   refine pop_then ?_
   refine wp_seq ?_
   refine wp_block ?_
   refine hS.regC [0, 0, 0, 0, 10, 20, 0, 0] [8, 9, 11] fun _ => seg [(10, vu (IntKind.wrap .u64 ((IntKind.wrap .u64 (256 * x10)) + (bat (rBy S n a k) x11))))] [] [.p (fit .u64 (bat (rBy S n a k) x11)), .p (0 ≤ x11 ∧ x11 < (ByteArray.size (rBy S n a k) : Int))] ⟨fit_u64 (by omega), (by omega), trivial⟩ fun ac wd hS => ?_
   refine pop_block ?_
   refine pop_then ?_
   refine hS.regC [0, 20, 0] [8, 9, 10] fun _ => seg [(11, vi (x11 - 1))] [] [.p (fit .i64 (x11 - 1))] ⟨fit_i64 (by omega), trivial⟩ fun ac wd hS => ?_
   exact pop_then (hS.next ((IntKind.wrap .u64 ((IntKind.wrap .u64 (256 * x10)) + (bat (rBy S n a k) x11))), (x11 - 1)) ⟨(by first | omega | assumption | (simp; done) | (simp; omega)), (by exact rLd_step i1 (by omega)), trivial⟩ (by dsimp only; omega))
  ·
   refine wp_exit ?_
   refine pop_then_exit ?_
   refine pop_then_exit ?_
   refine pop_block_hit ?_
   refine pop_then ?_
   refine hS.regS [0, 0, 0, 0] [] fun _ => seg [(6, vu x10), (7, vi (chkE (amS S n) a k))] [] [] trivial fun ac wd hS => ?_
   refine wp_ret ?_
   refine St.retC 0 hS (.tuple #[vu x10, vi (chkE (amS S n) a k)]) [] trivial fun hw => ?_
   refine ⟨retd (tuple2 (vint ?_) (vint ?_)), hw.fr0⟩
   all_goals (first | rfl | exact rLd_no hwh | exact ld_e1 hwh | exact (ld_e2 hwh).symm | (rw [i1, show Int.toNat (((ByteArray.size (rBy S n a k) : Nat) : Int) - 1 - x11) = (ByteArray.size (rBy S n a k)) by omega]; exact rLd_yes hwh))

end Go.Proofs.YtdjhdcaanmkblaaDoor.K
