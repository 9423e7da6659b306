/-
  Walks, printed by w2.py.
-/
import Derived.Test.YtlnecfdbmoilbaaDoorCf
import Derived.Test.YtlnecfdbmoilbaaDoorKt
import Derived.Test.YtlnecfdbmoilbaaDoorProg
namespace Go.Proofs.YtlnecfdbmoilbaaDoor.K
set_option linter.unusedVariables false
set_option linter.unusedSimpArgs false

set_option maxRecDepth 100000 in
set_option maxHeartbeats 1000000 in
theorem ar_whole (k : Int) (w : World) :
    Calls Tryd.prog 65 #[vi k] w fun e w' => e = .returned (vb (wholeB k)) ∧ Fr w w' no no := by
 refine enter (args := [vi k]) (D := no) (A := []) Tryd.func65 rfl 17 rfl [] (WS.startL trivial) fun ac hS => ?_
 refine hS.regS [0] [0] fun _ => seg [] [] [] trivial fun ac wd hS => ?_
 refine hS.regS [0, 0, 0, 3, 3, 80, 0, 3, 3, 80, 0, 3, 3, 80, 0] [] fun _ => seg [(2, vb (((((k : Int) == 1) || ((k : Int) == 2)) || ((k : Int) == 4)) || ((k : Int) == 8)))] [] [] trivial fun ac wd hS => ?_
 refine wp_ret ?_
 refine St.retC 0 hS (vb (((((k : Int) == 1) || ((k : Int) == 2)) || ((k : Int) == 4)) || ((k : Int) == 8))) [] trivial fun hw => ?_
 refine ⟨retd (vbool ?_), hw.fr0⟩
 all_goals (first | rfl | (unfold wholeB; simp; done))

set_option maxRecDepth 100000 in
set_option maxHeartbeats 1000000 in
theorem ar_Load (b : Nat) (F : Nat → Prop) (m : AM) (a : Int) (k : Int) (w : World) (hr : (arR b F m).R w) :
    Calls Tryd.prog 21 #[pt b 0, vi a, vi k] w fun e w' => e = .returned (.tuple #[vu (ldV m a k), vi (ldE m a k)]) ∧ Fr w w' no no := by
 refine enter (args := [pt b 0, vi a, vi k]) (D := no) (A := []) Tryd.func21 rfl 44 rfl [] (WS.startL trivial) fun ac hS => ?_
 refine hS.regS [0, 0] [0, 1, 2] fun _ => seg [] [] [] trivial fun ac wd hS => ?_
 refine wp_seq ?_
 refine wp_block ?_
 refine hS.regS [0, 0, 0] [0, 1, 2] fun _ => seg [(12, vb false)] [] [] trivial fun ac wd hS => ?_
 refine hS.condF ?_
 refine wp_region_seq ?_
 refine hS.opsC 1 [0] [0, 1, 2] fun _ => seg [(16, vi k)] [] [] trivial fun ac wd hS => ?_
 refine hS.call0 65 #[vi k] 17 (ar_whole k _  ) fun ac wd hS => ?_
 refine hS.opsC 2 [0, 0] [0, 1, 2] fun _ => seg [(15, vb (!(wholeB k)))] [] [] trivial fun ac wd hS => ?_
 refine list_nil_seq ?_
 refine hS.condC (!(wholeB k)) (fun hb1o hb1 => ?_) (fun hb1o hb1 => ?_)
 ·
  have hwh : wholeB k = false := by simpa using hb1
  refine hS.regS [0, 0] [] fun _ => seg [(6, vu 0), (7, vi 2)] [] [] trivial fun ac wd hS => ?_
  refine wp_ret ?_
  refine pop_block_ret ?_
  refine pop_then_ret ?_
  refine St.retC 0 hS (.tuple #[vu 0, vi 2]) [] trivial fun hw => ?_
  refine ⟨retd (tuple2 (vint ?_) (vint ?_)), hw.fr0⟩
  all_goals (first | exact ld_e1 hwh | exact (ld_e2 hwh).symm | exact ld_v1 hwh | exact ld_v2 (by omega) | (rw [i1, show Int.toNat x30 = Int.toNat k by omega]; exact ld_v4 hwh hthr) | (rw [ld_e2 hwh]; omega))
 ·
  have hwh : wholeB k = true := by simpa using hb1
  obtain ⟨hk1, hk8⟩ := wholeB_le hwh
  refine wp_skip ?_
  refine pop_block ?_
  refine pop_then ?_
  refine wp_region_seq ?_
  refine hS.opsC 3 [0, 0, 0] [2] fun _ => seg [(20, pt b 0), (21, vi a), (22, vi k)] [] [] trivial fun ac wd hS => ?_
  refine hS.call0 17 #[pt b 0, vi a, vi k] 23 (ar_Bytes b F m a k _ (Res.keep hr hS.mem.fr) ) fun ac wd hS => ?_
  refine hS.opsC 5 [0, 0, 0, 0, 0] [2] fun _ => seg [(8, .string (bytS m a k)), (9, vi (chkE m a k))] [] [] trivial fun ac wd hS => ?_
  refine list_nil_seq ?_
  refine wp_seq ?_
  refine hS.regS [0, 0] [2, 8, 9] fun _ => seg [(27, vb (((chkE m a k) : Int) != 0))] [] [] trivial fun ac wd hS => ?_
  refine hS.condC (((chkE m a k) : Int) != 0) (fun hb2o hb2 => ?_) (fun hb2o hb2 => ?_)
  ·
   have hno := hb2
   refine hS.regS [0, 0, 0] [] fun _ => seg [(6, vu 0), (7, vi (chkE m a k))] [] [] trivial fun ac wd hS => ?_
   refine wp_ret ?_
   refine pop_then_ret ?_
   refine St.retC 0 hS (.tuple #[vu 0, vi (chkE m a k)]) [] trivial fun hw => ?_
   refine ⟨retd (tuple2 (vint ?_) (vint ?_)), hw.fr0⟩
   all_goals (first | exact ld_e1 hwh | exact (ld_e2 hwh).symm | exact ld_v1 hwh | exact ld_v2 (by omega) | (rw [i1, show Int.toNat x30 = Int.toNat k by omega]; exact ld_v4 hwh hthr) | (rw [ld_e2 hwh]; omega))
  ·
   have hthr := thr_of hb2
   have hch := hb2
   have hsz := bytS_size hthr
   refine wp_skip ?_
   refine pop_then ?_
   refine hS.regS [0] [2, 8] fun _ => seg [(10, vu 0)] [] [] trivial fun ac wd hS => ?_
   refine wp_seq ?_
   refine hS.regS [0, 0] [8, 10] fun _ => seg [(29, vi k), (30, vi 0)] [] [] trivial fun ac wd hS => ?_
   refine wp_block ?_
   refine St.loopC (σ := Int × Int) (fun (x : Int × Int) => match x with | (x10, x30) => ⟨[(8, [], .string (bytS m a k)), (10, [], vu x10), (29, [], vi k), (30, [], vi x30)], [], [], (0 ≤ x30 ∧ x30 ≤ k) ∧ (x10 = ldN (bytS m a k) (Int.toNat x30)) ∧ True, Int.toNat (k - x30)⟩) (0, 0) ⟨(by first | omega | rfl), (by first | omega | rfl), trivial⟩ hS ?_
   clear hS
   rintro ⟨x10, x30⟩ ⟨i0, i1, -⟩ ac wd hS
   replace i0 : 0 ≤ x30 ∧ x30 ≤ k := i0
   replace i1 : x10 = ldN (bytS m a k) (Int.toNat x30) := i1
   have hby := bat_byte (bytS m a k) x30
   refine hS.regS [0] [8, 10, 29, 30] fun _ => seg [(31, vb (decide ((x30 : Int) < k)))] [] [] trivial fun ac wd hS => ?_
   refine wp_seq ?_
   refine hS.condC (decide ((x30 : Int) < k)) (fun hb3o hb3 => ?_) (fun hb3o hb3 => ?_)
   ·
    refine wp_skip ?_
    refine pop_then ?_
    refine wp_seq ?_
    refine wp_block ?_
    refine hS.regS [0, 0] [8, 10, 29, 30] fun _ => seg [(11, vi x30)] [] [] trivial fun ac wd hS => ?_
    refine hS.regC [0, 0, 0, 10, 20, 0, 20, 10, 0, 0] [8, 29, 30] fun _ => seg [(10, vu (ior .u64 x10 (IntKind.wrap .u64 ((bat (bytS m a k) x30) * 2 ^ (min (Int.toNat (8 * x30)) 64)))))] [] [.p (0 ≤ (8 * x30)), .p (fit .i64 (8 * x30)), .p (fit .u64 (bat (bytS m a k) x30)), .p (0 ≤ x30 ∧ x30 < (ByteArray.size (bytS m a k) : Int))] ⟨by omega, fit_i64 (by omega), fit_u64 (by omega), (by omega), trivial⟩ fun ac wd hS => ?_
    refine pop_block ?_
    refine pop_then ?_
    refine hS.regC [20, 0] [8, 10, 29] fun _ => seg [(30, vi (x30 + 1))] [] [.p (fit .i64 (x30 + 1))] ⟨fit_i64 (by omega), trivial⟩ fun ac wd hS => ?_
    exact pop_then (hS.next ((ior .u64 x10 (IntKind.wrap .u64 ((bat (bytS m a k) x30) * 2 ^ (min (Int.toNat (8 * x30)) 64)))), (x30 + 1)) ⟨(by first | omega | assumption | (simp; done) | (simp; omega)), (by exact ldN_step i1 (by omega)), trivial⟩ (by dsimp only; omega))
   ·
    refine wp_exit ?_
    refine pop_then_exit ?_
    refine pop_then_exit ?_
    refine pop_block_hit ?_
    refine pop_then ?_
    refine hS.regS [0, 0, 0] [] fun _ => seg [(6, vu x10), (7, vi 0)] [] [] trivial fun ac wd hS => ?_
    refine wp_ret ?_
    refine St.retC 0 hS (.tuple #[vu x10, vi 0]) [] trivial fun hw => ?_
    refine ⟨retd (tuple2 (vint ?_) (vint ?_)), hw.fr0⟩
    all_goals (first | exact ld_e1 hwh | exact (ld_e2 hwh).symm | exact ld_v1 hwh | exact ld_v2 (by omega) | (rw [i1, show Int.toNat x30 = Int.toNat k by omega]; exact ld_v4 hwh hthr) | (rw [ld_e2 hwh]; omega))

theorem zf_page105 (o : Nat) (ho : o < 8) : bytes (fun _ => 0) 0 o = zf Tryd.prog 105 o := zf_all (n := 8) (v := .int .u8 0) (by as_aux_lemma => kernel_rfl) o ho

set_option maxRecDepth 100000 in
set_option maxHeartbeats 1000000 in
theorem ar_Store (b : Nat) (F : Nat → Prop) (m : AM) (a : Int) (k : Int) (v : Int) (w : World) (hr : (arR b F m).R w) :
    Calls Tryd.prog 23 #[pt b 0, vi a, vi k, vu v] w fun e w' => ∃ (F' : Nat → Prop), e = .returned (vi (stE m a k)) ∧ (arR b F' (stM m a k v)).R w' ∧ Fr w w' F F' := by
 refine enter (args := [pt b 0, vi a, vi k, vu v]) (D := F) (A := [arR b F m]) Tryd.func23 rfl 35 rfl [] (WS.startA (r := arR b F m) hr trivial trivial) fun ac hS => ?_
 refine hS.regS [0] [0, 1, 2, 3] fun _ => seg [] [] [] trivial fun ac wd hS => ?_
 refine wp_seq ?_
 refine wp_block ?_
 refine hS.regS [0, 0, 0] [0, 1, 2, 3] fun _ => seg [(11, vb false)] [] [] trivial fun ac wd hS => ?_
 refine hS.condF ?_
 refine wp_region_seq ?_
 refine hS.opsC 1 [0] [0, 1, 2, 3] fun _ => seg [(15, vi k)] [] [] trivial fun ac wd hS => ?_
 refine hS.call0 65 #[vi k] 16 (ar_whole k _  ) fun ac wd hS => ?_
 refine hS.opsC 2 [0, 0] [0, 1, 2, 3] fun _ => seg [(14, vb (!(wholeB k)))] [] [] trivial fun ac wd hS => ?_
 refine list_nil_seq ?_
 refine hS.condC (!(wholeB k)) (fun hb1o hb1 => ?_) (fun hb1o hb1 => ?_)
 ·
  have hwh : wholeB k = false := by simpa using hb1
  refine hS.regS [0] [] fun _ => seg [(8, vi 2)] [] [] trivial fun ac wd hS => ?_
  refine wp_ret ?_
  refine pop_block_ret ?_
  refine pop_then_ret ?_
  refine St.retC 0 hS (vi 2) [] trivial fun hw => ?_
  refine ⟨F, retd (vint ?_), (res_eq (r := arR b F m) (by first | exact congrArg _ (st_m1 hwh) | exact congrArg _ (st_m2 hwh)) (hw.res 0)), hw.frA⟩
  all_goals (first | exact st_e1 hwh | exact st_e2 hwh)
 ·
  have hwh : wholeB k = true := by simpa using hb1
  obtain ⟨hk1, hk8⟩ := wholeB_le hwh
  refine wp_skip ?_
  refine pop_block ?_
  refine pop_then ?_
  refine hS.regS [50] [0, 1, 2, 3] fun ν6 => seg [(9, pt (ν6 0) 0)] [(0, some ((ν6 0), .row 105 8 8 (zf Tryd.prog 105)))] [.p ((8 : Nat) = 8)] ⟨rfl, trivial⟩ fun ac wd hS => ?_
  replace hS := hS.to (hS.mem.tellR 0 (b := (ν6 0)) (e := 105) (m := 8) (tot := 8) (f := (zf Tryd.prog 105)) (bytes (fun _ => 0) 0) (fun o ho => zf_page105 o ho))
  refine wp_seq ?_
  refine hS.regS [0] [0, 1, 2, 3, 9] fun _ => seg [(18, vi 0)] [(0, none)] [] trivial fun ac wd hS => ?_
  refine wp_block ?_
  refine St.loopC (σ := Int × (Nat → UInt8)) (fun (x : Int × (Nat → UInt8)) => match x with | (x18, fx) => ⟨[(0, [], pt b 0), (1, [], vi a), (2, [], vi k), (3, [], vu v), (9, [], pt (ν6 0) 0), (18, [], vi x18)], [((ν6 0), .row 105 8 8 (bytes fx 0))], [arR b F m], (0 ≤ x18 ∧ x18 ≤ 8) ∧ (fx = stF v (Int.toNat x18)) ∧ True, Int.toNat (8 - x18)⟩) (0, (fun _ => 0)) ⟨(by first | omega | exact stF_zero _), (by first | omega | exact stF_zero _), trivial⟩ hS ?_
  clear hS
  rintro ⟨x18, fx⟩ ⟨i0, i1, -⟩ ac wd hS
  replace i0 : 0 ≤ x18 ∧ x18 ≤ 8 := i0
  replace i1 : fx = stF v (Int.toNat x18) := i1
  refine hS.regS [0] [0, 1, 2, 3, 9, 18] fun _ => seg [(19, vb (decide ((x18 : Int) < 8)))] [(0, none)] [] trivial fun ac wd hS => ?_
  refine wp_seq ?_
  refine hS.condC (decide ((x18 : Int) < 8)) (fun hb2o hb2 => ?_) (fun hb2o hb2 => ?_)
  ·
   refine wp_skip ?_
   refine pop_then ?_
   refine wp_seq ?_
   refine wp_block ?_
   refine hS.regS [0, 0] [0, 1, 2, 3, 9, 18] fun _ => seg [(10, vi x18)] [(0, none)] [] trivial fun ac wd hS => ?_
   refine hS.regC [0, 0, 0, 20, 20, 0, 30, 0] [0, 1, 2, 3, 9, 18] fun _ => seg [] [(0, some ((ν6 0), .row 105 8 8 (fun x => if x = 0 + Int.toNat x18 * 1 then v8 (IntKind.wrap .u8 (v / (2 ^ Int.toNat (8 * x18)))) else (bytes fx 0) x)))] [.e (ν6 0), .p (0 + Int.toNat x18 * 1 < 8), .p (0 ≤ x18 ∧ x18 < ((8 : Nat) : Int)), .p (0 ≤ (8 * x18) ∧ Int.fdiv v (2 ^ (min (Int.toNat (8 * x18)) 64)) = (v / (2 ^ Int.toNat (8 * x18)))), .p (fit .i64 (8 * x18))] ⟨(by omega), (by omega), shr2_u64 (by omega) (by omega) (by trivial), fit_i64 (by omega), trivial⟩ fun ac wd hS => ?_
   replace hS := hS.to (hS.mem.tellR 0 (b := (ν6 0)) (e := 105) (m := 8) (tot := 8) (f := (fun x => if x = 0 + Int.toNat x18 * 1 then v8 (IntKind.wrap .u8 (v / (2 ^ Int.toNat (8 * x18)))) else (bytes fx 0) x)) (bytes (putF fx (Int.toNat x18) (u8 (IntKind.wrap .u8 (v / (2 ^ Int.toNat (8 * x18)))))) 0) (fun o ho => by first | exact bytes_puti fx (Int.toNat x18) (IntKind.wrap .u8 (v / (2 ^ Int.toNat (8 * x18)))) (by exact wrap_u8 _) o | (rw [Nat.mul_one, Nat.zero_add]; exact bytes_puti fx (Int.toNat x18) (IntKind.wrap .u8 (v / (2 ^ Int.toNat (8 * x18)))) (by exact wrap_u8 _) o)))
   refine pop_block ?_
   refine pop_then ?_
   refine hS.regC [20, 0] [0, 1, 2, 3, 9] fun _ => seg [(18, vi (x18 + 1))] [(0, none)] [.p (fit .i64 (x18 + 1))] ⟨fit_i64 (by omega), trivial⟩ fun ac wd hS => ?_
   exact pop_then (hS.next ((x18 + 1), (putF fx (Int.toNat x18) (u8 (IntKind.wrap .u8 (v / (2 ^ Int.toNat (8 * x18))))))) ⟨(by first | omega | assumption | (simp; done) | (simp; omega)), (by exact stF_step i1 (by omega)), trivial⟩ (by dsimp only; omega))
  ·
   refine wp_exit ?_
   refine pop_then_exit ?_
   refine pop_then_exit ?_
   refine pop_block_hit ?_
   refine pop_then ?_
   refine wp_region_seq ?_
   refine hS.opsC 3 [0, 0, 0] [9] fun _ => seg [(29, pt b 0), (30, vi a), (31, vi k)] [(0, none)] [] trivial fun ac wd hS => ?_
   refine Runs1.list ?_
   obtain ⟨i_, hi_, hz_, hs_, hb_⟩ := info_get (P := Tryd.prog) (e := 5) (z := v8 0) (s := 1) (b := 1) (by kernel_rfl)
   refine St.slcP hS 105 (.tmp 9) none (some (.tmp 31)) rfl rfl (by decide) Tryd.underlying105 hi_ hs_ (b := (ν6 0)) (q := 0) (k := (Int.toNat k)) 0 k (by omega) (by omega) (by omega) fun ac hS => ?_
   refine Runs1.list ?_
   refine St.toStr hS (.tmp 32) 95 9 rfl rfl (by decide) Tryd.underlying95 Tryd.underlying5 Tryd.underlying9 (b := (ν6 0)) (off := 0) (k := (Int.toNat k)) (cp := 8) (fun j => fx (0 + j)) (Cells8.row (hS.mem.get 0 (ν6 0) (.row 105 8 8 (bytes fx 0))) (by omega)) fun ac hS => ?_
   replace hS := hS.fix 33 (.string (bs (stB v) (Int.toNat k))) (vstr (by exact stF_bs (f := fx) (by rw [i1, show Int.toNat x18 = 8 by omega]) hk8))
   refine hS.callC 16 #[pt b 0, vi a, .string (bs (stB v) (Int.toNat k))] (ar_Put b F m a (bs (stB v) (Int.toNat k)) _ (hS.mem.res 0) ) ?_
   rintro _ wd ⟨F3, rfl, hA, hF⟩
   refine ⟨vi (chkE m a (((ByteArray.size (bs (stB v) (Int.toNat k))) : Nat) : Int)), rfl, ?_⟩
   replace hS := (hS.to (hS.mem.stepA 0 rfl hA hF)).put (d := 34) (v := vi (chkE m a (((ByteArray.size (bs (stB v) (Int.toNat k))) : Nat) : Int))) (by decide)
   clear hF
   refine hS.opsC 1 [0] [] fun _ => seg [(8, vi (chkE m a (((ByteArray.size (bs (stB v) (Int.toNat k))) : Nat) : Int)))] [(0, none)] [] trivial fun ac wd hS => ?_
   refine list_nil_seq ?_
   refine wp_ret ?_
   refine St.retC 0 hS (vi (chkE m a (((ByteArray.size (bs (stB v) (Int.toNat k))) : Nat) : Int))) [] trivial fun hw => ?_
   refine ⟨F3, retd (vint ?_), (res_eq (r := arR b F3 (putM m a (bs (stB v) (Int.toNat k)))) (by first | exact congrArg _ (st_m1 hwh) | exact congrArg _ (st_m2 hwh)) (hw.res 0)), hw.frA⟩
   all_goals (first | exact st_e1 hwh | exact st_e2 hwh)

end Go.Proofs.YtlnecfdbmoilbaaDoor.K
