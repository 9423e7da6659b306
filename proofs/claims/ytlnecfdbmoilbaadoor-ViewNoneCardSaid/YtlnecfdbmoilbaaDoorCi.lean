/-
  Walks, printed by w2.py.
-/
import Derived.Test.YtlnecfdbmoilbaaDoorCh
import Derived.Test.YtlnecfdbmoilbaaDoorKu
import Derived.Test.YtlnecfdbmoilbaaDoorProg
namespace Go.Proofs.YtlnecfdbmoilbaaDoor.K
set_option linter.unusedVariables false
set_option linter.unusedSimpArgs false

set_option maxRecDepth 100000 in
set_option maxHeartbeats 1000000 in
theorem ar_Copy (b : Nat) (F : Nat → Prop) (m : AM) (t : Int) (f : Int) (n : Int) (w : World) (hr : (arR b F m).R w) :
    Calls Tryd.prog 18 #[pt b 0, vi t, vi f, vi n] w fun e w' => ∃ (F' : Nat → Prop), e = .returned (vi (cpyE m t f n)) ∧ (arR b F' (cpyM m t f n)).R w' ∧ Fr w w' F F' := by
 refine enter (args := [pt b 0, vi t, vi f, vi n]) (D := F) (A := [arR b F m]) Tryd.func18 rfl 25 rfl [] (WS.startA (r := arR b F m) hr trivial trivial) fun ac hS => ?_
 refine hS.regS [0] [0, 1, 2, 3] fun _ => seg [] [] [] trivial fun ac wd hS => ?_
 refine wp_region_seq ?_
 refine hS.opsC 3 [0, 0, 0] [0, 1] fun _ => seg [(12, pt b 0), (13, vi f), (14, vi n)] [] [] trivial fun ac wd hS => ?_
 refine hS.call0 17 #[pt b 0, vi f, vi n] 15 (ar_Bytes b F m f n _ (hS.mem.res 0) ) fun ac wd hS => ?_
 refine hS.opsC 5 [0, 0, 0, 0, 0] [0, 1] fun _ => seg [(9, .string (bytS m f n)), (10, vi (chkE m f n))] [] [] trivial fun ac wd hS => ?_
 refine list_nil_seq ?_
 refine wp_seq ?_
 refine hS.regS [0, 0] [0, 1, 9, 10] fun _ => seg [(19, vb (((chkE m f n) : Int) != 0))] [] [] trivial fun ac wd hS => ?_
 refine hS.condC (((chkE m f n) : Int) != 0) (fun hb1o hb1 => ?_) (fun hb1o hb1 => ?_)
 ·
  have hno := hb1
  refine hS.regS [0, 0] [] fun _ => seg [(8, vi (chkE m f n))] [] [] trivial fun ac wd hS => ?_
  refine wp_ret ?_
  refine pop_then_ret ?_
  refine St.retC 0 hS (vi (chkE m f n)) [] trivial fun hw => ?_
  refine ⟨F, retd (vint ?_), (res_eq (r := arR b F m) (by first | exact congrArg _ (cpy_m1 (by omega)) | exact congrArg _ (cpy_m2 hthr)) (hw.res 0)), hw.frA⟩
  all_goals (first | exact cpy_e1 (by omega) | exact cpy_e2 hthr)
 ·
  have hthr := thr_of hb1
  have hsz := bytS_size hthr
  refine wp_skip ?_
  refine pop_then ?_
  refine wp_region_seq ?_
  refine hS.opsC 3 [0, 0, 0] [] fun _ => seg [(21, pt b 0), (22, vi t), (23, .string (bytS m f n))] [] [] trivial fun ac wd hS => ?_
  refine hS.callC 16 #[pt b 0, vi t, .string (bytS m f n)] (ar_Put b F m t (bytS m f n) _ (hS.mem.res 0) ) ?_
  rintro _ wd ⟨F2, rfl, hA, hF⟩
  refine ⟨vi (chkE m t (((ByteArray.size (bytS m f n)) : Nat) : Int)), rfl, ?_⟩
  replace hS := (hS.to (hS.mem.stepA 0 rfl hA hF)).put (d := 24) (v := vi (chkE m t (((ByteArray.size (bytS m f n)) : Nat) : Int))) (by decide)
  clear hF
  refine hS.opsC 1 [0] [] fun _ => seg [(8, vi (chkE m t (((ByteArray.size (bytS m f n)) : Nat) : Int)))] [] [] trivial fun ac wd hS => ?_
  refine list_nil_seq ?_
  refine wp_ret ?_
  refine St.retC 0 hS (vi (chkE m t (((ByteArray.size (bytS m f n)) : Nat) : Int))) [] trivial fun hw => ?_
  refine ⟨F2, retd (vint ?_), (res_eq (r := arR b F2 (putM m t (bytS m f n))) (by first | exact congrArg _ (cpy_m1 (by omega)) | exact congrArg _ (cpy_m2 hthr)) (hw.res 0)), hw.frA⟩
  all_goals (first | exact cpy_e1 (by omega) | exact cpy_e2 hthr)

set_option maxRecDepth 100000 in
set_option maxHeartbeats 1000000 in
theorem fill1 (q : Nat) (u : Nat) (k : Nat) (cp : Nat) (cb : Nat) (n : Nat) (f : Nat → UInt8) (T : TypeId) (c : UInt8) (w : World) (hm : HE.holds w q (.row T n n (bytes f 0))) (hh0 : HE.holds w cb (.fn 0 1 (roF [v8 ((c.toNat : Nat) : Int)]))) (hu0 : ¬ K.one q cb) (hb : u + k ≤ n) (hk : k ≤ 4096) :
    Calls Tryd.prog 78 #[sc q u k cp, pt cb 0] w fun e w' => e = .returned (.tuple #[]) ∧ HE.holds w' q (.row T n n (bytes (filF f u k c) 0)) ∧ Fr w w' (K.one q) no := by
 refine enter (args := [sc q u k cp, pt cb 0]) (D := K.one q) (A := []) Tryd.func78 rfl 14 rfl [(cb, .fn 0 1 (roF [v8 ((c.toNat : Nat) : Int)])), (q, .row T n n (bytes f 0))] (WS.startM (H := [(cb, .fn 0 1 (roF [v8 ((c.toNat : Nat) : Int)]))]) hm ⟨⟨rfl, hh0⟩, trivial⟩ ⟨hu0, trivial⟩) fun ac hS => ?_
 refine hS.regS [0, 0, 0] [0, 1] fun _ => seg [(5, vi ((k : Nat) : Int)), (6, vi 0)] [(0, none), (1, none)] [] trivial fun ac wd hS => ?_
 refine wp_block ?_
 refine St.loopC (σ := Int × (Nat → UInt8)) (fun (x : Int × (Nat → UInt8)) => match x with | (x6, fx) => ⟨[(0, [], sc q u k cp), (1, [], pt cb 0), (5, [], vi ((k : Nat) : Int)), (6, [], vi x6)], [(cb, .fn 0 1 (roF [v8 ((c.toNat : Nat) : Int)])), (q, .row T n n (bytes fx 0))], [], (0 ≤ x6 ∧ x6 ≤ (k : Int)) ∧ (fx = filF f u (Int.toNat x6) c) ∧ True, Int.toNat (k - x6)⟩) (0, f) ⟨(by first | omega | exact filF_zero _ _ _), (by first | omega | exact filF_zero _ _ _), trivial⟩ hS ?_
 clear hS
 rintro ⟨x6, fx⟩ ⟨i0, i1, -⟩ ac wd hS
 replace i0 : 0 ≤ x6 ∧ x6 ≤ (k : Int) := i0
 replace i1 : fx = filF f u (Int.toNat x6) c := i1
 refine hS.regS [0] [0, 1, 5, 6] fun _ => seg [(7, vb (decide ((x6 : Int) < ((k : Nat) : Int))))] [(0, none), (1, none)] [] trivial fun ac wd hS => ?_
 refine wp_seq ?_
 refine hS.condC (decide ((x6 : Int) < ((k : Nat) : Int))) (fun hb1o hb1 => ?_) (fun hb1o hb1 => ?_)
 ·
  refine wp_skip ?_
  refine pop_then ?_
  refine wp_seq ?_
  refine wp_block ?_
  refine hS.regS [0, 0] [0, 1, 5, 6] fun _ => seg [(3, vi x6)] [(0, none), (1, none)] [] trivial fun ac wd hS => ?_
  refine hS.regC [0, 0, 0, 20, 100] [0, 1, 5, 6] fun _ => seg [] [(0, none), (1, some (q, .row T n n (fun x => if x = u + Int.toNat x6 * 1 then v8 ((c.toNat : Nat) : Int) else (bytes fx 0) x)))] [.e q, .p (u + Int.toNat x6 * 1 < n), .p (0 ≤ x6 ∧ x6 < ((k : Nat) : Int)), .e cb, .p (0 ≤ 0 ∧ 0 < 1)] ⟨(by omega), (by omega), (by decide), trivial⟩ fun ac wd hS => ?_
  replace hS := hS.to (hS.mem.tellR 1 (b := q) (e := T) (m := n) (tot := n) (f := (fun x => if x = u + Int.toNat x6 * 1 then v8 ((c.toNat : Nat) : Int) else (bytes fx 0) x)) (bytes (putF fx (u + Int.toNat x6 * 1) (u8 ((c.toNat : Nat) : Int))) 0) (fun o ho => by first | exact bytes_puti fx (u + Int.toNat x6 * 1) ((c.toNat : Nat) : Int) (by exact u8_cast c) o | (rw [Nat.mul_one, Nat.zero_add]; exact bytes_puti fx (u + Int.toNat x6 * 1) ((c.toNat : Nat) : Int) (by exact u8_cast c) o)))
  refine pop_block ?_
  refine pop_then ?_
  refine hS.regC [20, 0] [0, 1, 5] fun _ => seg [(6, vi (x6 + 1))] [(0, none), (1, none)] [.p (fit .i64 (x6 + 1))] ⟨fit_i64 (by omega), trivial⟩ fun ac wd hS => ?_
  exact pop_then (hS.next ((x6 + 1), (putF fx (u + Int.toNat x6 * 1) (u8 ((c.toNat : Nat) : Int)))) ⟨(by first | omega | assumption | (simp; done) | (simp; omega)), (by exact filF_step i1 (by omega)), trivial⟩ (by dsimp only; omega))
 ·
  refine wp_exit ?_
  refine pop_then_exit ?_
  refine pop_then_exit ?_
  refine pop_block_hit ?_
  refine St.fallC 0 hS (.tuple #[]) [] trivial fun hw => ?_
  refine ⟨retd rfl, (HE.row_eq (hw.get 1 q (.row T n n (bytes fx 0))) ?_), hw.fr0⟩
  all_goals (first | rfl | (rw [i1, show Int.toNat x6 = k by omega]; intro o_ _; rfl))

set_option maxRecDepth 100000 in
set_option maxHeartbeats 1000000 in
theorem each_Fill (b : Nat) (F : Nat → Prop) (m : AM) (a : Int) (n : Int) (cb : Nat) (c : UInt8) (w : World) (hr : (arR b F m).R w) (hh0 : HE.holds w cb (.fn 0 1 (roF [v8 ((c.toNat : Nat) : Int)]))) (hf0 : ¬ F cb) (hthr : thr m a n = true) :
    Calls Tryd.prog 60 #[pt b 0, vi a, vi n, .func (.func 78) #[] #[pt cb 0]] w fun e w' => ∃ (F' : Nat → Prop), e = .returned (.tuple #[]) ∧ (arR b F' (filA m (Int.toNat a) (Int.toNat n) c)).R w' ∧ Fr w w' F F' := by
 have hst := WS.startA (r := arR b F m) hr (H := [(cb, .fn 0 1 (roF [v8 ((c.toNat : Nat) : Int)]))]) ⟨⟨rfl, hh0⟩, trivial⟩ ⟨hf0, trivial⟩
 obtain ⟨d, hd, hO, hbw⟩ := hst.openA
 have hcnt := countTo_le m.com m.cap
 have hW : Words d.ws d.nw m.cap m.com := hd.set
 have hcl : m.cap ≤ 1048576 := hd.capLe
 have hrl : m.refuse < 2 ^ 63 := hd.refuseLe
 obtain ⟨hI1, hI2, hI3, hI4⟩ := inB_facts (thr_in hthr)
 refine enter (args := [pt b 0, vi a, vi n, .func (.func 78) #[] #[pt cb 0]]) (D := F) (A := [pgR 0 (Fp m.cap m.com d.pb) ⟨m.cap, m.com, m.mem, d.pb⟩]) Tryd.func60 rfl 38 rfl [(cb, .fn 0 1 (roF [v8 ((c.toNat : Nat) : Int)])), (b, .cells [sc d.bp 0 m.cap m.cap, vi ((m.cap : Nat) : Int), sc d.bw d.ow d.nw d.cw, vi ((countTo m.com m.cap : Nat) : Int), vb m.armed, vi ((m.refuse : Nat) : Int)] d.TA), (d.bp, .row d.TP m.cap m.cap (pagesV m.com d.pb 0)), (d.bw, .fn d.ow (d.ow + d.nw) (u64s d.ws d.ow))] hO fun ac hS => ?_
 refine wp_block ?_
 refine St.loopC (σ := Int × Int × (Nat → Prop) × (Nat → UInt8)) (fun (x : Int × Int × (Nat → Prop) × (Nat → UInt8)) => match x with | (x1, x2, Fx, memx) => ⟨[(0, [], pt b 0), (1, [], vi x1), (2, [], vi x2), (3, [], .func (.func 78) #[] #[pt cb 0])], [(cb, .fn 0 1 (roF [v8 ((c.toNat : Nat) : Int)])), (b, .cells [sc d.bp 0 m.cap m.cap, vi ((m.cap : Nat) : Int), sc d.bw d.ow d.nw d.cw, vi ((countTo m.com m.cap : Nat) : Int), vb m.armed, vi ((m.refuse : Nat) : Int)] d.TA), (d.bp, .row d.TP m.cap m.cap (pagesV m.com d.pb 0)), (d.bw, .fn d.ow (d.ow + d.nw) (u64s d.ws d.ow))], [pgR 0 Fx (⟨m.cap, m.com, memx, d.pb⟩)], (0 ≤ x2 ∧ a ≤ x1 ∧ x1 + x2 = a + n) ∧ (memx = filF m.mem (Int.toNat a) (Int.toNat (x1 - a)) c) ∧ True, Int.toNat x2⟩) (a, n, (Fp m.cap m.com d.pb), m.mem) ⟨(by first | omega | (rw [show Int.toNat (a - a) = 0 by omega]; exact filF_zero _ _ _)), (by first | omega | (rw [show Int.toNat (a - a) = 0 by omega]; exact filF_zero _ _ _)), trivial⟩ hS ?_
 clear hS
 rintro ⟨x1, x2, Fx, memx⟩ ⟨i0, i1, -⟩ ac wd hS
 replace i0 : 0 ≤ x2 ∧ a ≤ x1 ∧ x1 + x2 = a + n := i0
 replace i1 : memx = filF m.mem (Int.toNat a) (Int.toNat (x1 - a)) c := i1
 have him : 0 < x2 → 1 ≤ imin x2 (4096 - (x1 % 4096)) ∧ imin x2 (4096 - (x1 % 4096)) ≤ x2 ∧ imin x2 (4096 - (x1 % 4096)) ≤ 4096 - (x1 % 4096) := fun h => by unfold imin; split <;> omega
 refine wp_seq ?_
 refine hS.regS [0, 0] [0, 1, 2, 3] fun _ => seg [(10, vb (decide ((0 : Int) < x2)))] [(0, none), (1, none), (2, none), (3, none)] [] trivial fun ac wd hS => ?_
 refine hS.condC (decide ((0 : Int) < x2)) (fun hb1o hb1 => ?_) (fun hb1o hb1 => ?_)
 ·
  refine wp_skip ?_
  refine pop_then ?_
  refine wp_block ?_
  refine hS.regS [0, 0, 20, 20, 0, 0] [0, 1, 2, 3] fun _ => seg [(8, vi (imin x2 (4096 - (x1 % 4096))))] [(0, none), (1, none), (2, none), (3, none)] [.p (fit .i64 (4096 - (x1 % 4096))), .p (4096 ≠ 0 ∧ Int.tmod x1 4096 = x1 % 4096)] ⟨fit_i64 (by omega), rem2 (by omega) (by omega), trivial⟩ fun ac wd hS => ?_
  obtain ⟨hpi, hpc⟩ := thr_page hthr (x := x1) (by omega) (by omega)
  obtain ⟨T2, hO2⟩ := hS.mem.take (Int.toNat (x1 / 4096)) hpi hpc
  replace hS := hS.to hO2
  clear hO2
  refine wp_region_seq ?_
  refine hS.opsC 12 [0, 0, 0, 0, 100, 0, 20, 10, fx 200 (pt (d.pb (Int.toNat (x1 / 4096))) 0), 0, 0, 20] [0, 1, 2, 3, 8] fun _ => seg [(16, .func (.func 78) #[] #[pt cb 0]), (25, pt (d.pb (Int.toNat (x1 / 4096))) 0), (27, vi (x1 % 4096))] [(0, none), (1, none), (2, none), (3, none), (4, none)] [.p (4096 ≠ 0 ∧ Int.tmod x1 4096 = x1 % 4096), .p ((((pagesV m.com d.pb 0) (Int.toNat (x1 / 4096))) : Value) = pt (d.pb (Int.toNat (x1 / 4096))) 0), .e d.bp, .p (Int.toNat (x1 / 4096) < m.cap), .p (0 ≤ (x1 / 4096) ∧ (x1 / 4096) < ((m.cap : Nat) : Int)), .p (4096 ≠ 0 ∧ IntKind.i64.wrap (Int.tdiv x1 4096) = x1 / 4096), .e b] ⟨rem2 (by omega) (by omega), ((pagesV_abs m.com d.pb (Int.toNat (x1 / 4096))).trans (pt_if hpc)), (by first | omega | (have := him (by omega); omega)), (by first | omega | (have := him (by omega); omega)), quo2 (by omega) (by omega) (by omega), trivial⟩ fun ac wd hS => ?_
  refine Runs1.list ?_
  obtain ⟨i_, hi_, hz_, hs_, hb_⟩ := info_get (P := Tryd.prog) (e := 5) (z := v8 0) (s := 1) (b := 1) (by kernel_rfl)
  refine St.slcP hS 91 (.tmp 25) (some (.tmp 27)) none rfl rfl (by decide) Tryd.underlying91 hi_ hs_ (b := (d.pb (Int.toNat (x1 / 4096)))) (q := (Int.toNat (x1 % 4096))) (k := (4096 - (Int.toNat (x1 % 4096)))) (x1 % 4096) 4096 (by first | omega | (have := him (by omega); omega)) (by first | omega | (have := him (by omega); omega)) (by first | omega | (have := him (by omega); omega)) fun ac hS => ?_
  refine hS.opsC 2 [0, fx 20 (sc (d.pb (Int.toNat (x1 / 4096))) (Int.toNat (x1 % 4096)) (Int.toNat (imin x2 (4096 - (x1 % 4096)))) (4096 - (Int.toNat (x1 % 4096))))] [0, 1, 2, 3, 8, 16] fun _ => seg [(30, sc (d.pb (Int.toNat (x1 / 4096))) (Int.toNat (x1 % 4096)) (Int.toNat (imin x2 (4096 - (x1 % 4096)))) (4096 - (Int.toNat (x1 % 4096))))] [(0, none), (1, none), (2, none), (3, none), (4, none)] [.p ((sc (d.pb (Int.toNat (x1 / 4096))) (Int.toNat (x1 % 4096)) (Int.toNat ((imin x2 (4096 - (x1 % 4096))) : Int)) (4096 - (Int.toNat (x1 % 4096))) : Value) = sc (d.pb (Int.toNat (x1 / 4096))) (Int.toNat (x1 % 4096)) (Int.toNat (imin x2 (4096 - (x1 % 4096)))) (4096 - (Int.toNat (x1 % 4096)))), .p (0 ≤ ((imin x2 (4096 - (x1 % 4096))) : Int) ∧ ((imin x2 (4096 - (x1 % 4096))) : Int) ≤ (((4096 - (Int.toNat (x1 % 4096))) : Nat) : Int) ∧ (4096 - (Int.toNat (x1 % 4096))) ≤ (4096 - (Int.toNat (x1 % 4096))) ∧ (0 : Int) = 0)] ⟨(rfl), (by first | omega | (have := him (by omega); omega)), trivial⟩ fun ac wd hS => ?_
  refine hS.callC 78 #[sc (d.pb (Int.toNat (x1 / 4096))) (Int.toNat (x1 % 4096)) (Int.toNat (imin x2 (4096 - (x1 % 4096)))) (4096 - (Int.toNat (x1 % 4096))), pt cb 0] (fill1 (d.pb (Int.toNat (x1 / 4096))) (Int.toNat (x1 % 4096)) (Int.toNat (imin x2 (4096 - (x1 % 4096)))) (4096 - (Int.toNat (x1 % 4096))) cb 4096 (fun o => memx (4096 * (Int.toNat (x1 / 4096)) + o)) T2 _ _ (hS.mem.get 4 (d.pb (Int.toNat (x1 / 4096))) (.row T2 4096 4096 (bytes (fun o => memx (4096 * (Int.toNat (x1 / 4096)) + o)) 0))) (hS.mem.get 0 cb (.fn 0 1 (roF [v8 ((c.toNat : Nat) : Int)]))) (hS.mem.neq 0 4) (by first | assumption | omega | (simp_all; done) | (simp_all; omega)) (by first | assumption | omega | (simp_all; done) | (simp_all; omega))) ?_
  rintro _ wd ⟨rfl, hM, hF⟩
  refine ⟨.tuple #[], rfl, ?_⟩
  replace hS := (hS.to (hS.mem.stepM 4 (show _ = some ((d.pb (Int.toNat (x1 / 4096))), .row T2 4096 4096 (bytes (fun o => memx (4096 * (Int.toNat (x1 / 4096)) + o)) 0)) by as_aux_lemma => kernel_rfl) rfl rfl hM hF)).put (d := 31) (v := .tuple #[]) (by decide)
  clear hF
  refine list_nil_seq ?_
  refine hS.regC [0, 0, 20, 0, 0, 20, 0, 0] [0, 3] fun _ => seg [(1, vi (x1 + (imin x2 (4096 - (x1 % 4096))))), (2, vi (x2 - (imin x2 (4096 - (x1 % 4096)))))] [(0, none), (1, none), (2, none), (3, none), (4, none)] [.p (fit .i64 (x2 - (imin x2 (4096 - (x1 % 4096))))), .p (fit .i64 (x1 + (imin x2 (4096 - (x1 % 4096)))))] ⟨fit_i64 (by omega), fit_i64 (by omega), trivial⟩ fun ac wd hS => ?_
  refine pop_block ?_
  replace hS := hS.to (WS.absorb (H' := [(cb, .fn 0 1 (roF [v8 ((c.toNat : Nat) : Int)])), (b, .cells [sc d.bp 0 m.cap m.cap, vi ((m.cap : Nat) : Int), sc d.bw d.ow d.nw d.cw, vi ((countTo m.com m.cap : Nat) : Int), vb m.armed, vi ((m.refuse : Nat) : Int)] d.TA), (d.bp, .row d.TP m.cap m.cap (pagesV m.com d.pb 0)), (d.bw, .fn d.ow (d.ow + d.nw) (u64s d.ws d.ow))]) hS.mem 4 (d.pb (Int.toNat (x1 / 4096))) (Int.toNat (x1 / 4096)) T2 (filF (fun o => memx (4096 * (Int.toNat (x1 / 4096)) + o)) (Int.toNat (x1 % 4096)) (Int.toNat (imin x2 (4096 - (x1 % 4096)))) c) [0, 1, 2, 3] hpi (if_pos rfl))
  replace hS := hS.to (WS.same (com' := m.com) (mem' := (filF m.mem (Int.toNat a) (Int.toNat ((x1 + (imin x2 (4096 - (x1 % 4096)))) - a)) c)) (pb' := d.pb) hS.mem (fun i _ => setB_two hpc i) (fun y _ => fil_step i1 (q := Int.toNat (x1 % 4096)) (k := (Int.toNat (imin x2 (4096 - (x1 % 4096))))) (by omega) (by have := him (by omega); omega) (by have := him (by omega); omega) y) (fun i _ _ => putN_two d.pb _ i))
  exact pop_then (hS.next ((x1 + (imin x2 (4096 - (x1 % 4096)))), (x2 - (imin x2 (4096 - (x1 % 4096)))), (fun k => (fun k => Fx k ∧ k ≠ d.pb (Int.toNat (x1 / 4096))) k ∨ k = d.pb (Int.toNat (x1 / 4096))), (filF m.mem (Int.toNat a) (Int.toNat ((x1 + (imin x2 (4096 - (x1 % 4096)))) - a)) c)) ⟨(by first | omega | assumption | (simp; done) | (simp; omega)), (by rfl), trivial⟩ (by dsimp only; omega))
 ·
  refine wp_exit ?_
  refine pop_then_exit ?_
  refine pop_then_exit ?_
  refine pop_block_hit ?_
  replace hS := hS.to (WS.closeL (H' := []) (cap := m.cap) (cnt := countTo m.com m.cap) (refuse := m.refuse) (com := m.com) (mem := memx) (pb := d.pb) (Fq := Fx) hS.mem 1 2 3 b d.bp d.bw d.ow d.nw d.cw m.armed d.TA d.TP d.ws [] hW hcl hrl hbw rfl)
  refine St.fallC 0 hS (.tuple #[]) [] trivial fun hw => ?_
  refine ⟨(fun k => k = b ∨ k = d.bp ∨ k = d.bw ∨ Fx k), retd rfl, (res_eq (r := arR b (fun k => k = b ∨ k = d.bp ∨ k = d.bw ∨ Fx k) (⟨m.cap, m.com, memx, m.armed, m.refuse⟩)) (by rw [i1, show Int.toNat (x1 - a) = Int.toNat n by omega]; rfl) (hw.res 0)), hw.frA⟩

set_option maxRecDepth 100000 in
set_option maxHeartbeats 1000000 in
theorem ar_Fill (b : Nat) (F : Nat → Prop) (m : AM) (a : Int) (n : Int) (c : UInt8) (w : World) (hr : (arR b F m).R w) :
    Calls Tryd.prog 36 #[pt b 0, vi a, vi n, v8 ((c.toNat : Nat) : Int)] w fun e w' => ∃ (F' : Nat → Prop), e = .returned (vi (chkE m a n)) ∧ (arR b F' (filM m a n c)).R w' ∧ Fr w w' F F' := by
 refine enter (args := [pt b 0, vi a, vi n, v8 ((c.toNat : Nat) : Int)]) (D := F) (A := [arR b F m]) Tryd.func36 rfl 22 rfl [] (WS.startA (r := arR b F m) hr trivial trivial) fun ac hS => ?_
 refine hS.regS [0, 0] [0, 1, 2] fun ν1 => seg [(7, pt (ν1 0) 0)] [(0, some ((ν1 0), .cells [v8 ((c.toNat : Nat) : Int)] 5))] [] trivial fun ac wd hS => ?_
 refine wp_seq ?_
 refine wp_region_seq ?_
 refine hS.opsC 3 [0, 0, 0] [0, 1, 2, 7] fun _ => seg [(10, pt b 0), (11, vi a), (12, vi n)] [(0, none)] [] trivial fun ac wd hS => ?_
 refine hS.call0 59 #[pt b 0, vi a, vi n] 13 (ar_check b F m a n _ (hS.mem.res 0) ) fun ac wd hS => ?_
 refine hS.opsC 1 [0] [0, 1, 2, 7] fun _ => seg [(9, vi (chkE m a n))] [(0, none)] [] trivial fun ac wd hS => ?_
 refine list_nil_seq ?_
 refine hS.regS [0, 0] [0, 1, 2, 7, 9] fun _ => seg [(15, vb (((chkE m a n) : Int) != 0))] [(0, none)] [] trivial fun ac wd hS => ?_
 refine hS.condC (((chkE m a n) : Int) != 0) (fun hb1o hb1 => ?_) (fun hb1o hb1 => ?_)
 ·
  have hno := hb1
  refine hS.regS [0, 0] [] fun _ => seg [(8, vi (chkE m a n))] [] [] trivial fun ac wd hS => ?_
  refine wp_ret ?_
  refine pop_then_ret ?_
  refine St.retC 0 hS (vi (chkE m a n)) [] trivial fun hw => ?_
  refine ⟨F, retd rfl, (res_eq (r := arR b F m) (by first | exact congrArg _ (fil_m1 (by omega)) | exact congrArg _ (fil_m2 hthr)) (hw.res 0)), hw.frA⟩
 ·
  have hthr := thr_of hb1
  refine wp_skip ?_
  refine pop_then ?_
  refine wp_region_seq ?_
  refine hS.opsC 4 [0, 0, 0, 0] [] fun _ => seg [(17, pt b 0), (18, vi a), (19, vi n), (20, .func (.func 78) #[] #[pt (ν1 0) 0])] [(0, none)] [] trivial fun ac wd hS => ?_
  refine hS.callC 60 #[pt b 0, vi a, vi n, .func (.func 78) #[] #[pt (ν1 0) 0]] (each_Fill b F m a n (ν1 0) _ _ (hS.mem.res 0) (HE.ro (hS.mem.get 0 (ν1 0) (.cells [v8 ((c.toNat : Nat) : Int)] 5))) (hS.mem.nF (g := (ν1 0)) (r := arR b F m) 0 0) (by first | assumption | omega | (simp_all; done) | (simp_all; omega))) ?_
  rintro _ wd ⟨F2, rfl, hA, hF⟩
  refine ⟨.tuple #[], rfl, ?_⟩
  replace hS := (hS.to (hS.mem.stepA 0 rfl hA hF)).put (d := 21) (v := .tuple #[]) (by decide)
  clear hF
  refine list_nil_seq ?_
  refine hS.regS [0] [] fun _ => seg [(8, vi 0)] [] [] trivial fun ac wd hS => ?_
  refine wp_ret ?_
  refine St.retC 0 hS (vi 0) [] trivial fun hw => ?_
  refine ⟨F2, retd (vint ?_), (res_eq (r := arR b F2 (filA m (Int.toNat a) (Int.toNat n) c)) (by first | exact congrArg _ (fil_m1 (by omega)) | exact congrArg _ (fil_m2 hthr)) (hw.res 0)), hw.frA⟩
  all_goals (first | rfl | omega)

end Go.Proofs.YtlnecfdbmoilbaaDoor.K
