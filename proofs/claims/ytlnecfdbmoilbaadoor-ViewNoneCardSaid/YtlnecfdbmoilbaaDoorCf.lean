/-
  Walks, printed by w2.py.
-/
import Derived.Test.YtlnecfdbmoilbaaDoorCe
import Derived.Test.YtlnecfdbmoilbaaDoorProg
namespace Go.Proofs.YtlnecfdbmoilbaaDoor.K
set_option linter.unusedVariables false
set_option linter.unusedSimpArgs false

set_option maxRecDepth 100000 in
set_option maxHeartbeats 1000000 in
theorem put1 (q : Nat) (o : Nat) (k : Nat) (cp : Nat) (sb_ : Nat) (n : Nat) (f : Nat → UInt8) (T : TypeId) (s : ByteArray) (w : World) (hm : HE.holds w q (.row T n n (bytes f 0))) (hm2 : HE.holds w sb_ (.cells [.string s] 9)) (huv : ¬ K.one sb_ q) (hb : o + k ≤ n) :
    Calls Tryd.prog 61 #[sc q o k cp, pt sb_ 0] w fun e w' => e = .returned (.tuple #[]) ∧ HE.holds w' q (.row T n n (bytes (laidF f o (min (ByteArray.size s) k) s) 0)) ∧ HE.holds w' sb_ (.cells [.string (ByteArray.extract s (min (ByteArray.size s) k) (ByteArray.size s))] 9) ∧ Fr w w' (orF (K.one q) (K.one sb_)) no := by
 refine enter (args := [sc q o k cp, pt sb_ 0]) (D := (orF (K.one q) (K.one sb_))) (A := []) Tryd.func61 rfl 8 rfl [(q, .row T n n (bytes f 0)), (sb_, .cells [.string s] 9)] (WS.startMM (H := []) hm hm2 trivial trivial trivial huv) fun ac hS => ?_
 refine St.ordBegin [(0, 1), (1, 1), (2, 1), (3, 0), (4, 1), (5, 2)] [(sb_, .cells [.string s] 9)] [1] hS fun wd hS => ?_
 have hap := hS.mem.pairs (Hf := [(sb_, .cells [.string s] 9)]) (l := [1])
 refine St.ordF [0, 0, 0] [0, 1, 2] [1] (rest := [(3, 0), (4, 1), (5, 2)]) hS hap <| segF [(3, .string s), (4, sc q o k cp), (5, .string s)] [.e sb_, .e sb_] trivial fun ac hS => ?_
 refine Runs1.ord (i := 3) ?_
 obtain ⟨i_, hi_, hz_, hs_, hb_⟩ := info_get (P := Tryd.prog) (e := 5) (z := v8 0) (s := 1) (b := 1) (by kernel_rfl)
 refine St.copyS hS (.tmp 4) (.tmp 5) 95 9 rfl rfl (by decide) Tryd.underlying95 hi_ hz_ hs_ (b := q) (off := o) (k := k) (cp := cp) (m := n) (tot := n) (e2 := T) (f := f) (s := s) 0 (by omega) fun ac wd hS => ?_
 refine hS.ordV (l := [1]) ?_
 refine St.ordF [10] [4] [1] (rest := [(5, 2)]) hS hap <| segF [(7, .string (ByteArray.extract s (Int.toNat ((min (ByteArray.size s) k : Nat) : Int)) (Int.toNat ((ByteArray.size s : Nat) : Int))))] [.p (0 ≤ ((min (ByteArray.size s) k : Nat) : Int) ∧ ((min (ByteArray.size s) k : Nat) : Int) ≤ ((ByteArray.size s : Nat) : Int) ∧ ((ByteArray.size s : Nat) : Int) ≤ (ByteArray.size s : Int))] ⟨(by omega), trivial⟩ fun ac hS => ?_
 refine St.ord2 5 [100] [] hS rfl fun _ => seg [] [(0, none), (1, some (sb_, .cells [.string (ByteArray.extract s (Int.toNat ((min (ByteArray.size s) k : Nat) : Int)) (Int.toNat ((ByteArray.size s : Nat) : Int)))] 9))] [.e sb_] trivial fun ac wd hS => ?_
 refine ord_nil ?_
 refine St.fallC 0 hS (.tuple #[]) [] trivial fun hw => ?_
 refine ⟨retd rfl, (HE.row_eq (hw.get 0 q (.row T n n (bytes (fun x => if o ≤ x ∧ x < o + (min (ByteArray.size s) k) then sb s (x - o) else f x) 0))) ?_), (HE.cells_eq (hw.get 1 sb_ (.cells [.string (ByteArray.extract s (Int.toNat ((min (ByteArray.size s) k : Nat) : Int)) (Int.toNat ((ByteArray.size s : Nat) : Int)))] 9)) ?_), hw.fr0⟩
 all_goals (first | rfl | (intro o_ _; rfl) | (simp [laidF]; done))

set_option maxRecDepth 100000 in
set_option maxHeartbeats 1000000 in
theorem each_Put (b : Nat) (F : Nat → Prop) (m : AM) (a : Int) (sb_ : Nat) (s : ByteArray) (w : World) (hr : (arR b F m).R w) (hm : HE.holds w sb_ (.cells [.string s] 9)) (hfs : ¬ F sb_) (hthr : thr m a (((ByteArray.size s) : Nat) : Int) = true) :
    Calls Tryd.prog 60 #[pt b 0, vi a, vi (((ByteArray.size s) : Nat) : Int), .func (.func 61) #[] #[pt sb_ 0]] w fun e w' => ∃ (F' : Nat → Prop), e = .returned (.tuple #[]) ∧ (arR b F' (laidM m (Int.toNat a) s)).R w' ∧ Wins w F F' ∧ HE.holds w' sb_ (.cells [.string (ByteArray.extract s (ByteArray.size s) (ByteArray.size s))] 9) ∧ Fr w w' (orF F (K.one sb_)) no := by
 have hst := WS.startAM (H := []) (r := arR b F m) hr hm trivial trivial trivial hfs
 obtain ⟨d, hd, hO, hbw⟩ := hst.openA
 have hcnt := countTo_le m.com m.cap
 have hW : Words d.ws d.nw m.cap m.com := hd.set
 have hcl : m.cap ≤ 1048576 := hd.capLe
 have hrl : m.refuse < 2 ^ 63 := hd.refuseLe
 obtain ⟨hI1, hI2, hI3, hI4⟩ := inB_facts (thr_in hthr)
 refine enter (args := [pt b 0, vi a, vi (((ByteArray.size s) : Nat) : Int), .func (.func 61) #[] #[pt sb_ 0]]) (D := (orF F (K.one sb_))) (A := [pgR 0 (Fp m.cap m.com d.pb) ⟨m.cap, m.com, m.mem, d.pb⟩]) Tryd.func60 rfl 38 rfl [(sb_, .cells [.string s] 9), (b, .cells [sc d.bp 0 m.cap m.cap, vi ((m.cap : Nat) : Int), sc d.bw d.ow d.nw d.cw, vi ((countTo m.com m.cap : Nat) : Int), vb m.armed, vi ((m.refuse : Nat) : Int)] d.TA), (d.bp, .row d.TP m.cap m.cap (pagesV m.com d.pb 0)), (d.bw, .fn d.ow (d.ow + d.nw) (u64s d.ws d.ow))] hO fun ac hS => ?_
 refine wp_block ?_
 refine St.loopC (σ := Int × Int × (Nat → Prop) × (Nat → UInt8) × ByteArray) (fun (x : Int × Int × (Nat → Prop) × (Nat → UInt8) × ByteArray) => match x with | (x1, x2, Fx, memx, sx) => ⟨[(0, [], pt b 0), (1, [], vi x1), (2, [], vi x2), (3, [], .func (.func 61) #[] #[pt sb_ 0])], [(sb_, .cells [.string sx] 9), (b, .cells [sc d.bp 0 m.cap m.cap, vi ((m.cap : Nat) : Int), sc d.bw d.ow d.nw d.cw, vi ((countTo m.com m.cap : Nat) : Int), vb m.armed, vi ((m.refuse : Nat) : Int)] d.TA), (d.bp, .row d.TP m.cap m.cap (pagesV m.com d.pb 0)), (d.bw, .fn d.ow (d.ow + d.nw) (u64s d.ws d.ow))], [pgR 0 Fx (⟨m.cap, m.com, memx, d.pb⟩)], (0 ≤ x2 ∧ a ≤ x1 ∧ x1 + x2 = a + (((ByteArray.size s) : Nat) : Int)) ∧ (memx = laidF m.mem (Int.toNat a) (Int.toNat (x1 - a)) s) ∧ (sx = ByteArray.extract s (Int.toNat (x1 - a)) (ByteArray.size s)) ∧ True, Int.toNat x2⟩) (a, (((ByteArray.size s) : Nat) : Int), (Fp m.cap m.com d.pb), m.mem, s) ⟨(by first | omega | (rw [show Int.toNat (a - a) = 0 by omega]; first | exact laidF_zero _ _ _ | exact ext_all s)), (by first | omega | (rw [show Int.toNat (a - a) = 0 by omega]; first | exact laidF_zero _ _ _ | exact ext_all s)), (by first | omega | (rw [show Int.toNat (a - a) = 0 by omega]; first | exact laidF_zero _ _ _ | exact ext_all s)), trivial⟩ hS ?_
 clear hS
 rintro ⟨x1, x2, Fx, memx, sx⟩ ⟨i0, i1, i2, -⟩ ac wd hS
 replace i0 : 0 ≤ x2 ∧ a ≤ x1 ∧ x1 + x2 = a + (((ByteArray.size s) : Nat) : Int) := i0
 replace i1 : memx = laidF m.mem (Int.toNat a) (Int.toNat (x1 - a)) s := i1
 replace i2 : sx = ByteArray.extract s (Int.toNat (x1 - a)) (ByteArray.size s) := i2
 have him : 0 < x2 → 1 ≤ imin x2 (4096 - (x1 % 4096)) ∧ imin x2 (4096 - (x1 % 4096)) ≤ x2 ∧ imin x2 (4096 - (x1 % 4096)) ≤ 4096 - (x1 % 4096) := fun h => by unfold imin; split <;> omega
 refine wp_seq ?_
 refine hS.regS [0, 0] [0, 1, 2, 3] fun _ => seg [(10, vb (decide ((0 : Int) < x2)))] [(0, none), (1, none), (2, none), (3, none)] [] trivial fun ac wd hS => ?_
 refine hS.condC (decide ((0 : Int) < x2)) (fun hb1o hb1 => ?_) (fun hb1o hb1 => ?_)
 ·
  refine wp_skip ?_
  refine pop_then ?_
  refine wp_block ?_
  refine hS.regS [0, 0, 20, 20, 0, 0] [0, 1, 2, 3] fun _ => seg [(8, vi (imin x2 (4096 - (x1 % 4096))))] [(0, none), (1, none), (2, none), (3, none)] [.p (fit .i64 (4096 - (x1 % 4096))), .p (4096 ≠ 0 ∧ Int.tmod x1 4096 = x1 % 4096)] ⟨fit_i64 (by omega), rem2 (by omega) (by omega), trivial⟩ fun ac wd hS => ?_
  obtain ⟨hpi, hpc⟩ := thr_page hthr (x := x1) (by omega) (by omega)
  obtain ⟨T2, hO2⟩ := hS.mem.take (Int.toNat (x1 / 4096)) hpi hpc
  replace hS := hS.to hO2
  clear hO2
  refine wp_region_seq ?_
  refine hS.opsC 12 [0, 0, 0, 0, 100, 0, 20, 10, fx 200 (pt (d.pb (Int.toNat (x1 / 4096))) 0), 0, 0, 20] [0, 1, 2, 3, 8] fun _ => seg [(16, .func (.func 61) #[] #[pt sb_ 0]), (25, pt (d.pb (Int.toNat (x1 / 4096))) 0), (27, vi (x1 % 4096))] [(0, none), (1, none), (2, none), (3, none), (4, none)] [.p (4096 ≠ 0 ∧ Int.tmod x1 4096 = x1 % 4096), .p ((((pagesV m.com d.pb 0) (Int.toNat (x1 / 4096))) : Value) = pt (d.pb (Int.toNat (x1 / 4096))) 0), .e d.bp, .p (Int.toNat (x1 / 4096) < m.cap), .p (0 ≤ (x1 / 4096) ∧ (x1 / 4096) < ((m.cap : Nat) : Int)), .p (4096 ≠ 0 ∧ IntKind.i64.wrap (Int.tdiv x1 4096) = x1 / 4096), .e b] ⟨rem2 (by omega) (by omega), ((pagesV_abs m.com d.pb (Int.toNat (x1 / 4096))).trans (pt_if hpc)), (by first | omega | (have := him (by omega); omega)), (by first | omega | (have := him (by omega); omega)), quo2 (by omega) (by omega) (by omega), trivial⟩ fun ac wd hS => ?_
  refine Runs1.list ?_
  obtain ⟨i_, hi_, hz_, hs_, hb_⟩ := info_get (P := Tryd.prog) (e := 5) (z := v8 0) (s := 1) (b := 1) (by kernel_rfl)
  refine St.slcP hS 91 (.tmp 25) (some (.tmp 27)) none rfl rfl (by decide) Tryd.underlying91 hi_ hs_ (b := (d.pb (Int.toNat (x1 / 4096)))) (q := (Int.toNat (x1 % 4096))) (k := (4096 - (Int.toNat (x1 % 4096)))) (x1 % 4096) 4096 (by first | omega | (have := him (by omega); omega)) (by first | omega | (have := him (by omega); omega)) (by first | omega | (have := him (by omega); omega)) fun ac hS => ?_
  refine hS.opsC 2 [0, fx 20 (sc (d.pb (Int.toNat (x1 / 4096))) (Int.toNat (x1 % 4096)) (Int.toNat (imin x2 (4096 - (x1 % 4096)))) (4096 - (Int.toNat (x1 % 4096))))] [0, 1, 2, 3, 8, 16] fun _ => seg [(30, sc (d.pb (Int.toNat (x1 / 4096))) (Int.toNat (x1 % 4096)) (Int.toNat (imin x2 (4096 - (x1 % 4096)))) (4096 - (Int.toNat (x1 % 4096))))] [(0, none), (1, none), (2, none), (3, none), (4, none)] [.p ((sc (d.pb (Int.toNat (x1 / 4096))) (Int.toNat (x1 % 4096)) (Int.toNat ((imin x2 (4096 - (x1 % 4096))) : Int)) (4096 - (Int.toNat (x1 % 4096))) : Value) = sc (d.pb (Int.toNat (x1 / 4096))) (Int.toNat (x1 % 4096)) (Int.toNat (imin x2 (4096 - (x1 % 4096)))) (4096 - (Int.toNat (x1 % 4096)))), .p (0 ≤ ((imin x2 (4096 - (x1 % 4096))) : Int) ∧ ((imin x2 (4096 - (x1 % 4096))) : Int) ≤ (((4096 - (Int.toNat (x1 % 4096))) : Nat) : Int) ∧ (4096 - (Int.toNat (x1 % 4096))) ≤ (4096 - (Int.toNat (x1 % 4096))) ∧ (0 : Int) = 0)] ⟨(rfl), (by first | omega | (have := him (by omega); omega)), trivial⟩ fun ac wd hS => ?_
  refine hS.callC 61 #[sc (d.pb (Int.toNat (x1 / 4096))) (Int.toNat (x1 % 4096)) (Int.toNat (imin x2 (4096 - (x1 % 4096)))) (4096 - (Int.toNat (x1 % 4096))), pt sb_ 0] (put1 (d.pb (Int.toNat (x1 / 4096))) (Int.toNat (x1 % 4096)) (Int.toNat (imin x2 (4096 - (x1 % 4096)))) (4096 - (Int.toNat (x1 % 4096))) sb_ 4096 (fun o => memx (4096 * (Int.toNat (x1 / 4096)) + o)) T2 sx _ (hS.mem.get 4 (d.pb (Int.toNat (x1 / 4096))) (.row T2 4096 4096 (bytes (fun o => memx (4096 * (Int.toNat (x1 / 4096)) + o)) 0))) (hS.mem.get 0 sb_ (.cells [.string sx] 9)) (hS.mem.neq 4 0) (by first | assumption | omega | (simp_all; done) | (simp_all; omega))) ?_
  rintro _ wd ⟨rfl, hM, hM2, hF⟩
  refine ⟨.tuple #[], rfl, ?_⟩
  replace hS := (hS.to (hS.mem.stepMM 4 0 (by decide) (show _ = some ((d.pb (Int.toNat (x1 / 4096))), .row T2 4096 4096 (bytes (fun o => memx (4096 * (Int.toNat (x1 / 4096)) + o)) 0)) by as_aux_lemma => kernel_rfl) (show _ = some (sb_, .cells [.string sx] 9) by as_aux_lemma => kernel_rfl) rfl rfl rfl rfl hM hM2 hF)).put (d := 31) (v := .tuple #[]) (by decide)
  clear hF
  refine list_nil_seq ?_
  refine hS.regC [0, 0, 20, 0, 0, 20, 0, 0] [0, 3] fun _ => seg [(1, vi (x1 + (imin x2 (4096 - (x1 % 4096))))), (2, vi (x2 - (imin x2 (4096 - (x1 % 4096)))))] [(0, none), (1, none), (2, none), (3, none), (4, none)] [.p (fit .i64 (x2 - (imin x2 (4096 - (x1 % 4096))))), .p (fit .i64 (x1 + (imin x2 (4096 - (x1 % 4096)))))] ⟨fit_i64 (by omega), fit_i64 (by omega), trivial⟩ fun ac wd hS => ?_
  refine pop_block ?_
  replace hS := hS.to (WS.absorb (H' := [(sb_, .cells [.string (ByteArray.extract sx (min (ByteArray.size sx) (Int.toNat (imin x2 (4096 - (x1 % 4096))))) (ByteArray.size sx))] 9), (b, .cells [sc d.bp 0 m.cap m.cap, vi ((m.cap : Nat) : Int), sc d.bw d.ow d.nw d.cw, vi ((countTo m.com m.cap : Nat) : Int), vb m.armed, vi ((m.refuse : Nat) : Int)] d.TA), (d.bp, .row d.TP m.cap m.cap (pagesV m.com d.pb 0)), (d.bw, .fn d.ow (d.ow + d.nw) (u64s d.ws d.ow))]) hS.mem 4 (d.pb (Int.toNat (x1 / 4096))) (Int.toNat (x1 / 4096)) T2 (laidF (fun o => memx (4096 * (Int.toNat (x1 / 4096)) + o)) (Int.toNat (x1 % 4096)) (min (ByteArray.size sx) (Int.toNat (imin x2 (4096 - (x1 % 4096))))) sx) [0, 1, 2, 3] hpi (if_pos rfl))
  replace hS := hS.to (WS.same (com' := m.com) (mem' := (laidF m.mem (Int.toNat a) (Int.toNat ((x1 + (imin x2 (4096 - (x1 % 4096)))) - a)) s)) (pb' := d.pb) hS.mem (fun i _ => setB_two hpc i) (fun y _ => laid_step i1 i2 (q := Int.toNat (x1 % 4096)) (k := (Int.toNat (imin x2 (4096 - (x1 % 4096))))) (by omega) (by have := him (by omega); omega) (by have := him (by omega); omega) (by have := him (by omega); omega) y) (fun i _ _ => putN_two d.pb _ i))
  exact pop_then (hS.next ((x1 + (imin x2 (4096 - (x1 % 4096)))), (x2 - (imin x2 (4096 - (x1 % 4096)))), (fun k => (fun k => Fx k ∧ k ≠ d.pb (Int.toNat (x1 / 4096))) k ∨ k = d.pb (Int.toNat (x1 / 4096))), (laidF m.mem (Int.toNat a) (Int.toNat ((x1 + (imin x2 (4096 - (x1 % 4096)))) - a)) s), (ByteArray.extract sx (min (ByteArray.size sx) (Int.toNat (imin x2 (4096 - (x1 % 4096))))) (ByteArray.size sx))) ⟨(by first | omega | assumption | (simp; done) | (simp; omega)), (by rfl), (by exact ext_step i2 (by have := him (by omega); omega) (by have := him (by omega); omega)), trivial⟩ (by dsimp only; omega))
 ·
  refine wp_exit ?_
  refine pop_then_exit ?_
  refine pop_then_exit ?_
  refine pop_block_hit ?_
  replace hS := hS.to (WS.closeL (H' := [(sb_, .cells [.string sx] 9)]) (cap := m.cap) (cnt := countTo m.com m.cap) (refuse := m.refuse) (com := m.com) (mem := memx) (pb := d.pb) (Fq := Fx) hS.mem 1 2 3 b d.bp d.bw d.ow d.nw d.cw m.armed d.TA d.TP d.ws [0] hW hcl hrl hbw rfl)
  refine St.fallC 0 hS (.tuple #[]) [] trivial fun hw => ?_
  refine ⟨(fun k => k = b ∨ k = d.bp ∨ k = d.bw ∨ Fx k), retd rfl, (res_eq (r := arR b (fun k => k = b ∨ k = d.bp ∨ k = d.bw ∨ Fx k) (⟨m.cap, m.com, memx, m.armed, m.refuse⟩)) (by rw [i1, show Int.toNat (x1 - a) = ByteArray.size s by omega]; rfl) (hw.res 0)), (hw.wins 0 (show _ = some (sb_, .cells [.string sx] 9) by as_aux_lemma => kernel_rfl)), (HE.cells_eq (hw.get 0 sb_ (.cells [.string sx] 9)) ?_), hw.fr0⟩
  all_goals (first | rfl | (rw [i2, show Int.toNat (x1 - a) = ByteArray.size s by omega]))

set_option maxRecDepth 100000 in
set_option maxHeartbeats 1000000 in
theorem ar_Put (b : Nat) (F : Nat → Prop) (m : AM) (a : Int) (s : ByteArray) (w : World) (hr : (arR b F m).R w) :
    Calls Tryd.prog 16 #[pt b 0, vi a, .string s] w fun e w' => ∃ (F' : Nat → Prop), e = .returned (vi (chkE m a (((ByteArray.size s) : Nat) : Int))) ∧ (arR b F' (putM m a s)).R w' ∧ Fr w w' F F' := by
 refine enter (args := [pt b 0, vi a, .string s]) (D := F) (A := [arR b F m]) Tryd.func16 rfl 22 rfl [] (WS.startA (r := arR b F m) hr trivial trivial) fun ac hS => ?_
 refine hS.regS [0, 0] [0, 1] fun ν1 => seg [(5, pt (ν1 0) 0)] [(0, some ((ν1 0), .cells [.string s] 9))] [] trivial fun ac wd hS => ?_
 refine wp_seq ?_
 refine wp_region_seq ?_
 refine hS.opsC 4 [0, 0, 0, 0] [0, 1, 5] fun _ => seg [(8, pt b 0), (9, vi a), (11, vi ((ByteArray.size s : Nat) : Int))] [(0, none)] [.e (ν1 0)] trivial fun ac wd hS => ?_
 refine hS.call0 59 #[pt b 0, vi a, vi ((ByteArray.size s : Nat) : Int)] 12 (ar_check b F m a ((ByteArray.size s : Nat) : Int) _ (hS.mem.res 0) ) fun ac wd hS => ?_
 refine hS.opsC 1 [0] [0, 1, 5] fun _ => seg [(7, vi (chkE m a ((ByteArray.size s : Nat) : Int)))] [(0, none)] [] trivial fun ac wd hS => ?_
 refine list_nil_seq ?_
 refine hS.regS [0, 0] [0, 1, 5, 7] fun _ => seg [(14, vb (((chkE m a ((ByteArray.size s : Nat) : Int)) : Int) != 0))] [(0, none)] [] trivial fun ac wd hS => ?_
 refine hS.condC (((chkE m a ((ByteArray.size s : Nat) : Int)) : Int) != 0) (fun hb1o hb1 => ?_) (fun hb1o hb1 => ?_)
 ·
  have hno := hb1
  refine hS.regS [0, 0] [] fun _ => seg [(6, vi (chkE m a ((ByteArray.size s : Nat) : Int)))] [] [] trivial fun ac wd hS => ?_
  refine wp_ret ?_
  refine pop_then_ret ?_
  refine St.retC 0 hS (vi (chkE m a ((ByteArray.size s : Nat) : Int))) [] trivial fun hw => ?_
  refine ⟨F, retd (vint ?_), (res_eq (r := arR b F m) (by first | exact congrArg _ (putM_no (by omega)) | exact congrArg _ (putM_yes hthr)) (hw.res 0)), hw.frA⟩
  all_goals (first | rfl | omega)
 ·
  have hthr := thr_of hb1
  refine wp_skip ?_
  refine pop_then ?_
  refine wp_region_seq ?_
  refine hS.opsC 5 [0, 0, 0, 0, 0] [] fun _ => seg [(16, pt b 0), (17, vi a), (19, vi ((ByteArray.size s : Nat) : Int)), (20, .func (.func 61) #[] #[pt (ν1 0) 0])] [(0, none)] [.e (ν1 0)] trivial fun ac wd hS => ?_
  refine hS.callC 60 #[pt b 0, vi a, vi ((ByteArray.size s : Nat) : Int), .func (.func 61) #[] #[pt (ν1 0) 0]] (each_Put b F m a (ν1 0) s _ (hS.mem.res 0) (hS.mem.get 0 (ν1 0) (.cells [.string s] 9)) (hS.mem.nF (g := (ν1 0)) (r := arR b F m) 0 0) (by first | assumption | omega | (simp_all; done) | (simp_all; omega))) ?_
  rintro _ wd ⟨F2, rfl, hA, hWn, hM, hF⟩
  refine ⟨.tuple #[], rfl, ?_⟩
  replace hS := (hS.to (hS.mem.stepAM 0 0 rfl hA (show _ = some ((ν1 0), .cells [.string s] 9) by as_aux_lemma => kernel_rfl) rfl rfl hM hWn hF)).put (d := 21) (v := .tuple #[]) (by decide)
  clear hF
  refine list_nil_seq ?_
  refine hS.regS [0] [] fun _ => seg [(6, vi 0)] [] [] trivial fun ac wd hS => ?_
  refine wp_ret ?_
  refine St.retC 0 hS (vi 0) [] trivial fun hw => ?_
  refine ⟨F2, retd (vint ?_), (res_eq (r := arR b F2 (laidM m (Int.toNat a) s)) (by first | exact congrArg _ (putM_no (by omega)) | exact congrArg _ (putM_yes hthr)) (hw.res 0)), hw.frA⟩
  all_goals (first | rfl | omega)

end Go.Proofs.YtlnecfdbmoilbaaDoor.K
