/-
  Walks, printed by w2.py.
-/
import Derived.Test.YtlnecfdbmoilbaaDoorCd
import Derived.Test.YtlnecfdbmoilbaaDoorKs
import Derived.Test.YtlnecfdbmoilbaaDoorProg
namespace Go.Proofs.YtlnecfdbmoilbaaDoor.K
set_option linter.unusedVariables false
set_option linter.unusedSimpArgs false

set_option maxRecDepth 100000 in
set_option maxHeartbeats 1000000 in
theorem bd_fresh (b : Nat) (v : Value) (w : World) (hm : HE.holds w b (.cells [pnil, v] 99)) :
    Calls Tryd.prog 99 #[pt b 0] w fun e w' => e = .returned (.tuple #[]) ∧ HE.holds w' b (.cells [pt b 0, v] 99) ∧ Fr w w' (K.one b) no := by
 refine enter (args := [pt b 0]) (D := K.one b) (A := []) Tryd.func99 rfl 20 rfl [(b, .cells [pnil, v] 99)] (WS.startM (H := []) hm trivial trivial) fun ac hS => ?_
 refine hS.regS [0, 0, 0, 0, 0] [0] fun _ => seg [(6, vb true)] [(0, none)] [.e b] trivial fun ac wd hS => ?_
 refine hS.condT ?_
 refine wp_region_lit ?_
 refine hS.opsC 2 [0, 0] [] fun _ => seg [(7, pt b 0), (8, pt b 0)] [(0, none)] [] trivial fun ac wd hS => ?_
 refine Runs1.list ?_
 obtain ⟨i_, hi_, _, hs_, _⟩ := info_get (P := Tryd.prog) (e := 99) (z := .agg #[pnil, vnil]) (s := 2) (b := 32) (by kernel_rfl)
 refine St.conv1 hS (.tmp 8) 97 150 rfl rfl (by decide) (u := pt b 0) (v := pt b 0) (Lib.run_to_unsafe _ ⟨b, 0, none⟩ Tryd.underlying97 Tryd.underlying150 hi_ (by rw [hs_]; decide) (HE.shape (hS.mem.get 0 b (.cells [pnil, v] 99))) (show 0 < 2 by decide)) fun ac hS => ?_
 refine Runs1.list ?_
 refine St.extern1 hS 113 (.tmp 9) rfl rfl (by decide) (u := pt b 0) (v := pt b 0) (by rw [run_callFunc_extern Tryd.func113 (by kernel_rfl) (by kernel_rfl) (by kernel_rfl) (e := Extern.AbiNoEscape.same) (by kernel_rfl), Lib.run_noEscape]; rfl) fun ac hS => ?_
 refine Runs1.list ?_
 obtain ⟨i_, hi_, _, hs_, _⟩ := info_get (P := Tryd.prog) (e := 99) (z := .agg #[pnil, vnil]) (s := 2) (b := 32) (by kernel_rfl)
 refine St.conv1 hS (.tmp 10) 150 97 rfl rfl (by decide) (u := pt b 0) (v := pt b 0) (Lib.run_from_unsafe _ ⟨b, 0, none⟩ Tryd.underlying150 Tryd.underlying97 hi_ (HE.shape (hS.mem.get 0 b (.cells [pnil, v] 99))) (by as_aux_lemma => kernel_rfl)) fun ac hS => ?_
 refine hS.opsC 3 [0, 0, 0] [] fun _ => seg [] [(0, some (b, .cells [pt b 0, v] 99))] [.e b] trivial fun ac wd hS => ?_
 refine list_nil ?_
 refine St.fallC 0 hS (.tuple #[]) [] trivial fun hw => ?_
 refine ⟨retd rfl, (hw.get 0 b (.cells [pt b 0, v] 99)), hw.fr0⟩

set_option maxRecDepth 100000 in
set_option maxHeartbeats 1000000 in
theorem bd_used (b : Nat) (v : Value) (w : World) (hm : HE.holds w b (.cells [pt b 0, v] 99)) :
    Calls Tryd.prog 99 #[pt b 0] w fun e w' => e = .returned (.tuple #[]) ∧ HE.holds w' b (.cells [pt b 0, v] 99) ∧ Fr w w' (K.one b) no := by
 refine enter (args := [pt b 0]) (D := K.one b) (A := []) Tryd.func99 rfl 20 rfl [(b, .cells [pt b 0, v] 99)] (WS.startM (H := []) hm trivial trivial) fun ac hS => ?_
 refine hS.regS [0, 0, 0, 0, 0] [0] fun _ => seg [(6, vb false)] [(0, none)] [.e b] trivial fun ac wd hS => ?_
 refine hS.condF ?_
 refine wp_region_seq ?_
 refine hS.opsC 5 [0, 0, 0, 0, 0] [] fun _ => seg [(17, pt b 0), (18, pt b 0)] [(0, none)] [.e b] trivial fun ac wd hS => ?_
 refine Runs1.list ?_
 obtain ⟨i_, hi_, _, _, _⟩ := info_get (P := Tryd.prog) (e := 99) (z := .agg #[pnil, vnil]) (s := 2) (b := 32) (by kernel_rfl)
 refine St.bin1 hS .neq (.tmp 17) (.tmp 18) 97 97 rfl rfl (by decide) (u := pt b 0) (v := pt b 0) (r := vb false) (Lib.run_neq_ptr_same _ ⟨b, 0, none⟩ Tryd.underlying97 hi_) rfl fun ac hS => ?_
 refine list_nil_seq ?_
 refine hS.condF ?_
 refine wp_skip ?_
 refine St.fallC 0 hS (.tuple #[]) [] trivial fun hw => ?_
 refine ⟨retd rfl, (hw.get 0 b (.cells [pt b 0, v] 99)), hw.fr0⟩

theorem bd_check (b : Nat) (p : Value) (v : Value) (w : World) (hm : HE.holds w b (.cells [p, v] 99)) (hp : p = pnil ∨ p = pt b 0) :
    Calls Tryd.prog 99 #[pt b 0] w fun e w' => e = .returned (.tuple #[]) ∧ HE.holds w' b (.cells [pt b 0, v] 99) ∧ Fr w w' (K.one b) no := by
 rcases hp with rfl | rfl
 · exact bd_fresh b v w hm
 · exact bd_used b v w hm

set_option maxRecDepth 100000 in
set_option maxHeartbeats 1000000 in
theorem bd_Write (b : Nat) (F : Nat → Prop) (s : ByteArray) (q : Nat) (o : Nat) (k : Nat) (cp : Nat) (n : Nat) (f : Nat → UInt8) (w : World) (hr : (bdR 99 5 b F s).R w) (hh0 : HE.holds w q (.fn 0 (0 + n) (bytes f 0))) (hf0 : ¬ F q) (hk : 0 < k) (hb : o + k ≤ n) (hn : s.size + k ≤ 4294967296) :
    Calls Tryd.prog 63 #[pt b 0, sc q o k cp] w fun e w' => ∃ (F' : Nat → Prop), e = .returned (.tuple #[vi ((k : Nat) : Int), .nilIface]) ∧ (bdR 99 5 b F' (s ++ bs (fun j => f (o + j)) k)).R w' ∧ Fr w w' F F' := by
 have hn2 : (2 : Nat) ^ 32 = 4294967296 := rfl
 refine enter (args := [pt b 0, sc q o k cp]) (D := F) (A := [bdR 99 5 b F s]) Tryd.func63 rfl 19 rfl [(q, .fn 0 (0 + n) (bytes f 0))] (WS.startA (r := bdR 99 5 b F s) hr ⟨⟨rfl, hh0⟩, trivial⟩ ⟨hf0, trivial⟩) fun ac hS => ?_
 refine hS.regS [0, 0] [0, 1] fun _ => seg [] [(0, none)] [] trivial fun ac wd hS => ?_
 obtain ⟨p, v_, Fv, hp, hv, hO⟩ := hS.mem.bdOpen
 obtain ⟨x, cx, rfl⟩ := hv.slice
 replace hS := hS.to hO
 clear hO
 refine wp_region_seq ?_
 refine hS.opsC 1 [0] [0, 1] fun _ => seg [(6, pt b 0)] [(0, none), (1, none)] [] trivial fun ac wd hS => ?_
 refine hS.callC 99 #[pt b 0] (bd_check b p (.slice x (ByteArray.size s) cx) _ (hS.mem.get 1 b (.cells [p, .slice x (ByteArray.size s) cx] 99)) (by assumption)) ?_
 rintro _ wd ⟨rfl, hM, hF⟩
 refine ⟨.tuple #[], rfl, ?_⟩
 replace hS := (hS.to (hS.mem.stepM 1 (show _ = some (b, .cells [p, .slice x (ByteArray.size s) cx] 99) by as_aux_lemma => kernel_rfl) rfl rfl hM hF)).put (d := 7) (v := .tuple #[]) (by decide)
 clear hF
 refine list_nil_seq ?_
 refine wp_region_seq ?_
 refine hS.opsC 6 [0, 0, 0, 0, 100, 0] [1] fun _ => seg [(8, pt b 0), (12, .slice x (ByteArray.size s) cx), (13, sc q o k cp)] [(0, none), (1, none)] [.e b] trivial fun ac wd hS => ?_
 obtain ⟨i_, hi_, hz_, hs_, hb_⟩ := info_get (P := Tryd.prog) (e := 5) (z := v8 0) (s := 1) (b := 1) (by kernel_rfl)
 refine Runs1.list ?_
 refine St.appB hS (.tmp 12) (.tmp 13) 95 rfl rfl (by decide) Tryd.underlying95 hi_ hz_ hs_ (by omega) rfl (b := q) (off := o) (k := k) (cp := cp) (fun j => f (o + j - 0)) (Cells8.fn (hS.mem.get 0 q (.fn 0 (0 + n) (bytes f 0))) (by omega) (by omega)) (by omega) (by omega) fun ac wd v2_ F3 hB4 _ hS => ?_
 obtain ⟨xo1, xc2, rfl⟩ := hB4.slice
 refine hS.opsC 3 [0, 0, 100] [1] fun _ => seg [] [(0, none), (1, some (b, .cells [pt b 0, .slice xo1 (ByteArray.size (s ++ bs (fun j => f (o + j - 0)) k)) xc2] 99))] [.e b] trivial fun ac wd hS => ?_
 refine list_nil_seq ?_
 refine hS.regS [0, 0, 0, 0] [] fun _ => seg [(4, vi ((k : Nat) : Int)), (5, .nilIface)] [(1, none)] [] trivial fun ac wd hS => ?_
 refine wp_ret ?_
 replace hS := hS.to (WS.bdShut (T := 99) (v := .slice xo1 (ByteArray.size (s ++ bs (fun j => f (o + j - 0)) k)) xc2) (s := (s ++ bs (fun j => f (o + j - 0)) k)) (Fv := F3) (H' := []) hS.mem 0 b (pt b 0) [] (.inr rfl))
 refine St.retC 0 hS (.tuple #[vi ((k : Nat) : Int), .nilIface]) [] trivial fun hw => ?_
 refine ⟨(fun k => k = b ∨ F3 k), retd rfl, (res_eq (r := bdR 99 5 b (fun k => k = b ∨ F3 k) (s ++ bs (fun j => f (o + j - 0)) k)) (by rfl) (hw.res 0)), hw.frA⟩

set_option maxRecDepth 100000 in
set_option maxHeartbeats 1000000 in
theorem bytes1 (b : Nat) (F : Nat → Prop) (s : ByteArray) (q : Nat) (o : Nat) (k : Nat) (cp : Nat) (n : Nat) (f : Nat → UInt8) (w : World) (hr : (bdR 99 5 b F s).R w) (hh0 : HE.holds w q (.fn 0 (0 + n) (bytes f 0))) (hf0 : ¬ F q) (hk : 0 < k) (hb : o + k ≤ n) (hn : s.size + k ≤ 4294967296) :
    Calls Tryd.prog 62 #[sc q o k cp, pt b 0] w fun e w' => ∃ (F' : Nat → Prop), e = .returned (.tuple #[]) ∧ (bdR 99 5 b F' (s ++ bs (fun j => f (o + j)) k)).R w' ∧ Fr w w' F F' := by
 refine enter (args := [sc q o k cp, pt b 0]) (D := F) (A := [bdR 99 5 b F s]) Tryd.func62 rfl 5 rfl [(q, .fn 0 (0 + n) (bytes f 0))] (WS.startA (r := bdR 99 5 b F s) hr ⟨⟨rfl, hh0⟩, trivial⟩ ⟨hf0, trivial⟩) fun ac hS => ?_
 refine wp_region_lit ?_
 refine hS.opsC 1 [0] [1] fun _ => seg [(3, sc q o k cp)] [(0, none)] [] trivial fun ac wd hS => ?_
 refine hS.callC 63 #[pt b 0, sc q o k cp] (bd_Write b F s q o k cp n f _ (hS.mem.res 0) (hS.mem.get 0 q (.fn 0 (0 + n) (bytes f 0))) (hS.mem.nF (g := q) (r := bdR 99 5 b F s) 0 0) (by first | assumption | omega | (simp_all; done) | (simp_all; omega)) (by first | assumption | omega | (simp_all; done) | (simp_all; omega)) (by first | assumption | omega | (simp_all; done) | (simp_all; omega))) ?_
 rintro _ wd ⟨F1, rfl, hA, hF⟩
 refine ⟨.tuple #[vi ((k : Nat) : Int), .nilIface], rfl, ?_⟩
 replace hS := (hS.to (hS.mem.stepA 0 rfl hA hF)).put (d := 4) (v := .tuple #[vi ((k : Nat) : Int), .nilIface]) (by decide)
 clear hF
 refine list_nil ?_
 refine St.fallC 0 hS (.tuple #[]) [] trivial fun hw => ?_
 refine ⟨F1, retd rfl, (hw.res 0), hw.frA⟩

set_option maxRecDepth 100000 in
set_option maxHeartbeats 1000000 in
theorem each_Bytes (b : Nat) (F : Nat → Prop) (m : AM) (bb : Nat) (Fb : Nat → Prop) (s : ByteArray) (a : Int) (n : Int) (w : World) (hr : (arR b F m).R w) (hr1 : (bdR 99 5 bb Fb s).R w) (hap : ∀ k, F k → ¬ Fb k) (hthr : thr m a n = true) (hn : s.size + Int.toNat n ≤ 4294967296) :
    Calls Tryd.prog 60 #[pt b 0, vi a, vi n, .func (.func 62) #[] #[pt bb 0]] w fun e w' => ∃ (Fb' : Nat → Prop), e = .returned (.tuple #[]) ∧ (bdR 99 5 bb Fb' (s ++ bs (fun j => m.mem (Int.toNat a + j)) (Int.toNat n))).R w' ∧ Fr w w' Fb Fb' := by
 obtain ⟨d, hd⟩ := hr
 have hW : Words d.ws d.nw m.cap m.com := hd.set
 have hcl : m.cap ≤ 1048576 := hd.capLe
 have hFb : F b := (hd.foot _).2 (.inl rfl)
 have hFp : F d.bp := (hd.foot _).2 (.inr (.inl rfl))
 obtain ⟨hI1, hI2, hI3, hI4⟩ := inB_facts (thr_in hthr)
 refine enter (args := [pt b 0, vi a, vi n, .func (.func 62) #[] #[pt bb 0]]) (D := Fb) (A := [bdR 99 5 bb Fb s]) Tryd.func60 rfl 38 rfl [(b, .fn 0 6 (roF [sc d.bp 0 m.cap m.cap, vi ((m.cap : Nat) : Int), sc d.bw d.ow d.nw d.cw, vi ((countTo m.com m.cap : Nat) : Int), vb m.armed, vi ((m.refuse : Nat) : Int)])), (d.bp, .fn 0 (0 + m.cap) (pagesV m.com d.pb 0))] (WS.startA (r := bdR 99 5 bb Fb s) hr1 ⟨⟨rfl, hd.ro⟩, ⟨rfl, hd.po⟩, trivial⟩ ⟨hap _ hFb, hap _ hFp, trivial⟩) fun ac hS => ?_
 refine wp_block ?_
 refine St.loopC (σ := Int × Int × (Nat → Prop) × ByteArray) (fun (x : Int × Int × (Nat → Prop) × ByteArray) => match x with | (x1, x2, Fx, mx) => ⟨[(0, [], pt b 0), (1, [], vi x1), (2, [], vi x2), (3, [], .func (.func 62) #[] #[pt bb 0])], [(b, .fn 0 6 (roF [sc d.bp 0 m.cap m.cap, vi ((m.cap : Nat) : Int), sc d.bw d.ow d.nw d.cw, vi ((countTo m.com m.cap : Nat) : Int), vb m.armed, vi ((m.refuse : Nat) : Int)])), (d.bp, .fn 0 (0 + m.cap) (pagesV m.com d.pb 0))], [bdR 99 5 bb Fx mx], (0 ≤ x2 ∧ a ≤ x1 ∧ x1 + x2 = a + n) ∧ (mx = s ++ bs (fun j => m.mem (Int.toNat a + j)) (Int.toNat (x1 - a))) ∧ True, Int.toNat x2⟩) (a, n, Fb, s) ⟨(by first | omega | (rw [show Int.toNat (a - a) = 0 by omega, bs_zero, ByteArray.append_empty])), (by first | omega | (rw [show Int.toNat (a - a) = 0 by omega, bs_zero, ByteArray.append_empty])), trivial⟩ hS ?_
 clear hS
 rintro ⟨x1, x2, Fx, mx⟩ ⟨i0, i1, -⟩ ac wd hS
 replace i0 : 0 ≤ x2 ∧ a ≤ x1 ∧ x1 + x2 = a + n := i0
 replace i1 : mx = s ++ bs (fun j => m.mem (Int.toNat a + j)) (Int.toNat (x1 - a)) := i1
 have hsz : mx.size = s.size + Int.toNat (x1 - a) := by rw [i1, bs_append]
 have him : 0 < x2 → 1 ≤ imin x2 (4096 - (x1 % 4096)) ∧ imin x2 (4096 - (x1 % 4096)) ≤ x2 ∧ imin x2 (4096 - (x1 % 4096)) ≤ 4096 - (x1 % 4096) := fun h => by unfold imin; split <;> omega
 refine wp_seq ?_
 refine hS.regS [0, 0] [0, 1, 2, 3] fun _ => seg [(10, vb (decide ((0 : Int) < x2)))] [(0, none), (1, none)] [] trivial fun ac wd hS => ?_
 refine hS.condC (decide ((0 : Int) < x2)) (fun hb1o hb1 => ?_) (fun hb1o hb1 => ?_)
 ·
  refine wp_skip ?_
  refine pop_then ?_
  refine wp_block ?_
  refine hS.regS [0, 0, 20, 20, 0, 0] [0, 1, 2, 3] fun _ => seg [(8, vi (imin x2 (4096 - (x1 % 4096))))] [(0, none), (1, none)] [.p (fit .i64 (4096 - (x1 % 4096))), .p (4096 ≠ 0 ∧ Int.tmod x1 4096 = x1 % 4096)] ⟨fit_i64 (by omega), rem2 (by omega) (by omega), trivial⟩ fun ac wd hS => ?_
  obtain ⟨hpi, hpc⟩ := thr_page hthr (x := x1) (by omega) (by omega)
  replace hS := hS.to (hS.mem.acq (g := d.pb (Int.toNat (x1 / 4096))) (hd.po1 hpi hpc) (hap _ ((hd.foot _).2 (.inr (.inr (.inr ⟨_, hpi, hpc, rfl⟩))))))
  refine wp_region_seq ?_
  refine hS.opsC 12 [0, 0, 0, 0, 0, 0, 20, 10, fx 100 (pt (d.pb (Int.toNat (x1 / 4096))) 0), 0, 0, 20] [0, 1, 2, 3, 8] fun _ => seg [(16, .func (.func 62) #[] #[pt bb 0]), (25, pt (d.pb (Int.toNat (x1 / 4096))) 0), (27, vi (x1 % 4096))] [(0, none), (1, none), (2, none)] [.p (4096 ≠ 0 ∧ Int.tmod x1 4096 = x1 % 4096), .p ((((pagesV m.com d.pb 0) (Int.toNat (x1 / 4096))) : Value) = pt (d.pb (Int.toNat (x1 / 4096))) 0), .e d.bp, .p (0 ≤ Int.toNat (x1 / 4096) ∧ Int.toNat (x1 / 4096) < (0 + m.cap)), .p (0 ≤ (x1 / 4096) ∧ (x1 / 4096) < ((m.cap : Nat) : Int)), .p (4096 ≠ 0 ∧ IntKind.i64.wrap (Int.tdiv x1 4096) = x1 / 4096), .e b, .p (0 ≤ 0 ∧ 0 < 6)] ⟨rem2 (by omega) (by omega), ((pagesV_abs m.com d.pb (Int.toNat (x1 / 4096))).trans (pt_if hpc)), (by first | omega | (have := him (by omega); omega)), (by first | omega | (have := him (by omega); omega)), quo2 (by omega) (by omega) (by omega), (by decide), trivial⟩ fun ac wd hS => ?_
  refine Runs1.list ?_
  obtain ⟨i_, hi_, hz_, hs_, hb_⟩ := info_get (P := Tryd.prog) (e := 5) (z := v8 0) (s := 1) (b := 1) (by kernel_rfl)
  refine St.slcP hS 91 (.tmp 25) (some (.tmp 27)) none rfl rfl (by decide) Tryd.underlying91 hi_ hs_ (b := (d.pb (Int.toNat (x1 / 4096)))) (q := (Int.toNat (x1 % 4096))) (k := (4096 - (Int.toNat (x1 % 4096)))) (x1 % 4096) 4096 (by first | omega | (have := him (by omega); omega)) (by first | omega | (have := him (by omega); omega)) (by first | omega | (have := him (by omega); omega)) fun ac hS => ?_
  refine hS.opsC 2 [0, fx 20 (sc (d.pb (Int.toNat (x1 / 4096))) (Int.toNat (x1 % 4096)) (Int.toNat (imin x2 (4096 - (x1 % 4096)))) (4096 - (Int.toNat (x1 % 4096))))] [0, 1, 2, 3, 8, 16] fun _ => seg [(30, sc (d.pb (Int.toNat (x1 / 4096))) (Int.toNat (x1 % 4096)) (Int.toNat (imin x2 (4096 - (x1 % 4096)))) (4096 - (Int.toNat (x1 % 4096))))] [(0, none), (1, none), (2, none)] [.p ((sc (d.pb (Int.toNat (x1 / 4096))) (Int.toNat (x1 % 4096)) (Int.toNat ((imin x2 (4096 - (x1 % 4096))) : Int)) (4096 - (Int.toNat (x1 % 4096))) : Value) = sc (d.pb (Int.toNat (x1 / 4096))) (Int.toNat (x1 % 4096)) (Int.toNat (imin x2 (4096 - (x1 % 4096)))) (4096 - (Int.toNat (x1 % 4096)))), .p (0 ≤ ((imin x2 (4096 - (x1 % 4096))) : Int) ∧ ((imin x2 (4096 - (x1 % 4096))) : Int) ≤ (((4096 - (Int.toNat (x1 % 4096))) : Nat) : Int) ∧ (4096 - (Int.toNat (x1 % 4096))) ≤ (4096 - (Int.toNat (x1 % 4096))) ∧ (0 : Int) = 0)] ⟨(rfl), (by first | omega | (have := him (by omega); omega)), trivial⟩ fun ac wd hS => ?_
  refine hS.callC 62 #[sc (d.pb (Int.toNat (x1 / 4096))) (Int.toNat (x1 % 4096)) (Int.toNat (imin x2 (4096 - (x1 % 4096)))) (4096 - (Int.toNat (x1 % 4096))), pt bb 0] (bytes1 bb Fx mx (d.pb (Int.toNat (x1 / 4096))) (Int.toNat (x1 % 4096)) (Int.toNat (imin x2 (4096 - (x1 % 4096)))) (4096 - (Int.toNat (x1 % 4096))) 4096 (fun o => m.mem (4096 * (Int.toNat (x1 / 4096)) + o)) _ (hS.mem.res 0) (hS.mem.get 2 (d.pb (Int.toNat (x1 / 4096))) (.fn 0 4096 (bytes (fun o => m.mem (4096 * (Int.toNat (x1 / 4096)) + o)) 0))) (hS.mem.nF (g := (d.pb (Int.toNat (x1 / 4096)))) (r := bdR 99 5 bb Fx mx) 2 0) (by first | assumption | omega | (simp_all; done) | (simp_all; omega)) (by first | assumption | omega | (simp_all; done) | (simp_all; omega)) (by first | assumption | omega | (simp_all; done) | (simp_all; omega))) ?_
  rintro _ wd ⟨F2, rfl, hA, hF⟩
  refine ⟨.tuple #[], rfl, ?_⟩
  replace hS := (hS.to (hS.mem.stepA 0 rfl hA hF)).put (d := 31) (v := .tuple #[]) (by decide)
  clear hF
  refine list_nil_seq ?_
  refine hS.regC [0, 0, 20, 0, 0, 20, 0, 0] [0, 3] fun _ => seg [(1, vi (x1 + (imin x2 (4096 - (x1 % 4096))))), (2, vi (x2 - (imin x2 (4096 - (x1 % 4096)))))] [(0, none), (1, none)] [.p (fit .i64 (x2 - (imin x2 (4096 - (x1 % 4096))))), .p (fit .i64 (x1 + (imin x2 (4096 - (x1 % 4096)))))] ⟨fit_i64 (by omega), fit_i64 (by omega), trivial⟩ fun ac wd hS => ?_
  refine pop_block ?_
  exact pop_then (hS.next ((x1 + (imin x2 (4096 - (x1 % 4096)))), (x2 - (imin x2 (4096 - (x1 % 4096)))), F2, (mx ++ bs (fun j => (fun o => m.mem (4096 * (Int.toNat (x1 / 4096)) + o)) ((Int.toNat (x1 % 4096)) + j)) (Int.toNat (imin x2 (4096 - (x1 % 4096)))))) ⟨(by first | omega | assumption | (simp; done) | (simp; omega)), (by exact bs_step i1 (fun j hj => congrArg m.mem (by have := him (by omega); omega)) (by have := him (by omega); omega)), trivial⟩ (by dsimp only; omega))
 ·
  refine wp_exit ?_
  refine pop_then_exit ?_
  refine pop_then_exit ?_
  refine pop_block_hit ?_
  refine St.fallC 0 hS (.tuple #[]) [] trivial fun hw => ?_
  refine ⟨Fx, retd rfl, (res_eq (r := bdR 99 5 bb Fx mx) (by rw [i1, show Int.toNat (x1 - a) = Int.toNat n by omega]) (hw.res 0)), hw.frA⟩

set_option maxRecDepth 100000 in
set_option maxHeartbeats 1000000 in
theorem bd_String0 (b : Nat) (p : Value) (w : World) (hh0 : HE.holds w b (.fn 0 2 (roF [p, vnil]))) :
    Calls Tryd.prog 64 #[pt b 0] w fun e w' => e = .returned (.string (ByteArray.empty)) ∧ Fr w w' no no := by
 refine enter (args := [pt b 0]) (D := no) (A := []) Tryd.func64 rfl 14 rfl [(b, .fn 0 2 (roF [p, vnil]))] (WS.startL ⟨⟨rfl, hh0⟩, trivial⟩) fun ac hS => ?_
 refine hS.regS [0] [0] fun _ => seg [] [(0, none)] [] trivial fun ac wd hS => ?_
 refine St.ordBeginS [(0, 1), (1, 1), (2, 1), (3, 1), (5, 1), (6, 1), (7, 1), (8, 1), (9, 1), (4, 0), (10, 0), (11, 1)] [(b, .fn 0 2 (roF [p, vnil]))] [0] hS fun wd hS => ?_
 have hap := hS.mem.pairs (Hf := [(b, .fn 0 2 (roF [p, vnil]))]) (l := [0])
 refine St.ordF [0, 0, 0, 0, 0, 0, 0, 0, 0] [0, 1, 2, 3, 5, 6, 7, 8, 9] [] (rest := [(4, 0), (10, 0), (11, 1)]) hS hap <| segF [(6, vnil), (12, vi 0)] [.e b, .p (0 ≤ 1 ∧ 1 < 2), .e b, .p (0 ≤ 1 ∧ 1 < 2)] ⟨(by decide), (by decide), trivial⟩ fun ac hS => ?_
 refine Runs1.ord (i := 4) ?_
 refine St.uSD hS (.tmp 6) #[95] rfl rfl (by decide) (p := none) (k := 0) (cp := 0) (.inl rfl) fun ac hS => ?_
 refine hS.ordV (l := [0]) ?_
 refine Runs1.ord (i := 10) ?_
 refine St.uS0 hS (.tmp 7) (.tmp 12) 135 3 rfl rfl (by decide) (p := none) fun ac hS => ?_
 refine hS.ordV (l := [0]) ?_
 refine St.ordF [0] [11] [] (rest := []) hS hap <| segF [(2, .string (ByteArray.empty))] [] trivial fun ac hS => ?_
 refine ord_nil ?_
 refine wp_ret ?_
 refine St.retC 0 hS (.string (ByteArray.empty)) [] trivial fun hw => ?_
 refine ⟨retd rfl, hw.fr0⟩

set_option maxRecDepth 100000 in
set_option maxHeartbeats 1000000 in
theorem bd_String1 (b : Nat) (p : Value) (g : Nat) (s : ByteArray) (tot : Nat) (w : World) (hh0 : HE.holds w b (.fn 0 2 (roF [p, sc g 0 (ByteArray.size s) tot]))) (hrow : HE.holds w g (.row 5 (ByteArray.size s) tot (bytes (sb s) 0))) (hne : ¬ K.one g b) (h0 : 0 < ByteArray.size s) (h9 : ByteArray.size s ≤ tot) (hn : ByteArray.size s ≤ 4294967296) :
    Calls Tryd.prog 64 #[pt b 0] w fun e w' => e = .returned (.string s) ∧ Fr w w' (K.one g) no := by
 refine enter (args := [pt b 0]) (D := K.one g) (A := []) Tryd.func64 rfl 14 rfl [(b, .fn 0 2 (roF [p, sc g 0 (ByteArray.size s) tot])), (g, .row 5 (ByteArray.size s) tot (bytes (sb s) 0))] (WS.startM (H := [(b, .fn 0 2 (roF [p, sc g 0 (ByteArray.size s) tot]))]) hrow ⟨⟨rfl, hh0⟩, trivial⟩ ⟨hne, trivial⟩) fun ac hS => ?_
 refine hS.regS [0] [0] fun _ => seg [] [(0, none), (1, none)] [] trivial fun ac wd hS => ?_
 refine St.ordBeginS [(0, 1), (1, 1), (2, 1), (3, 1), (5, 1), (6, 1), (7, 1), (8, 1), (9, 1), (4, 0), (10, 0), (11, 1)] [(b, .fn 0 2 (roF [p, sc g 0 (ByteArray.size s) tot]))] [0] hS fun wd hS => ?_
 have hap := hS.mem.pairs (Hf := [(b, .fn 0 2 (roF [p, sc g 0 (ByteArray.size s) tot]))]) (l := [0])
 refine St.ordF [0, 0, 0, 0, 0, 0, 0, 0, 0] [0, 1, 2, 3, 5, 6, 7, 8, 9] [] (rest := [(4, 0), (10, 0), (11, 1)]) hS hap <| segF [(6, sc g 0 (ByteArray.size s) tot), (12, vi (((ByteArray.size s) : Nat) : Int))] [.e b, .p (0 ≤ 1 ∧ 1 < 2), .e b, .p (0 ≤ 1 ∧ 1 < 2)] ⟨(by decide), (by decide), trivial⟩ fun ac hS => ?_
 refine Runs1.ord (i := 4) ?_
 refine St.uSD hS (.tmp 6) #[95] rfl rfl (by decide) (p := (some ⟨g, 0, none⟩)) (k := (ByteArray.size s)) (cp := tot) (.inr (by omega)) fun ac hS => ?_
 refine hS.ordV (l := [0]) ?_
 refine Runs1.ord (i := 10) ?_
 refine St.uS hS (.tmp 7) (.tmp 12) 135 3 rfl rfl (by decide) Tryd.underlying135 (by as_aux_lemma => kernel_rfl) (g := g) (tot := tot) (s := s) (by omega) (by omega) 1 [0] (H' := [(b, .fn 0 2 (roF [p, sc g 0 (ByteArray.size s) tot]))]) (by as_aux_lemma => kernel_rfl) (by as_aux_lemma => kernel_rfl) (by decide) (by decide) fun ac wd hS => ?_
 refine hS.ordV (l := [0]) ?_
 refine St.ordF [0] [11] [] (rest := []) hS hap <| segF [(2, .string s)] [] trivial fun ac hS => ?_
 refine ord_nil ?_
 refine wp_ret ?_
 refine St.retC 0 hS (.string s) [] trivial fun hw => ?_
 refine ⟨retd rfl, hw.fr0⟩

theorem bd_String (b : Nat) (F : Nat → Prop) (s : ByteArray) (w : World) (hr : (bdR 99 5 b F s).R w) (hn : s.size ≤ 4294967296) :
    Calls Tryd.prog 64 #[pt b 0] w fun e w' => e = .returned (.string s) ∧ Fr w w' F no := by
 obtain ⟨p, v, F', h1, h2, h3, h4, hF⟩ := hr
 rcases h3 with ⟨rfl, rfl, h5⟩ | ⟨g, tot, rfl, h5, h6, h7⟩
 · refine (bd_String0 b p w (HE.ro h1)).mono ?_
   rintro e w' ⟨rfl, hf⟩
   exact ⟨rfl, hf.to (fun k hk => hk.elim) (fun k hk => hk.elim)⟩
 · obtain ⟨cc, c1, c2, c3, c4⟩ := id h6
   refine (bd_String1 b p g s tot w (HE.ro h1) h6 (fun h => h4 ((h7 b).2 h)) h5 c3 hn).mono ?_
   rintro e w' ⟨rfl, hf⟩
   exact ⟨rfl, hf.to (fun k hk => .inl ((hF k).2 (.inr ((h7 k).2 hk)))) (fun k hk => hk.elim)⟩

set_option maxRecDepth 100000 in
set_option maxHeartbeats 1000000 in
theorem ar_Bytes (b : Nat) (F : Nat → Prop) (m : AM) (a : Int) (n : Int) (w : World) (hr : (arR b F m).R w) :
    Calls Tryd.prog 17 #[pt b 0, vi a, vi n] w fun e w' => e = .returned (.tuple #[.string (bytS m a n), vi (chkE m a n)]) ∧ Fr w w' no no := by
 obtain ⟨d, hd⟩ := id hr
 have hW : Words d.ws d.nw m.cap m.com := hd.set
 have hcl : m.cap ≤ 1048576 := hd.capLe
 refine enter (args := [pt b 0, vi a, vi n]) (D := no) (A := []) Tryd.func17 rfl 23 rfl [] (WS.startL trivial) fun ac hS => ?_
 refine hS.regS [0, 0] [0, 1, 2] fun _ => seg [] [] [] trivial fun ac wd hS => ?_
 refine wp_seq ?_
 refine wp_region_seq ?_
 refine hS.opsC 3 [0, 0, 0] [0, 1, 2] fun _ => seg [(10, pt b 0), (11, vi a), (12, vi n)] [] [] trivial fun ac wd hS => ?_
 refine hS.call0 59 #[pt b 0, vi a, vi n] 13 (ar_check b F m a n _ (Res.keep hr hS.mem.fr) ) fun ac wd hS => ?_
 refine hS.opsC 1 [0] [0, 1, 2] fun _ => seg [(8, vi (chkE m a n))] [] [] trivial fun ac wd hS => ?_
 refine list_nil_seq ?_
 refine hS.regS [0, 0] [0, 1, 2, 8] fun _ => seg [(15, vb (((chkE m a n) : Int) != 0))] [] [] trivial fun ac wd hS => ?_
 refine hS.condC (((chkE m a n) : Int) != 0) (fun hb1o hb1 => ?_) (fun hb1o hb1 => ?_)
 ·
  have hno := hb1
  refine hS.regS [0, 0, 0] [] fun _ => seg [(6, .string (⟨#[]⟩ : ByteArray)), (7, vi (chkE m a n))] [] [] trivial fun ac wd hS => ?_
  refine wp_ret ?_
  refine pop_then_ret ?_
  refine St.retC 0 hS (.tuple #[.string (⟨#[]⟩ : ByteArray), vi (chkE m a n)]) [] trivial fun hw => ?_
  refine ⟨retd (tuple2 (vstr ?_) rfl), hw.fr0⟩
  all_goals (first | exact bytS_no (by omega) | exact bytS_yes hthr | omega | rfl)
 ·
  have hthr := thr_of hb1
  obtain ⟨hI1, hI2, hI3, hI4⟩ := inB_facts (thr_in hthr)
  refine wp_skip ?_
  refine pop_then ?_
  refine hS.regS [0] [0, 1, 2] fun ν6 => seg [(9, pt (ν6 0) 0)] [(0, some ((ν6 0), .cells [pnil, vnil] 99))] [] trivial fun ac wd hS => ?_
  have hnew : w.heap.size ≤ (ν6 0) := (hS.mem.getm 0 (ν6 0) (.cells [pnil, vnil] 99)).resolve_right (fun h => h)
  replace hS := hS.to (WS.bdNew (H' := []) hS.mem 0 (ν6 0) 99 5 [])
  refine wp_region_seq ?_
  refine hS.opsC 4 [0, 0, 0, 0] [9] fun _ => seg [(17, pt b 0), (18, vi a), (19, vi n), (20, .func (.func 62) #[] #[pt (ν6 0) 0])] [] [] trivial fun ac wd hS => ?_
  refine hS.callC 60 #[pt b 0, vi a, vi n, .func (.func 62) #[] #[pt (ν6 0) 0]] (each_Bytes b F m (ν6 0) (K.one (ν6 0)) ByteArray.empty a n _ (Res.keep hr hS.mem.fr) (hS.mem.res 0) (by exact new_apart hr hnew) (by first | assumption | omega | (simp_all; done) | (simp_all; omega)) (by rw [ByteArray.size_empty]; omega)) ?_
  rintro _ wd ⟨F2, rfl, hA, hF⟩
  refine ⟨.tuple #[], rfl, ?_⟩
  replace hS := (hS.to (hS.mem.stepA 0 rfl hA hF)).put (d := 21) (v := .tuple #[]) (by decide)
  clear hF
  refine list_nil_seq ?_
  refine wp_region_seq ?_
  refine hS.callC 64 #[pt (ν6 0) 0] (bd_String (ν6 0) F2 (ByteArray.empty ++ bs (fun j => m.mem (Int.toNat a + j)) (Int.toNat n)) _ (hS.mem.res 0) (by rw [ByteArray.empty_append, bs_size]; omega)) ?_
  rintro _ wd ⟨rfl, hF⟩
  refine ⟨.string (ByteArray.empty ++ bs (fun j => m.mem (Int.toNat a + j)) (Int.toNat n)), rfl, ?_⟩
  replace hS := (hS.to (hS.mem.consA 0 rfl hF)).put (d := 22) (v := .string (ByteArray.empty ++ bs (fun j => m.mem (Int.toNat a + j)) (Int.toNat n))) (by decide)
  clear hF
  refine hS.opsC 2 [0, 0] [] fun _ => seg [(6, .string (ByteArray.empty ++ bs (fun j => m.mem (Int.toNat a + j)) (Int.toNat n))), (7, vi 0)] [] [] trivial fun ac wd hS => ?_
  refine list_nil_seq ?_
  refine wp_ret ?_
  refine St.retC 0 hS (.tuple #[.string (ByteArray.empty ++ bs (fun j => m.mem (Int.toNat a + j)) (Int.toNat n)), vi 0]) [] trivial fun hw => ?_
  refine ⟨retd (tuple2 (vstr ?_) (vint ?_)), hw.fr0⟩
  all_goals (first | exact bytS_no (by omega) | exact bytS_yes hthr | omega | rfl)

end Go.Proofs.YtlnecfdbmoilbaaDoor.K
