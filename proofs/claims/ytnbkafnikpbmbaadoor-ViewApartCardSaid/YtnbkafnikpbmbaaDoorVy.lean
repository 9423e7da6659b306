/-
  Walks, printed by w2.py.
-/
import Derived.Test.YtnbkafnikpbmbaaDoorYh
import Derived.Test.YtnbkafnikpbmbaaDoorVz
import Derived.Test.YtnbkafnikpbmbaaDoorCq
import Derived.Test.YtnbkafnikpbmbaaDoorProg
namespace Go.Proofs.YtnbkafnikpbmbaaDoor.K
set_option linter.unusedVariables false
set_option linter.unusedSimpArgs false

set_option maxRecDepth 100000 in
set_option maxHeartbeats 1000000 in
theorem vw_Copy (b : Nat) (F : Nat → Prop) (m : AM) (o_ : Int) (z : Int) (t : Int) (f : Int) (n : Int) (w : World) (hr : (arR b F m).R w) (ho : 0 ≤ o_ ∧ 0 ≤ z ∧ o_ + z ≤ 4294967296) :
    Calls Tryd.prog 151 #[.agg #[pt b 0, vi o_, vi z], vi t, vi f, vi n] w fun e w' => ∃ (F' : Nat → Prop), e = .returned (vi (vcpE m o_ z t f n)) ∧ (arR b F' (vcpM m o_ z t f n)).R w' ∧ Fr w w' F F' := by
 refine enter (args := [.agg #[pt b 0, vi o_, vi z], vi t, vi f, vi n]) (D := F) (A := [arR b F m]) Tryd.func151 rfl 37 rfl [] (WS.startA (r := arR b F m) hr trivial trivial) fun ac hS => ?_
 refine hS.regS [0, 0] [1, 2, 3] fun ν1 => seg [(4, pt (ν1 0) 0)] [(0, some ((ν1 0), .cells [pt b 0, vi o_, vi z] 72))] [] trivial fun ac wd hS => ?_
 refine wp_seq ?_
 refine wp_region_seq ?_
 refine hS.opsC 3 [0, 0, 0] [1, 2, 3, 4] fun _ => seg [(11, .agg #[pt b 0, vi o_, vi z]), (12, vi f), (13, vi n)] [(0, none)] [.e (ν1 0), .e (ν1 0), .e (ν1 0)] trivial fun ac wd hS => ?_
 refine hS.call0 188 #[.agg #[pt b 0, vi o_, vi z], vi f, vi n] 14 (vw_check b f n o_ z _  (by first | assumption | omega | (simp_all; done) | (simp_all; omega))) fun ac wd hS => ?_
 refine hS.opsC 1 [0] [1, 2, 3, 4] fun _ => seg [(9, vi (vchE z f n))] [(0, none)] [] trivial fun ac wd hS => ?_
 refine list_nil_seq ?_
 refine hS.regS [0, 0] [1, 2, 3, 4, 9] fun _ => seg [(16, vb (((vchE z f n) : Int) != 0))] [(0, none)] [] trivial fun ac wd hS => ?_
 refine hS.condC (((vchE z f n) : Int) != 0) (fun hb1o hb1 => ?_) (fun hb1o hb1 => ?_)
 ·
  have hD := vcp_1 (m := m) (o := o_) (z := z) (t := t) (f := f) (n := n) hb1
  refine hS.regS [0, 0] [] fun _ => seg [(8, vi (vchE z f n))] [] [] trivial fun ac wd hS => ?_
  refine wp_ret ?_
  refine pop_then_ret ?_
  refine St.retC 0 hS (vi (vchE z f n)) [] trivial fun hw => ?_
  refine ⟨F, retd (vint ?_), (res_eq (r := arR b F m) (by exact congrArg _ hD.2) (hw.res 0)), hw.frA⟩
  all_goals (exact hD.1)
 ·
  have hc1 := hb1
  have hci1 := vch_in hc1
  refine wp_skip ?_
  refine pop_then ?_
  refine wp_seq ?_
  refine wp_region_seq ?_
  refine hS.opsC 3 [0, 0, 0] [1, 2, 3, 4] fun _ => seg [(18, .agg #[pt b 0, vi o_, vi z]), (19, vi t), (20, vi n)] [(0, none)] [.e (ν1 0), .e (ν1 0), .e (ν1 0)] trivial fun ac wd hS => ?_
  refine hS.call0 188 #[.agg #[pt b 0, vi o_, vi z], vi t, vi n] 21 (vw_check b t n o_ z _  (by first | assumption | omega | (simp_all; done) | (simp_all; omega))) fun ac wd hS => ?_
  refine hS.opsC 1 [0] [1, 2, 3, 4] fun _ => seg [(10, vi (vchE z t n))] [(0, none)] [] trivial fun ac wd hS => ?_
  refine list_nil_seq ?_
  refine hS.regS [0, 0] [1, 2, 3, 4, 10] fun _ => seg [(23, vb (((vchE z t n) : Int) != 0))] [(0, none)] [] trivial fun ac wd hS => ?_
  refine hS.condC (((vchE z t n) : Int) != 0) (fun hb2o hb2 => ?_) (fun hb2o hb2 => ?_)
  ·
   have hD := vcp_2 (m := m) (o := o_) (z := z) (t := t) (f := f) (n := n) hc1 hb2
   refine hS.regS [0, 0] [] fun _ => seg [(8, vi (vchE z t n))] [] [] trivial fun ac wd hS => ?_
   refine wp_ret ?_
   refine pop_then_ret ?_
   refine St.retC 0 hS (vi (vchE z t n)) [] trivial fun hw => ?_
   refine ⟨F, retd (vint ?_), (res_eq (r := arR b F m) (by exact congrArg _ hD.2) (hw.res 0)), hw.frA⟩
   all_goals (exact hD.1)
  ·
   have hc2 := hb2
   have hci2 := vch_in hc2
   have hD := vcp_3 (m := m) (o := o_) (z := z) (t := t) (f := f) (n := n) hc1 hc2
   refine wp_skip ?_
   refine pop_then ?_
   refine wp_region_seq ?_
   refine hS.opsC 11 [0, 0, 0, 0, 0, 20, 0, 0, 0, 20, 0] [] fun _ => seg [(26, pt b 0), (30, vi (o_ + t)), (34, vi (o_ + f)), (35, vi n)] [] [.p (fit .i64 (o_ + f)), .e (ν1 0), .p (fit .i64 (o_ + t)), .e (ν1 0), .e (ν1 0)] ⟨fit_i64 (by omega), fit_i64 (by omega), trivial⟩ fun ac wd hS => ?_
   refine hS.callC 112 #[pt b 0, vi (o_ + t), vi (o_ + f), vi n] (ar_Copy b F m (o_ + t) (o_ + f) n _ (hS.mem.res 0) ) ?_
   rintro _ wd ⟨F3, rfl, hA, hF⟩
   refine ⟨vi (cpyE m (o_ + t) (o_ + f) n), rfl, ?_⟩
   replace hS := (hS.to (hS.mem.stepA 0 rfl hA hF)).put (d := 36) (v := vi (cpyE m (o_ + t) (o_ + f) n)) (by decide)
   clear hF
   refine hS.opsC 1 [0] [] fun _ => seg [(8, vi (cpyE m (o_ + t) (o_ + f) n))] [] [] trivial fun ac wd hS => ?_
   refine list_nil_seq ?_
   refine wp_ret ?_
   refine St.retC 0 hS (vi (cpyE m (o_ + t) (o_ + f) n)) [] trivial fun hw => ?_
   refine ⟨F3, retd (vint ?_), (res_eq (r := arR b F3 (cpyM m (o_ + t) (o_ + f) n)) (by exact congrArg _ hD.2) (hw.res 0)), hw.frA⟩
   all_goals (exact hD.1)

set_option maxRecDepth 100000 in
set_option maxHeartbeats 1000000 in
theorem ref03_Put0 (g : Nat) (u : Nat) (cp : Nat) (rf : Int) (a : Int) (s : ByteArray) (S : Nat → ByteArray) (w : World) (hh0 : HE.holds w g (.fn u (u + 0) (strs S u))) :
    Calls Tryd.prog 109 #[.agg #[sc g u 0 cp, vi rf], vi a, .string s] w fun e w' => ∃ (e2 : Int), e = .returned (.tuple #[.agg #[sc g u 0 cp, vi rf], vi e2]) ∧ Fr w w' no no := by
 refine enter (args := [.agg #[sc g u 0 cp, vi rf], vi a, .string s]) (D := no) (A := []) Tryd.func109 rfl 59 rfl [(g, .fn u (u + 0) (strs S u))] (WS.startL ⟨⟨rfl, hh0⟩, trivial⟩) fun ac hS => ?_
 refine hS.regS [0, 0, 0] [1, 2] fun ν1 => seg [(3, pt (ν1 0) 0), (6, pt (ν1 1) 0)] [(0, none), (1, some ((ν1 0), .cells [sc g u 0 cp, vi rf] 56)), (2, some ((ν1 1), .cells [vnil, vi 0] 56))] [] trivial fun ac wd hS => ?_
 refine wp_seq ?_
 refine wp_region_seq ?_
 refine hS.opsC 4 [100, 0, 0, 0] [1, 2, 3, 6] fun _ => seg [(11, .agg #[sc g u 0 cp, vi rf]), (12, vi a), (14, vi ((ByteArray.size s : Nat) : Int))] [(0, none), (1, none), (2, none)] [.e (ν1 0), .e (ν1 0)] trivial fun ac wd hS => ?_
 refine hS.call0 61 #[.agg #[sc g u 0 cp, vi rf], vi a, vi ((ByteArray.size s : Nat) : Int)] 15 (ref03_There g u 0 cp rf a ((ByteArray.size s : Nat) : Int) S _ (hS.mem.get 0 g (.fn u (u + 0) (strs S u))) (by omega)) fun ac wd hS => ?_
 refine hS.opsC 1 [0] [1, 2, 3, 6] fun _ => seg [(16, vb (!(thr (amS S 0) a ((ByteArray.size s : Nat) : Int))))] [(0, none), (1, none), (2, none)] [] trivial fun ac wd hS => ?_
 refine list_nil_seq ?_
 refine hS.condC (!(thr (amS S 0) a ((ByteArray.size s : Nat) : Int))) (fun hb1o hb1 => ?_) (fun hb1o hb1 => ?_)
 ·
  refine hS.regS [100, 200, 0] [6] fun _ => seg [(7, vi 3)] [(0, none), (2, some ((ν1 1), .cells [sc g u 0 cp, vi rf] 56))] [.e (ν1 1), .e (ν1 1), .e (ν1 0), .e (ν1 0)] trivial fun ac wd hS => ?_
  refine wp_ret ?_
  refine pop_then_ret ?_
  refine St.retC 1 hS (.tuple #[.agg #[sc g u 0 cp, vi rf], vi 3]) [.e (ν1 1), .e (ν1 1)] trivial fun hw => ?_
  refine ⟨3, retd rfl, hw.fr0⟩
 ·
  have hthr := thr_n0 (by simpa using hb1)
  refine wp_skip ?_
  refine pop_then ?_
  refine wp_seq ?_
  refine wp_block ?_
  refine St.loopC (σ := Int × ByteArray) (fun (x : Int × ByteArray) => match x with | (x1, x2) => ⟨[(1, [], vi x1), (2, [], .string x2), (3, [], pt (ν1 0) 0), (6, [], pt (ν1 1) 0)], [(g, .fn u (u + 0) (strs S u)), ((ν1 0), .cells [sc g u 0 cp, vi rf] 56), ((ν1 1), .cells [vnil, vi 0] 56)], [], (x2.size = 0) ∧ True, 0⟩) (a, s) ⟨(by omega), trivial⟩ hS ?_
  clear hS
  rintro ⟨x1, x2⟩ ⟨i0, -⟩ ac wd hS
  replace i0 : x2.size = 0 := i0
  refine wp_seq ?_
  refine hS.regS [0, 0, 0] [1, 2, 3, 6] fun _ => seg [(20, vb (decide ((0 : Int) < ((ByteArray.size x2 : Nat) : Int))))] [(0, none), (1, none), (2, none)] [] trivial fun ac wd hS => ?_
  refine hS.condK (decide ((0 : Int) < ((ByteArray.size x2 : Nat) : Int))) false (by exact decide_eq_false (by omega)) ?_
  show Code.wp _ _ _ _ _
  refine wp_exit ?_
  refine pop_then_exit ?_
  refine pop_then_exit ?_
  refine pop_block_hit ?_
  refine pop_then ?_
  refine hS.regS [100, 200, 0] [6] fun _ => seg [(7, vi 0)] [(0, none), (2, some ((ν1 1), .cells [sc g u 0 cp, vi rf] 56))] [.e (ν1 1), .e (ν1 1), .e (ν1 0), .e (ν1 0)] trivial fun ac wd hS => ?_
  refine wp_ret ?_
  refine St.retC 1 hS (.tuple #[.agg #[sc g u 0 cp, vi rf], vi 0]) [.e (ν1 1), .e (ν1 1)] trivial fun hw => ?_
  refine ⟨0, retd rfl, hw.fr0⟩

set_option maxRecDepth 100000 in
set_option maxHeartbeats 1000000 in
theorem ref03_Fill0 (g : Nat) (u : Nat) (cp : Nat) (rf : Int) (a : Int) (k : Int) (c : Int) (S : Nat → ByteArray) (w : World) (hh0 : HE.holds w g (.fn u (u + 0) (strs S u))) :
    Calls Tryd.prog 111 #[.agg #[sc g u 0 cp, vi rf], vi a, vi k, v8 c] w fun e w' => ∃ (e2 : Int), e = .returned (.tuple #[.agg #[sc g u 0 cp, vi rf], vi e2]) ∧ Fr w w' no no := by
 refine enter (args := [.agg #[sc g u 0 cp, vi rf], vi a, vi k, v8 c]) (D := no) (A := []) Tryd.func111 rfl 37 rfl [(g, .fn u (u + 0) (strs S u))] (WS.startL ⟨⟨rfl, hh0⟩, trivial⟩) fun ac hS => ?_
 refine hS.regS [0, 0, 0] [1, 2, 3] fun ν1 => seg [(4, pt (ν1 0) 0), (8, pt (ν1 1) 0)] [(0, none), (1, some ((ν1 0), .cells [sc g u 0 cp, vi rf] 56)), (2, some ((ν1 1), .cells [vnil, vi 0] 56))] [] trivial fun ac wd hS => ?_
 refine wp_seq ?_
 refine wp_region_seq ?_
 refine hS.opsC 3 [100, 0, 0] [1, 2, 3, 4, 8] fun _ => seg [(12, .agg #[sc g u 0 cp, vi rf]), (13, vi a), (14, vi k)] [(0, none), (1, none), (2, none)] [.e (ν1 0), .e (ν1 0)] trivial fun ac wd hS => ?_
 refine hS.call0 61 #[.agg #[sc g u 0 cp, vi rf], vi a, vi k] 15 (ref03_There g u 0 cp rf a k S _ (hS.mem.get 0 g (.fn u (u + 0) (strs S u))) (by omega)) fun ac wd hS => ?_
 refine hS.opsC 1 [0] [1, 2, 3, 4, 8] fun _ => seg [(16, vb (!(thr (amS S 0) a k)))] [(0, none), (1, none), (2, none)] [] trivial fun ac wd hS => ?_
 refine list_nil_seq ?_
 refine hS.condC (!(thr (amS S 0) a k)) (fun hb1o hb1 => ?_) (fun hb1o hb1 => ?_)
 ·
  refine hS.regS [100, 200, 0] [8] fun _ => seg [(9, vi 3)] [(0, none), (2, some ((ν1 1), .cells [sc g u 0 cp, vi rf] 56))] [.e (ν1 1), .e (ν1 1), .e (ν1 0), .e (ν1 0)] trivial fun ac wd hS => ?_
  refine wp_ret ?_
  refine pop_then_ret ?_
  refine St.retC 1 hS (.tuple #[.agg #[sc g u 0 cp, vi rf], vi 3]) [.e (ν1 1), .e (ν1 1)] trivial fun hw => ?_
  refine ⟨3, retd rfl, hw.fr0⟩
 ·
  have hthr := thr_n0 (by simpa using hb1)
  refine wp_skip ?_
  refine pop_then ?_
  refine hS.regS [0, 90, 0] [1, 3, 4, 8] fun ν5 => seg [(10, sc (ν5 0) 0 (Int.toNat k) (Int.toNat k))] [(0, none), (1, none), (2, none), (3, some ((ν5 0), .row 5 (Int.toNat k) (Int.toNat k) (bytes (fun _ => 0) 0)))] [.p ((k : Int) = k), .p ((0 : Int) ≤ k ∧ (k : Int) ≤ 2 ^ 32 ∧ 1 ≤ 64)] ⟨rfl, (by omega), trivial⟩ fun ac wd hS => ?_
  refine wp_seq ?_
  refine hS.regS [0, 0, 0] [1, 3, 4, 8, 10] fun _ => seg [(21, vi (((Int.toNat k) : Nat) : Int)), (22, vi 0)] [(0, none), (1, none), (2, none), (3, none)] [] trivial fun ac wd hS => ?_
  refine wp_block ?_
  refine St.loopC (σ := Int) (fun (x22 : Int) => ⟨[(1, [], vi a), (3, [], v8 c), (4, [], pt (ν1 0) 0), (8, [], pt (ν1 1) 0), (10, [], sc (ν5 0) 0 (Int.toNat k) (Int.toNat k)), (21, [], vi (((Int.toNat k) : Nat) : Int)), (22, [], vi x22)], [(g, .fn u (u + 0) (strs S u)), ((ν1 0), .cells [sc g u 0 cp, vi rf] 56), ((ν1 1), .cells [vnil, vi 0] 56), ((ν5 0), .row 5 (Int.toNat k) (Int.toNat k) (bytes (fun _ => 0) 0))], [], (0 ≤ x22) ∧ True, 0⟩) 0 ⟨(by omega), trivial⟩ hS ?_
  clear hS
  rintro x22 ⟨i0, -⟩ ac wd hS
  replace i0 : 0 ≤ x22 := i0
  refine hS.regS [0] [1, 3, 4, 8, 10, 21, 22] fun _ => seg [(23, vb (decide ((x22 : Int) < (((Int.toNat k) : Nat) : Int))))] [(0, none), (1, none), (2, none), (3, none)] [] trivial fun ac wd hS => ?_
  refine wp_seq ?_
  refine hS.condK (decide ((x22 : Int) < (((Int.toNat k) : Nat) : Int))) false (by exact decide_eq_false (by omega)) ?_
  show Code.wp _ _ _ _ _
  refine wp_exit ?_
  refine pop_then_exit ?_
  refine pop_then_exit ?_
  refine pop_block_hit ?_
  refine pop_then ?_
  refine wp_region_seq ?_
  refine hS.opsC 3 [100, 0, 0] [8] fun _ => seg [(30, .agg #[sc g u 0 cp, vi rf]), (31, vi a), (32, sc (ν5 0) 0 (Int.toNat k) (Int.toNat k))] [(0, none), (2, none), (3, none)] [.e (ν1 0), .e (ν1 0)] trivial fun ac wd hS => ?_
  refine Runs1.list ?_
  refine St.toStr hS (.tmp 32) 212 9 rfl rfl (by decide) Tryd.underlying212 Tryd.underlying5 Tryd.underlying9 (b := (ν5 0)) (off := 0) (k := (Int.toNat k)) (cp := (Int.toNat k)) (fun j => (fun _ => 0) (0 + j)) (Cells8.row (hS.mem.get 2 (ν5 0) (.row 5 (Int.toNat k) (Int.toNat k) (bytes (fun _ => 0) 0))) (by omega)) fun ac hS => ?_
  refine hS.callC 109 #[.agg #[sc g u 0 cp, vi rf], vi a, .string (bs (fun j => (fun _ => 0) (0 + j)) (Int.toNat k))] (ref03_Put0 g u cp rf a (bs (fun j => (fun _ => 0) (0 + j)) (Int.toNat k)) S _ (hS.mem.get 0 g (.fn u (u + 0) (strs S u))) ) ?_
  rintro _ wd ⟨e22, rfl, hF⟩
  refine ⟨.tuple #[.agg #[sc g u 0 cp, vi rf], vi e22], rfl, ?_⟩
  replace hS := (hS.to (hS.mem.keep0 hF)).put (d := 34) (v := .tuple #[.agg #[sc g u 0 cp, vi rf], vi e22]) (by decide)
  clear hF
  refine hS.opsC 4 [0, 0, 100, 0] [8] fun _ => seg [(9, vi e22)] [(0, none), (1, some ((ν1 1), .cells [sc g u 0 cp, vi rf] 56))] [.e (ν1 1), .e (ν1 1)] trivial fun ac wd hS => ?_
  refine list_nil_seq ?_
  refine wp_ret ?_
  refine St.retC 1 hS (.tuple #[.agg #[sc g u 0 cp, vi rf], vi e22]) [.e (ν1 1), .e (ν1 1)] trivial fun hw => ?_
  refine ⟨e22, retd rfl, hw.fr0⟩

set_option maxRecDepth 100000 in
set_option maxHeartbeats 1000000 in
theorem ref03_Copy0 (g : Nat) (u : Nat) (cp : Nat) (rf : Int) (t : Int) (f : Int) (k : Int) (S : Nat → ByteArray) (w : World) (hh0 : HE.holds w g (.fn u (u + 0) (strs S u))) :
    Calls Tryd.prog 113 #[.agg #[sc g u 0 cp, vi rf], vi t, vi f, vi k] w fun e w' => ∃ (e2 : Int), e = .returned (.tuple #[.agg #[sc g u 0 cp, vi rf], vi e2]) ∧ Fr w w' no no := by
 refine enter (args := [.agg #[sc g u 0 cp, vi rf], vi t, vi f, vi k]) (D := no) (A := []) Tryd.func113 rfl 29 rfl [(g, .fn u (u + 0) (strs S u))] (WS.startL ⟨⟨rfl, hh0⟩, trivial⟩) fun ac hS => ?_
 refine hS.regS [0, 0, 0] [1, 2, 3] fun ν1 => seg [(4, pt (ν1 0) 0), (8, pt (ν1 1) 0)] [(0, none), (1, some ((ν1 0), .cells [sc g u 0 cp, vi rf] 56)), (2, some ((ν1 1), .cells [vnil, vi 0] 56))] [] trivial fun ac wd hS => ?_
 refine wp_region_seq ?_
 refine hS.opsC 3 [100, 0, 0] [1, 4, 8] fun _ => seg [(13, .agg #[sc g u 0 cp, vi rf]), (14, vi f), (15, vi k)] [(0, none), (1, none), (2, none)] [.e (ν1 0), .e (ν1 0)] trivial fun ac wd hS => ?_
 refine hS.call0 108 #[.agg #[sc g u 0 cp, vi rf], vi f, vi k] 16 (ref03_Bytes g u 0 cp rf f k S _ (hS.mem.get 0 g (.fn u (u + 0) (strs S u))) (by omega) (by intro i_ hi_; omega)) fun ac wd hS => ?_
 refine hS.opsC 5 [0, 0, 0, 0, 0] [1, 4, 8] fun _ => seg [(10, .string (rBy S 0 f k)), (11, vi (chkE (amS S 0) f k))] [(0, none), (1, none), (2, none)] [] trivial fun ac wd hS => ?_
 refine list_nil_seq ?_
 refine wp_seq ?_
 refine hS.regS [0, 0] [1, 4, 8, 10, 11] fun _ => seg [(20, vb (((chkE (amS S 0) f k) : Int) != 0))] [(0, none), (1, none), (2, none)] [] trivial fun ac wd hS => ?_
 refine hS.condC (((chkE (amS S 0) f k) : Int) != 0) (fun hb1o hb1 => ?_) (fun hb1o hb1 => ?_)
 ·
  refine hS.regS [100, 0, 200, 0] [8] fun _ => seg [(9, vi (chkE (amS S 0) f k))] [(0, none), (2, some ((ν1 1), .cells [sc g u 0 cp, vi rf] 56))] [.e (ν1 1), .e (ν1 1), .e (ν1 0), .e (ν1 0)] trivial fun ac wd hS => ?_
  refine wp_ret ?_
  refine pop_then_ret ?_
  refine St.retC 1 hS (.tuple #[.agg #[sc g u 0 cp, vi rf], vi (chkE (amS S 0) f k)]) [.e (ν1 1), .e (ν1 1)] trivial fun hw => ?_
  refine ⟨(chkE (amS S 0) f k), retd rfl, hw.fr0⟩
 ·
  refine wp_skip ?_
  refine pop_then ?_
  refine wp_region_seq ?_
  refine hS.opsC 3 [100, 0, 0] [8] fun _ => seg [(23, .agg #[sc g u 0 cp, vi rf]), (24, vi t), (25, .string (rBy S 0 f k))] [(0, none), (2, none)] [.e (ν1 0), .e (ν1 0)] trivial fun ac wd hS => ?_
  refine hS.callC 109 #[.agg #[sc g u 0 cp, vi rf], vi t, .string (rBy S 0 f k)] (ref03_Put0 g u cp rf t (rBy S 0 f k) S _ (hS.mem.get 0 g (.fn u (u + 0) (strs S u))) ) ?_
  rintro _ wd ⟨e22, rfl, hF⟩
  refine ⟨.tuple #[.agg #[sc g u 0 cp, vi rf], vi e22], rfl, ?_⟩
  replace hS := (hS.to (hS.mem.keep0 hF)).put (d := 26) (v := .tuple #[.agg #[sc g u 0 cp, vi rf], vi e22]) (by decide)
  clear hF
  refine hS.opsC 4 [0, 0, 100, 0] [8] fun _ => seg [(9, vi e22)] [(0, none), (1, some ((ν1 1), .cells [sc g u 0 cp, vi rf] 56))] [.e (ν1 1), .e (ν1 1)] trivial fun ac wd hS => ?_
  refine list_nil_seq ?_
  refine wp_ret ?_
  refine St.retC 1 hS (.tuple #[.agg #[sc g u 0 cp, vi rf], vi e22]) [.e (ν1 1), .e (ν1 1)] trivial fun hw => ?_
  refine ⟨e22, retd rfl, hw.fr0⟩

set_option maxRecDepth 100000 in
set_option maxHeartbeats 1000000 in
theorem ref03_Store0 (g : Nat) (u : Nat) (cp : Nat) (rf : Int) (a : Int) (k : Int) (v : Int) (S : Nat → ByteArray) (w : World) (hh0 : HE.holds w g (.fn u (u + 0) (strs S u))) (hv : 0 ≤ v ∧ v ≤ 18446744073709551615) :
    Calls Tryd.prog 107 #[.agg #[sc g u 0 cp, vi rf], vi a, vi k, vu v] w fun e w' => ∃ (e2 : Int), e = .returned (.tuple #[.agg #[sc g u 0 cp, vi rf], vi e2]) ∧ Fr w w' no no := by
 refine enter (args := [.agg #[sc g u 0 cp, vi rf], vi a, vi k, vu v]) (D := no) (A := []) Tryd.func107 rfl 22 rfl [(g, .fn u (u + 0) (strs S u))] (WS.startL ⟨⟨rfl, hh0⟩, trivial⟩) fun ac hS => ?_
 refine hS.regS [0, 0, 0] [1, 2, 3] fun ν1 => seg [(4, pt (ν1 0) 0), (8, pt (ν1 1) 0)] [(0, none), (1, some ((ν1 0), .cells [sc g u 0 cp, vi rf] 56)), (2, some ((ν1 1), .cells [vnil, vi 0] 56))] [] trivial fun ac wd hS => ?_
 refine wp_seq ?_
 refine wp_region_seq ?_
 refine hS.opsC 1 [0] [1, 2, 3, 4, 8] fun _ => seg [(10, vi k)] [(0, none), (1, none), (2, none)] [] trivial fun ac wd hS => ?_
 refine hS.call0 184 #[vi k] 11 (ref03_whole k _  ) fun ac wd hS => ?_
 refine hS.opsC 1 [0] [1, 2, 3, 4, 8] fun _ => seg [(12, vb (!(wholeB k)))] [(0, none), (1, none), (2, none)] [] trivial fun ac wd hS => ?_
 refine list_nil_seq ?_
 refine hS.condC (!(wholeB k)) (fun hb1o hb1 => ?_) (fun hb1o hb1 => ?_)
 ·
  refine hS.regS [100, 200, 0] [8] fun _ => seg [(9, vi 2)] [(0, none), (2, some ((ν1 1), .cells [sc g u 0 cp, vi rf] 56))] [.e (ν1 1), .e (ν1 1), .e (ν1 0), .e (ν1 0)] trivial fun ac wd hS => ?_
  refine wp_ret ?_
  refine pop_then_ret ?_
  refine St.retC 1 hS (.tuple #[.agg #[sc g u 0 cp, vi rf], vi 2]) [.e (ν1 1), .e (ν1 1)] trivial fun hw => ?_
  refine ⟨2, retd rfl, hw.fr0⟩
 ·
  have hwh : wholeB k = true := by simpa using hb1
  refine wp_skip ?_
  refine pop_then ?_
  refine St.ordBeginS [(0, 1), (1, 1), (2, 1), (3, 1), (4, 0), (5, 0), (6, 1), (7, 1), (8, 0), (9, 1)] [(g, .fn u (u + 0) (strs S u)), ((ν1 0), .cells [sc g u 0 cp, vi rf] 56)] [0, 1] hS fun wd hS => ?_
  have hap := hS.mem.pairs (Hf := [(g, .fn u (u + 0) (strs S u)), ((ν1 0), .cells [sc g u 0 cp, vi rf] 56)]) (l := [0, 1])
  refine St.ordF [100, 0, 0, 0] [0, 1, 2, 3] [8] (rest := [(4, 0), (5, 0), (6, 1), (7, 1), (8, 0), (9, 1)]) hS hap <| segF [(14, .agg #[sc g u 0 cp, vi rf]), (15, vi a), (16, vu v), (17, vi k)] [.e (ν1 0), .e (ν1 0)] trivial fun ac hS => ?_
  refine hS.ordC 4 185 #[vu v, vi k] (ref03_Num v k _  (by first | assumption | omega | (simp_all; done) | (simp_all; omega)) (by have := wholeB_le hwh; omega)) ?_
  rintro _ wd ⟨rfl, hF⟩
  refine ⟨.string (numB v (Int.toNat k)), rfl, ?_⟩
  replace hS := (hS.to (hS.mem.keep0 hF)).put (d := 18) (v := .string (numB v (Int.toNat k))) (by decide)
  clear hF
  refine hS.ordV (l := [0, 1]) ?_
  refine hS.ordC 5 109 #[.agg #[sc g u 0 cp, vi rf], vi a, .string (numB v (Int.toNat k))] (ref03_Put0 g u cp rf a (numB v (Int.toNat k)) S _ (hS.mem.get 0 g (.fn u (u + 0) (strs S u))) ) ?_
  rintro _ wd ⟨e22, rfl, hF⟩
  refine ⟨.tuple #[.agg #[sc g u 0 cp, vi rf], vi e22], rfl, ?_⟩
  replace hS := (hS.to (hS.mem.keep0 hF)).put (d := 19) (v := .tuple #[.agg #[sc g u 0 cp, vi rf], vi e22]) (by decide)
  clear hF
  refine hS.ordV (l := [0, 1]) ?_
  refine St.ordF [0, 0] [6, 7] [8] (rest := [(8, 0), (9, 1)]) hS hap <| segF [(20, .agg #[sc g u 0 cp, vi rf]), (21, vi e22)] [] trivial fun ac hS => ?_
  refine St.ord1 8 [200] [8, 21] [0, 1] hS rfl fun _ => seg [] [(0, none), (1, none), (2, some ((ν1 1), .cells [sc g u 0 cp, vi rf] 56))] [.e (ν1 1), .e (ν1 1)] trivial ⟨by as_aux_lemma => kernel_rfl, fun ac wd hS => ?_⟩
  refine St.ordF [0] [9] [8] (rest := []) hS hap <| segF [(9, vi e22)] [] trivial fun ac hS => ?_
  refine ord_nil ?_
  refine wp_ret ?_
  refine St.retC 2 hS (.tuple #[.agg #[sc g u 0 cp, vi rf], vi e22]) [.e (ν1 1), .e (ν1 1)] trivial fun hw => ?_
  refine ⟨e22, retd rfl, hw.fr0⟩

set_option maxRecDepth 100000 in
set_option maxHeartbeats 1000000 in
theorem ref04_Within0 (g : Nat) (u : Nat) (cp : Nat) (rf : Int) (a : Int) (k : Int) (S : Nat → ByteArray) (w : World) (hh0 : HE.holds w g (.fn u (u + 0) (strs S u))) :
    Calls Tryd.prog 190 #[.agg #[sc g u 0 cp, vi rf], .agg #[vi 0, vi 0], vi a, vi k] w fun e w' => e = .returned (vb (wi0 a k)) ∧ Fr w w' no no := by
 refine enter (args := [.agg #[sc g u 0 cp, vi rf], .agg #[vi 0, vi 0], vi a, vi k]) (D := no) (A := []) Tryd.func190 rfl 38 rfl [(g, .fn u (u + 0) (strs S u))] (WS.startL ⟨⟨rfl, hh0⟩, trivial⟩) fun ac hS => ?_
 refine hS.regS [0, 0, 0] [2, 3] fun ν1 => seg [(4, pt (ν1 0) 0), (5, pt (ν1 1) 0)] [(0, none), (1, some ((ν1 0), .cells [sc g u 0 cp, vi rf] 56)), (2, some ((ν1 1), .cells [vi 0, vi 0] 115))] [] trivial fun ac wd hS => ?_
 refine wp_region_seq ?_
 refine hS.opsC 21 [0, 0, 0, 3, 3, 80, 0, 3, 3, 203, 3, 80, 0, 3, 3, 203, 3, 23, 3, 80, 0] [2, 3, 4, 5] fun _ => seg [(29, vb ((((decide ((0 : Int) ≤ a)) && (decide ((0 : Int) ≤ k))) && (decide ((k : Int) ≤ 0))) && (decide ((a : Int) ≤ (0 - k)))))] [(0, none), (1, none), (2, none)] [.p ((((((decide ((0 : Int) ≤ a)) && (decide ((0 : Int) ≤ k))) && (decide ((k : Int) ≤ 0))) = true) ∧ True) → AllP [fit .i64 (0 - k)]), .p ((((((decide ((0 : Int) ≤ a)) && (decide ((0 : Int) ≤ k))) && (decide ((k : Int) ≤ 0))) = true) ∧ True) → AllP [((ν1 1) : Nat) = (ν1 1)]), .p (((((decide ((0 : Int) ≤ a)) && (decide ((0 : Int) ≤ k))) = true) ∧ True) → AllP [((ν1 1) : Nat) = (ν1 1)])] ⟨(fun ⟨hc0, _⟩ => by replace hc0 := nrm hc0; exact ⟨fit_i64 (by omega), trivial⟩), (fun ⟨hc0, _⟩ => by replace hc0 := nrm hc0; exact ⟨rfl, trivial⟩), (fun ⟨hc0, _⟩ => by replace hc0 := nrm hc0; exact ⟨rfl, trivial⟩), trivial⟩ fun ac wd hS => ?_
 rcases Bool.eq_false_or_eq_true ((((decide ((0 : Int) ≤ a)) && (decide ((0 : Int) ≤ k))) && (decide ((k : Int) ≤ 0))) && (decide ((a : Int) ≤ (0 - k)))) with hg1o | hg1o
 ·
  have hg1 := nrm hg1o
  replace hS := hS.fix 29 (vb true) (congrArg Value.bool hg1o)
  refine hS.opsC 6 [101, 1, 201, 1, 21, 1] [29] fun _ => seg [(30, .agg #[sc g u 0 cp, vi rf]), (34, vi (0 + a)), (35, vi k)] [(0, none)] [.t true, .t true, .p (fit .i64 (0 + a)), .t true, .t true, .e (ν1 1), .t true, .t true, .e (ν1 0), .e (ν1 0)] ⟨fit_i64 (by omega), trivial⟩ fun ac wd hS => ?_
  refine hS.callG true 61 #[.agg #[sc g u 0 cp, vi rf], vi (0 + a), vi k] (ref03_There g u 0 cp rf (0 + a) k S _ (hS.mem.get 0 g (.fn u (u + 0) (strs S u))) (by omega)) ?_
  rintro _ wd ⟨rfl, hF⟩
  refine ⟨vb (thr (amS S 0) (0 + a) k), rfl, ?_⟩
  replace hS := (hS.to (hS.mem.keep0 hF)).put (d := 36) (v := vb (thr (amS S 0) (0 + a) k)) (by decide)
  clear hF
  refine hS.opsC 2 [70, 0] [] fun _ => seg [(8, vb (thr (amS S 0) (0 + a) k))] [] [.t true] trivial fun ac wd hS => ?_
  refine list_nil_seq ?_
  refine wp_ret ?_
  refine St.retC 0 hS (vb (thr (amS S 0) (0 + a) k)) [] trivial fun hw => ?_
  refine ⟨retd (vbool ?_), hw.fr0⟩
  all_goals (first | (refine wi0_no fun q_ => ?_; obtain ⟨rfl, rfl⟩ := q_; first | (simp at *; done) | (simp_all; done)) | (obtain ⟨rfl, rfl⟩ : a = 0 ∧ k = 0 := (by simp at *; omega); rw [thr_a0]; rfl) | (obtain ⟨rfl, rfl⟩ : a = 0 ∧ k = 0 := (by simp at *; omega); simp [thr_a0, wi0]; done))
 ·
  have hg1 := nrm hg1o
  replace hS := hS.fix 29 (vb false) (congrArg Value.bool hg1o)
  refine hS.opsC 9 [2, 2, 2, 2, 2, 2, 2, 60, 0] [] fun _ => seg [(8, vb false)] [] [.t false, .t false, .t false, .t false, .t false, .t false, .t false, .t false] trivial fun ac wd hS => ?_
  refine list_nil_seq ?_
  refine wp_ret ?_
  refine St.retC 0 hS (vb false) [] trivial fun hw => ?_
  refine ⟨retd (vbool ?_), hw.fr0⟩
  all_goals (first | (refine wi0_no fun q_ => ?_; obtain ⟨rfl, rfl⟩ := q_; first | (simp at *; done) | (simp_all; done)) | (obtain ⟨rfl, rfl⟩ : a = 0 ∧ k = 0 := (by simp at *; omega); rw [thr_a0]; rfl) | (obtain ⟨rfl, rfl⟩ : a = 0 ∧ k = 0 := (by simp at *; omega); simp [thr_a0, wi0]; done))

set_option maxRecDepth 100000 in
set_option maxHeartbeats 1000000 in
theorem ref04_Load0 (g : Nat) (u : Nat) (cp : Nat) (rf : Int) (a : Int) (k : Int) (S : Nat → ByteArray) (w : World) (hh0 : HE.holds w g (.fn u (u + 0) (strs S u))) :
    Calls Tryd.prog 143 #[.agg #[sc g u 0 cp, vi rf], .agg #[vi 0, vi 0], vi a, vi k] w fun e w' => ∃ (x2 : Int) (e2 : Int), e = .returned (.tuple #[vu x2, vi e2]) ∧ Fr w w' no no := by
 refine enter (args := [.agg #[sc g u 0 cp, vi rf], .agg #[vi 0, vi 0], vi a, vi k]) (D := no) (A := []) Tryd.func143 rfl 38 rfl [(g, .fn u (u + 0) (strs S u))] (WS.startL ⟨⟨rfl, hh0⟩, trivial⟩) fun ac hS => ?_
 refine hS.regS [0, 0, 0, 0] [2, 3] fun ν1 => seg [(4, pt (ν1 0) 0), (5, pt (ν1 1) 0)] [(0, none), (1, some ((ν1 0), .cells [sc g u 0 cp, vi rf] 56)), (2, some ((ν1 1), .cells [vi 0, vi 0] 115))] [] trivial fun ac wd hS => ?_
 refine wp_region_seq ?_
 refine hS.opsC 2 [100, 0] [2, 3, 4, 5] fun _ => seg [(13, .agg #[sc g u 0 cp, vi rf]), (14, vi k)] [(0, none), (1, none), (2, none)] [.e (ν1 0), .e (ν1 0)] trivial fun ac wd hS => ?_
 refine hS.call0 106 #[.agg #[sc g u 0 cp, vi rf], vi 0, vi k] 15 (ref03_Load g u 0 cp rf 0 k S _ (hS.mem.get 0 g (.fn u (u + 0) (strs S u))) (by omega) (by intro i_ hi_; omega)) fun ac wd hS => ?_
 refine hS.opsC 5 [0, 0, 0, 0, 0] [2, 3, 4, 5] fun _ => seg [(11, vi (ldE (amS S 0) 0 k))] [(0, none), (1, none), (2, none)] [] trivial fun ac wd hS => ?_
 refine list_nil_seq ?_
 refine wp_seq ?_
 refine hS.regS [0, 0] [2, 3, 4, 5] fun _ => seg [(19, vb (((ldE (amS S 0) 0 k) : Int) == 2))] [(0, none), (1, none), (2, none)] [] trivial fun ac wd hS => ?_
 refine hS.condC (((ldE (amS S 0) 0 k) : Int) == 2) (fun hb1o hb1 => ?_) (fun hb1o hb1 => ?_)
 ·
  refine hS.regS [0, 0] [] fun _ => seg [(8, vu 0), (9, vi 2)] [] [] trivial fun ac wd hS => ?_
  refine wp_ret ?_
  refine pop_then_ret ?_
  refine St.retC 0 hS (.tuple #[vu 0, vi 2]) [] trivial fun hw => ?_
  refine ⟨0, 2, retd rfl, hw.fr0⟩
 ·
  refine wp_skip ?_
  refine pop_then ?_
  refine wp_seq ?_
  refine wp_region_seq ?_
  refine hS.opsC 4 [100, 200, 0, 0] [2, 3, 4, 5] fun _ => seg [(20, .agg #[sc g u 0 cp, vi rf]), (21, .agg #[vi 0, vi 0]), (22, vi a), (23, vi k)] [(0, none), (1, none), (2, none)] [.e (ν1 1), .e (ν1 1), .e (ν1 0), .e (ν1 0)] trivial fun ac wd hS => ?_
  refine hS.call0 190 #[.agg #[sc g u 0 cp, vi rf], .agg #[vi 0, vi 0], vi a, vi k] 24 (ref04_Within0 g u cp rf a k S _ (hS.mem.get 0 g (.fn u (u + 0) (strs S u))) ) fun ac wd hS => ?_
  refine hS.opsC 1 [0] [2, 3, 4, 5] fun _ => seg [(25, vb (!(wi0 a k)))] [(0, none), (1, none), (2, none)] [] trivial fun ac wd hS => ?_
  refine list_nil_seq ?_
  refine hS.condC (!(wi0 a k)) (fun hb2o hb2 => ?_) (fun hb2o hb2 => ?_)
  ·
   refine hS.regS [0, 0] [] fun _ => seg [(8, vu 0), (9, vi 3)] [] [] trivial fun ac wd hS => ?_
   refine wp_ret ?_
   refine pop_then_ret ?_
   refine St.retC 0 hS (.tuple #[vu 0, vi 3]) [] trivial fun hw => ?_
   refine ⟨0, 3, retd rfl, hw.fr0⟩
  ·
   have hwi := wi0_yes (by simpa using hb2)
   refine wp_skip ?_
   refine pop_then ?_
   refine wp_region_seq ?_
   refine hS.opsC 6 [100, 0, 200, 0, 20, 0] [] fun _ => seg [(27, .agg #[sc g u 0 cp, vi rf]), (31, vi (0 + a)), (32, vi k)] [(0, none)] [.p (fit .i64 (0 + a)), .e (ν1 1), .e (ν1 0), .e (ν1 0)] ⟨fit_i64 (by omega), trivial⟩ fun ac wd hS => ?_
   refine hS.call0 106 #[.agg #[sc g u 0 cp, vi rf], vi (0 + a), vi k] 33 (ref03_Load g u 0 cp rf (0 + a) k S _ (hS.mem.get 0 g (.fn u (u + 0) (strs S u))) (by omega) (by intro i_ hi_; omega)) fun ac wd hS => ?_
   refine hS.opsC 5 [0, 0, 0, 0, 0] [] fun _ => seg [(10, vu (rLd S 0 (0 + a) k)), (11, vi (ldE (amS S 0) (0 + a) k))] [] [] trivial fun ac wd hS => ?_
   refine list_nil_seq ?_
   refine hS.regS [0, 0, 0, 0] [] fun _ => seg [(8, vu (rLd S 0 (0 + a) k)), (9, vi (ldE (amS S 0) (0 + a) k))] [] [] trivial fun ac wd hS => ?_
   refine wp_ret ?_
   refine St.retC 0 hS (.tuple #[vu (rLd S 0 (0 + a) k), vi (ldE (amS S 0) (0 + a) k)]) [] trivial fun hw => ?_
   refine ⟨(rLd S 0 (0 + a) k), (ldE (amS S 0) (0 + a) k), retd rfl, hw.fr0⟩

set_option maxRecDepth 100000 in
set_option maxHeartbeats 1000000 in
theorem ref04_Store0 (g : Nat) (u : Nat) (cp : Nat) (rf : Int) (a : Int) (k : Int) (v : Int) (S : Nat → ByteArray) (w : World) (hh0 : HE.holds w g (.fn u (u + 0) (strs S u))) (hv : 0 ≤ v ∧ v ≤ 18446744073709551615) (ha : -9223372036854775808 ≤ a ∧ a ≤ 9223372036854775807) :
    Calls Tryd.prog 144 #[.agg #[sc g u 0 cp, vi rf], .agg #[vi 0, vi 0], vi a, vi k, vu v] w fun e w' => ∃ (e2 : Int), e = .returned (.tuple #[.agg #[sc g u 0 cp, vi rf], vi e2]) ∧ Fr w w' no no := by
 refine enter (args := [.agg #[sc g u 0 cp, vi rf], .agg #[vi 0, vi 0], vi a, vi k, vu v]) (D := no) (A := []) Tryd.func144 rfl 36 rfl [(g, .fn u (u + 0) (strs S u))] (WS.startL ⟨⟨rfl, hh0⟩, trivial⟩) fun ac hS => ?_
 refine hS.regS [0, 0, 0, 0] [2, 3, 4] fun ν1 => seg [(5, pt (ν1 0) 0), (6, pt (ν1 1) 0), (10, pt (ν1 2) 0)] [(0, none), (1, some ((ν1 0), .cells [sc g u 0 cp, vi rf] 56)), (2, some ((ν1 1), .cells [vi 0, vi 0] 115)), (3, some ((ν1 2), .cells [vnil, vi 0] 56))] [] trivial fun ac wd hS => ?_
 refine wp_region_seq ?_
 refine hS.opsC 4 [100, 200, 0, 0] [2, 3, 4, 5, 6, 10] fun _ => seg [(15, .agg #[sc g u 0 cp, vi rf]), (16, .agg #[vi 0, vi 0]), (17, vi a), (18, vi k)] [(0, none), (1, none), (2, none), (3, none)] [.e (ν1 1), .e (ν1 1), .e (ν1 0), .e (ν1 0)] trivial fun ac wd hS => ?_
 refine hS.callC 143 #[.agg #[sc g u 0 cp, vi rf], .agg #[vi 0, vi 0], vi a, vi k] (ref04_Load0 g u cp rf a k S _ (hS.mem.get 0 g (.fn u (u + 0) (strs S u))) ) ?_
 rintro _ wd ⟨x21, e22, rfl, hF⟩
 refine ⟨.tuple #[vu x21, vi e22], rfl, ?_⟩
 replace hS := (hS.to (hS.mem.keep0 hF)).put (d := 19) (v := .tuple #[vu x21, vi e22]) (by decide)
 clear hF
 refine hS.opsC 5 [0, 0, 0, 0, 0] [2, 3, 4, 5, 6, 10] fun _ => seg [(13, vi e22)] [(0, none), (1, none), (2, none), (3, none)] [] trivial fun ac wd hS => ?_
 refine list_nil_seq ?_
 refine wp_seq ?_
 refine hS.regS [0, 0] [2, 3, 4, 5, 6, 10, 13] fun _ => seg [(23, vb ((e22 : Int) != 0))] [(0, none), (1, none), (2, none), (3, none)] [] trivial fun ac wd hS => ?_
 refine hS.condC ((e22 : Int) != 0) (fun hb3o hb3 => ?_) (fun hb3o hb3 => ?_)
 ·
  refine hS.regS [100, 0, 300, 0] [10] fun _ => seg [(11, vi e22)] [(0, none), (3, some ((ν1 2), .cells [sc g u 0 cp, vi rf] 56))] [.e (ν1 2), .e (ν1 2), .e (ν1 0), .e (ν1 0)] trivial fun ac wd hS => ?_
  refine wp_ret ?_
  refine pop_then_ret ?_
  refine St.retC 1 hS (.tuple #[.agg #[sc g u 0 cp, vi rf], vi e22]) [.e (ν1 2), .e (ν1 2)] trivial fun hw => ?_
  refine ⟨e22, retd rfl, hw.fr0⟩
 ·
  refine wp_skip ?_
  refine pop_then ?_
  refine wp_region_seq ?_
  refine hS.opsC 7 [100, 0, 200, 0, 20, 0, 0] [10] fun _ => seg [(26, .agg #[sc g u 0 cp, vi rf]), (30, vi (0 + a)), (31, vi k), (32, vu v)] [(0, none), (3, none)] [.p (fit .i64 (0 + a)), .e (ν1 1), .e (ν1 0), .e (ν1 0)] ⟨fit_i64 (by omega), trivial⟩ fun ac wd hS => ?_
  refine hS.callC 107 #[.agg #[sc g u 0 cp, vi rf], vi (0 + a), vi k, vu v] (ref03_Store0 g u cp rf (0 + a) k v S _ (hS.mem.get 0 g (.fn u (u + 0) (strs S u))) (by first | assumption | omega | (simp_all; done) | (simp_all; omega))) ?_
  rintro _ wd ⟨e24, rfl, hF⟩
  refine ⟨.tuple #[.agg #[sc g u 0 cp, vi rf], vi e24], rfl, ?_⟩
  replace hS := (hS.to (hS.mem.keep0 hF)).put (d := 33) (v := .tuple #[.agg #[sc g u 0 cp, vi rf], vi e24]) (by decide)
  clear hF
  refine hS.opsC 4 [0, 0, 100, 0] [10] fun _ => seg [(11, vi e24)] [(0, none), (1, some ((ν1 2), .cells [sc g u 0 cp, vi rf] 56))] [.e (ν1 2), .e (ν1 2)] trivial fun ac wd hS => ?_
  refine list_nil_seq ?_
  refine wp_ret ?_
  refine St.retC 1 hS (.tuple #[.agg #[sc g u 0 cp, vi rf], vi e24]) [.e (ν1 2), .e (ν1 2)] trivial fun hw => ?_
  refine ⟨e24, retd rfl, hw.fr0⟩

set_option maxRecDepth 100000 in
set_option maxHeartbeats 1000000 in
theorem ref04_Bytes0 (g : Nat) (u : Nat) (cp : Nat) (rf : Int) (a : Int) (k : Int) (S : Nat → ByteArray) (w : World) (hh0 : HE.holds w g (.fn u (u + 0) (strs S u))) :
    Calls Tryd.prog 146 #[.agg #[sc g u 0 cp, vi rf], .agg #[vi 0, vi 0], vi a, vi k] w fun e w' => ∃ (s2 : ByteArray) (e2 : Int), e = .returned (.tuple #[.string s2, vi e2]) ∧ Fr w w' no no := by
 refine enter (args := [.agg #[sc g u 0 cp, vi rf], .agg #[vi 0, vi 0], vi a, vi k]) (D := no) (A := []) Tryd.func146 rfl 25 rfl [(g, .fn u (u + 0) (strs S u))] (WS.startL ⟨⟨rfl, hh0⟩, trivial⟩) fun ac hS => ?_
 refine hS.regS [0, 0, 0, 0] [2, 3] fun ν1 => seg [(4, pt (ν1 0) 0), (5, pt (ν1 1) 0)] [(0, none), (1, some ((ν1 0), .cells [sc g u 0 cp, vi rf] 56)), (2, some ((ν1 1), .cells [vi 0, vi 0] 115))] [] trivial fun ac wd hS => ?_
 refine wp_seq ?_
 refine wp_region_seq ?_
 refine hS.opsC 4 [100, 200, 0, 0] [2, 3, 4, 5] fun _ => seg [(10, .agg #[sc g u 0 cp, vi rf]), (11, .agg #[vi 0, vi 0]), (12, vi a), (13, vi k)] [(0, none), (1, none), (2, none)] [.e (ν1 1), .e (ν1 1), .e (ν1 0), .e (ν1 0)] trivial fun ac wd hS => ?_
 refine hS.call0 190 #[.agg #[sc g u 0 cp, vi rf], .agg #[vi 0, vi 0], vi a, vi k] 14 (ref04_Within0 g u cp rf a k S _ (hS.mem.get 0 g (.fn u (u + 0) (strs S u))) ) fun ac wd hS => ?_
 refine hS.opsC 1 [0] [2, 3, 4, 5] fun _ => seg [(15, vb (!(wi0 a k)))] [(0, none), (1, none), (2, none)] [] trivial fun ac wd hS => ?_
 refine list_nil_seq ?_
 refine hS.condC (!(wi0 a k)) (fun hb1o hb1 => ?_) (fun hb1o hb1 => ?_)
 ·
  refine hS.regS [0, 0] [] fun _ => seg [(8, .string (⟨#[]⟩ : ByteArray)), (9, vi 3)] [] [] trivial fun ac wd hS => ?_
  refine wp_ret ?_
  refine pop_then_ret ?_
  refine St.retC 0 hS (.tuple #[.string (⟨#[]⟩ : ByteArray), vi 3]) [] trivial fun hw => ?_
  refine ⟨(⟨#[]⟩ : ByteArray), 3, retd rfl, hw.fr0⟩
 ·
  have hwi := wi0_yes (by simpa using hb1)
  refine wp_skip ?_
  refine pop_then ?_
  refine wp_region_seq ?_
  refine hS.opsC 6 [100, 0, 200, 0, 20, 0] [] fun _ => seg [(16, .agg #[sc g u 0 cp, vi rf]), (20, vi (0 + a)), (21, vi k)] [(0, none)] [.p (fit .i64 (0 + a)), .e (ν1 1), .e (ν1 0), .e (ν1 0)] ⟨fit_i64 (by omega), trivial⟩ fun ac wd hS => ?_
  refine hS.call0 108 #[.agg #[sc g u 0 cp, vi rf], vi (0 + a), vi k] 22 (ref03_Bytes g u 0 cp rf (0 + a) k S _ (hS.mem.get 0 g (.fn u (u + 0) (strs S u))) (by omega) (by intro i_ hi_; omega)) fun ac wd hS => ?_
  refine hS.opsC 4 [0, 0, 0, 0] [] fun _ => seg [(8, .string (rBy S 0 (0 + a) k)), (9, vi (chkE (amS S 0) (0 + a) k))] [] [] trivial fun ac wd hS => ?_
  refine list_nil_seq ?_
  refine wp_ret ?_
  refine St.retC 0 hS (.tuple #[.string (rBy S 0 (0 + a) k), vi (chkE (amS S 0) (0 + a) k)]) [] trivial fun hw => ?_
  refine ⟨(rBy S 0 (0 + a) k), (chkE (amS S 0) (0 + a) k), retd rfl, hw.fr0⟩

set_option maxRecDepth 100000 in
set_option maxHeartbeats 1000000 in
theorem ref04_Put0 (g : Nat) (u : Nat) (cp : Nat) (rf : Int) (a : Int) (s : ByteArray) (S : Nat → ByteArray) (w : World) (hh0 : HE.holds w g (.fn u (u + 0) (strs S u))) :
    Calls Tryd.prog 148 #[.agg #[sc g u 0 cp, vi rf], .agg #[vi 0, vi 0], vi a, .string s] w fun e w' => ∃ (e2 : Int), e = .returned (.tuple #[.agg #[sc g u 0 cp, vi rf], vi e2]) ∧ Fr w w' no no := by
 refine enter (args := [.agg #[sc g u 0 cp, vi rf], .agg #[vi 0, vi 0], vi a, .string s]) (D := no) (A := []) Tryd.func148 rfl 27 rfl [(g, .fn u (u + 0) (strs S u))] (WS.startL ⟨⟨rfl, hh0⟩, trivial⟩) fun ac hS => ?_
 refine hS.regS [0, 0, 0, 0] [2, 3] fun ν1 => seg [(4, pt (ν1 0) 0), (5, pt (ν1 1) 0), (8, pt (ν1 2) 0)] [(0, none), (1, some ((ν1 0), .cells [sc g u 0 cp, vi rf] 56)), (2, some ((ν1 1), .cells [vi 0, vi 0] 115)), (3, some ((ν1 2), .cells [vnil, vi 0] 56))] [] trivial fun ac wd hS => ?_
 refine wp_seq ?_
 refine wp_region_seq ?_
 refine hS.opsC 5 [100, 200, 0, 0, 0] [2, 3, 4, 5, 8] fun _ => seg [(10, .agg #[sc g u 0 cp, vi rf]), (11, .agg #[vi 0, vi 0]), (12, vi a), (14, vi ((ByteArray.size s : Nat) : Int))] [(0, none), (1, none), (2, none), (3, none)] [.e (ν1 1), .e (ν1 1), .e (ν1 0), .e (ν1 0)] trivial fun ac wd hS => ?_
 refine hS.call0 190 #[.agg #[sc g u 0 cp, vi rf], .agg #[vi 0, vi 0], vi a, vi ((ByteArray.size s : Nat) : Int)] 15 (ref04_Within0 g u cp rf a ((ByteArray.size s : Nat) : Int) S _ (hS.mem.get 0 g (.fn u (u + 0) (strs S u))) ) fun ac wd hS => ?_
 refine hS.opsC 1 [0] [2, 3, 4, 5, 8] fun _ => seg [(16, vb (!(wi0 a ((ByteArray.size s : Nat) : Int))))] [(0, none), (1, none), (2, none), (3, none)] [] trivial fun ac wd hS => ?_
 refine list_nil_seq ?_
 refine hS.condC (!(wi0 a ((ByteArray.size s : Nat) : Int))) (fun hb1o hb1 => ?_) (fun hb1o hb1 => ?_)
 ·
  refine hS.regS [100, 300, 0] [8] fun _ => seg [(9, vi 3)] [(0, none), (3, some ((ν1 2), .cells [sc g u 0 cp, vi rf] 56))] [.e (ν1 2), .e (ν1 2), .e (ν1 0), .e (ν1 0)] trivial fun ac wd hS => ?_
  refine wp_ret ?_
  refine pop_then_ret ?_
  refine St.retC 1 hS (.tuple #[.agg #[sc g u 0 cp, vi rf], vi 3]) [.e (ν1 2), .e (ν1 2)] trivial fun hw => ?_
  refine ⟨3, retd rfl, hw.fr0⟩
 ·
  have hwi := wi0_yes (by simpa using hb1)
  refine wp_skip ?_
  refine pop_then ?_
  refine wp_region_seq ?_
  refine hS.opsC 6 [100, 0, 200, 0, 20, 0] [8] fun _ => seg [(18, .agg #[sc g u 0 cp, vi rf]), (22, vi (0 + a)), (23, .string s)] [(0, none), (3, none)] [.p (fit .i64 (0 + a)), .e (ν1 1), .e (ν1 0), .e (ν1 0)] ⟨fit_i64 (by omega), trivial⟩ fun ac wd hS => ?_
  refine hS.callC 109 #[.agg #[sc g u 0 cp, vi rf], vi (0 + a), .string s] (ref03_Put0 g u cp rf (0 + a) s S _ (hS.mem.get 0 g (.fn u (u + 0) (strs S u))) ) ?_
  rintro _ wd ⟨e22, rfl, hF⟩
  refine ⟨.tuple #[.agg #[sc g u 0 cp, vi rf], vi e22], rfl, ?_⟩
  replace hS := (hS.to (hS.mem.keep0 hF)).put (d := 24) (v := .tuple #[.agg #[sc g u 0 cp, vi rf], vi e22]) (by decide)
  clear hF
  refine hS.opsC 4 [0, 0, 100, 0] [8] fun _ => seg [(9, vi e22)] [(0, none), (1, some ((ν1 2), .cells [sc g u 0 cp, vi rf] 56))] [.e (ν1 2), .e (ν1 2)] trivial fun ac wd hS => ?_
  refine list_nil_seq ?_
  refine wp_ret ?_
  refine St.retC 1 hS (.tuple #[.agg #[sc g u 0 cp, vi rf], vi e22]) [.e (ν1 2), .e (ν1 2)] trivial fun hw => ?_
  refine ⟨e22, retd rfl, hw.fr0⟩

set_option maxRecDepth 100000 in
set_option maxHeartbeats 1000000 in
theorem ref04_Fill0 (g : Nat) (u : Nat) (cp : Nat) (rf : Int) (a : Int) (k : Int) (c : Int) (S : Nat → ByteArray) (w : World) (hh0 : HE.holds w g (.fn u (u + 0) (strs S u))) :
    Calls Tryd.prog 150 #[.agg #[sc g u 0 cp, vi rf], .agg #[vi 0, vi 0], vi a, vi k, v8 c] w fun e w' => ∃ (e2 : Int), e = .returned (.tuple #[.agg #[sc g u 0 cp, vi rf], vi e2]) ∧ Fr w w' no no := by
 refine enter (args := [.agg #[sc g u 0 cp, vi rf], .agg #[vi 0, vi 0], vi a, vi k, v8 c]) (D := no) (A := []) Tryd.func150 rfl 29 rfl [(g, .fn u (u + 0) (strs S u))] (WS.startL ⟨⟨rfl, hh0⟩, trivial⟩) fun ac hS => ?_
 refine hS.regS [0, 0, 0, 0] [2, 3, 4] fun ν1 => seg [(5, pt (ν1 0) 0), (6, pt (ν1 1) 0), (10, pt (ν1 2) 0)] [(0, none), (1, some ((ν1 0), .cells [sc g u 0 cp, vi rf] 56)), (2, some ((ν1 1), .cells [vi 0, vi 0] 115)), (3, some ((ν1 2), .cells [vnil, vi 0] 56))] [] trivial fun ac wd hS => ?_
 refine wp_seq ?_
 refine wp_region_seq ?_
 refine hS.opsC 4 [100, 200, 0, 0] [2, 3, 4, 5, 6, 10] fun _ => seg [(12, .agg #[sc g u 0 cp, vi rf]), (13, .agg #[vi 0, vi 0]), (14, vi a), (15, vi k)] [(0, none), (1, none), (2, none), (3, none)] [.e (ν1 1), .e (ν1 1), .e (ν1 0), .e (ν1 0)] trivial fun ac wd hS => ?_
 refine hS.call0 190 #[.agg #[sc g u 0 cp, vi rf], .agg #[vi 0, vi 0], vi a, vi k] 16 (ref04_Within0 g u cp rf a k S _ (hS.mem.get 0 g (.fn u (u + 0) (strs S u))) ) fun ac wd hS => ?_
 refine hS.opsC 1 [0] [2, 3, 4, 5, 6, 10] fun _ => seg [(17, vb (!(wi0 a k)))] [(0, none), (1, none), (2, none), (3, none)] [] trivial fun ac wd hS => ?_
 refine list_nil_seq ?_
 refine hS.condC (!(wi0 a k)) (fun hb1o hb1 => ?_) (fun hb1o hb1 => ?_)
 ·
  refine hS.regS [100, 300, 0] [10] fun _ => seg [(11, vi 3)] [(0, none), (3, some ((ν1 2), .cells [sc g u 0 cp, vi rf] 56))] [.e (ν1 2), .e (ν1 2), .e (ν1 0), .e (ν1 0)] trivial fun ac wd hS => ?_
  refine wp_ret ?_
  refine pop_then_ret ?_
  refine St.retC 1 hS (.tuple #[.agg #[sc g u 0 cp, vi rf], vi 3]) [.e (ν1 2), .e (ν1 2)] trivial fun hw => ?_
  refine ⟨3, retd rfl, hw.fr0⟩
 ·
  have hwi := wi0_yes (by simpa using hb1)
  refine wp_skip ?_
  refine pop_then ?_
  refine wp_region_seq ?_
  refine hS.opsC 7 [100, 0, 200, 0, 20, 0, 0] [10] fun _ => seg [(19, .agg #[sc g u 0 cp, vi rf]), (23, vi (0 + a)), (24, vi k), (25, v8 c)] [(0, none), (3, none)] [.p (fit .i64 (0 + a)), .e (ν1 1), .e (ν1 0), .e (ν1 0)] ⟨fit_i64 (by omega), trivial⟩ fun ac wd hS => ?_
  refine hS.callC 111 #[.agg #[sc g u 0 cp, vi rf], vi (0 + a), vi k, v8 c] (ref03_Fill0 g u cp rf (0 + a) k c S _ (hS.mem.get 0 g (.fn u (u + 0) (strs S u))) ) ?_
  rintro _ wd ⟨e22, rfl, hF⟩
  refine ⟨.tuple #[.agg #[sc g u 0 cp, vi rf], vi e22], rfl, ?_⟩
  replace hS := (hS.to (hS.mem.keep0 hF)).put (d := 26) (v := .tuple #[.agg #[sc g u 0 cp, vi rf], vi e22]) (by decide)
  clear hF
  refine hS.opsC 4 [0, 0, 100, 0] [10] fun _ => seg [(11, vi e22)] [(0, none), (1, some ((ν1 2), .cells [sc g u 0 cp, vi rf] 56))] [.e (ν1 2), .e (ν1 2)] trivial fun ac wd hS => ?_
  refine list_nil_seq ?_
  refine wp_ret ?_
  refine St.retC 1 hS (.tuple #[.agg #[sc g u 0 cp, vi rf], vi e22]) [.e (ν1 2), .e (ν1 2)] trivial fun hw => ?_
  refine ⟨e22, retd rfl, hw.fr0⟩

set_option maxRecDepth 100000 in
set_option maxHeartbeats 1000000 in
theorem ref04_Copy0 (g : Nat) (u : Nat) (cp : Nat) (rf : Int) (t : Int) (f : Int) (k : Int) (S : Nat → ByteArray) (w : World) (hh0 : HE.holds w g (.fn u (u + 0) (strs S u))) :
    Calls Tryd.prog 152 #[.agg #[sc g u 0 cp, vi rf], .agg #[vi 0, vi 0], vi t, vi f, vi k] w fun e w' => ∃ (e2 : Int), e = .returned (.tuple #[.agg #[sc g u 0 cp, vi rf], vi e2]) ∧ Fr w w' no no := by
 refine enter (args := [.agg #[sc g u 0 cp, vi rf], .agg #[vi 0, vi 0], vi t, vi f, vi k]) (D := no) (A := []) Tryd.func152 rfl 40 rfl [(g, .fn u (u + 0) (strs S u))] (WS.startL ⟨⟨rfl, hh0⟩, trivial⟩) fun ac hS => ?_
 refine hS.regS [0, 0, 0, 0] [2, 3, 4] fun ν1 => seg [(5, pt (ν1 0) 0), (6, pt (ν1 1) 0), (10, pt (ν1 2) 0)] [(0, none), (1, some ((ν1 0), .cells [sc g u 0 cp, vi rf] 56)), (2, some ((ν1 1), .cells [vi 0, vi 0] 115)), (3, some ((ν1 2), .cells [vnil, vi 0] 56))] [] trivial fun ac wd hS => ?_
 refine wp_seq ?_
 refine wp_region_seq ?_
 refine hS.opsC 4 [100, 200, 0, 0] [2, 3, 4, 5, 6, 10] fun _ => seg [(12, .agg #[sc g u 0 cp, vi rf]), (13, .agg #[vi 0, vi 0]), (14, vi f), (15, vi k)] [(0, none), (1, none), (2, none), (3, none)] [.e (ν1 1), .e (ν1 1), .e (ν1 0), .e (ν1 0)] trivial fun ac wd hS => ?_
 refine hS.call0 190 #[.agg #[sc g u 0 cp, vi rf], .agg #[vi 0, vi 0], vi f, vi k] 16 (ref04_Within0 g u cp rf f k S _ (hS.mem.get 0 g (.fn u (u + 0) (strs S u))) ) fun ac wd hS => ?_
 refine hS.opsC 2 [0, 0] [2, 3, 4, 5, 6, 10] fun _ => seg [(18, vb (!(wi0 f k)))] [(0, none), (1, none), (2, none), (3, none)] [] trivial fun ac wd hS => ?_
 rcases Bool.eq_false_or_eq_true (!(wi0 f k)) with hg1o | hg1o
 ·
  have hg1 := nrm hg1o
  replace hS := hS.fix 18 (vb true) (congrArg Value.bool hg1o)
  refine hS.opsC 7 [2, 2, 2, 2, 2, 2, 70] [2, 3, 4, 5, 6, 10] fun _ => seg [(25, vb true)] [(0, none), (1, none), (2, none), (3, none)] [.t true, .t true, .t true, .t true, .t true, .t true, .t true] trivial fun ac wd hS => ?_
  refine list_nil_seq ?_
  refine hS.condT ?_
  refine hS.regS [100, 300, 0] [10] fun _ => seg [(11, vi 3)] [(0, none), (3, some ((ν1 2), .cells [sc g u 0 cp, vi rf] 56))] [.e (ν1 2), .e (ν1 2), .e (ν1 0), .e (ν1 0)] trivial fun ac wd hS => ?_
  refine wp_ret ?_
  refine pop_then_ret ?_
  refine St.retC 1 hS (.tuple #[.agg #[sc g u 0 cp, vi rf], vi 3]) [.e (ν1 2), .e (ν1 2)] trivial fun hw => ?_
  refine ⟨3, retd rfl, hw.fr0⟩
 ·
  have hg1 := nrm hg1o
  have hwf := wi0_yes (by simpa using hg1)
  replace hS := hS.fix 18 (vb false) (congrArg Value.bool hg1o)
  refine hS.opsC 4 [101, 201, 1, 1] [2, 3, 4, 5, 6, 10, 18] fun _ => seg [(19, .agg #[sc g u 0 cp, vi rf]), (20, .agg #[vi 0, vi 0]), (21, vi t), (22, vi k)] [(0, none), (1, none), (2, none), (3, none)] [.t false, .t false, .t false, .e (ν1 1), .e (ν1 1), .t false, .e (ν1 0), .e (ν1 0)] trivial fun ac wd hS => ?_
  refine hS.callG false 190 #[.agg #[sc g u 0 cp, vi rf], .agg #[vi 0, vi 0], vi t, vi k] (ref04_Within0 g u cp rf t k S _ (hS.mem.get 0 g (.fn u (u + 0) (strs S u))) ) ?_
  rintro _ wd ⟨rfl, hF⟩
  refine ⟨vb (wi0 t k), rfl, ?_⟩
  replace hS := (hS.to (hS.mem.keep0 hF)).put (d := 23) (v := vb (wi0 t k)) (by decide)
  clear hF
  refine hS.opsC 2 [1, 60] [2, 3, 4, 5, 6, 10] fun _ => seg [(25, vb (!(wi0 t k)))] [(0, none), (1, none), (2, none), (3, none)] [.t false, .t false] trivial fun ac wd hS => ?_
  refine list_nil_seq ?_
  refine hS.condC (!(wi0 t k)) (fun hb2o hb2 => ?_) (fun hb2o hb2 => ?_)
  ·
   refine hS.regS [100, 300, 0] [10] fun _ => seg [(11, vi 3)] [(0, none), (3, some ((ν1 2), .cells [sc g u 0 cp, vi rf] 56))] [.e (ν1 2), .e (ν1 2), .e (ν1 0), .e (ν1 0)] trivial fun ac wd hS => ?_
   refine wp_ret ?_
   refine pop_then_ret ?_
   refine St.retC 1 hS (.tuple #[.agg #[sc g u 0 cp, vi rf], vi 3]) [.e (ν1 2), .e (ν1 2)] trivial fun hw => ?_
   refine ⟨3, retd rfl, hw.fr0⟩
  ·
   have hwt := wi0_yes (by simpa using hb2)
   refine wp_skip ?_
   refine pop_then ?_
   refine wp_region_seq ?_
   refine hS.opsC 10 [100, 0, 200, 0, 20, 0, 200, 0, 20, 0] [10] fun _ => seg [(27, .agg #[sc g u 0 cp, vi rf]), (31, vi (0 + t)), (35, vi (0 + f)), (36, vi k)] [(0, none), (3, none)] [.p (fit .i64 (0 + f)), .e (ν1 1), .p (fit .i64 (0 + t)), .e (ν1 1), .e (ν1 0), .e (ν1 0)] ⟨fit_i64 (by omega), fit_i64 (by omega), trivial⟩ fun ac wd hS => ?_
   refine hS.callC 113 #[.agg #[sc g u 0 cp, vi rf], vi (0 + t), vi (0 + f), vi k] (ref03_Copy0 g u cp rf (0 + t) (0 + f) k S _ (hS.mem.get 0 g (.fn u (u + 0) (strs S u))) ) ?_
   rintro _ wd ⟨e23, rfl, hF⟩
   refine ⟨.tuple #[.agg #[sc g u 0 cp, vi rf], vi e23], rfl, ?_⟩
   replace hS := (hS.to (hS.mem.keep0 hF)).put (d := 37) (v := .tuple #[.agg #[sc g u 0 cp, vi rf], vi e23]) (by decide)
   clear hF
   refine hS.opsC 4 [0, 0, 100, 0] [10] fun _ => seg [(11, vi e23)] [(0, none), (1, some ((ν1 2), .cells [sc g u 0 cp, vi rf] 56))] [.e (ν1 2), .e (ν1 2)] trivial fun ac wd hS => ?_
   refine list_nil_seq ?_
   refine wp_ret ?_
   refine St.retC 1 hS (.tuple #[.agg #[sc g u 0 cp, vi rf], vi e23]) [.e (ν1 2), .e (ν1 2)] trivial fun hw => ?_
   refine ⟨e23, retd rfl, hw.fr0⟩

end Go.Proofs.YtnbkafnikpbmbaaDoor.K
