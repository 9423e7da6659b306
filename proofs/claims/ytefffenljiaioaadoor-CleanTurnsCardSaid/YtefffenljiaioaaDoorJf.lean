/-
  Walks, printed by w2.py.
-/
import Derived.Test.YtefffenljiaioaaDoorHh
import Derived.Test.YtefffenljiaioaaDoorJc
import Derived.Test.YtefffenljiaioaaDoorJe
import Derived.Test.YtefffenljiaioaaDoorProg
namespace Go.Proofs.YtefffenljiaioaaDoor.K
set_option linter.unusedVariables false
set_option linter.unusedSimpArgs false

theorem cl_Kill_v (b : Nat) (F : Nat → Prop) (m : AM) (o_ : Int) (z : Int) (id : Int) (kd : Int) (lv : Int) (ar : Int) (w : World) (hr : (arR b F m).R w) (ho : 0 ≤ o_ ∧ 0 ≤ z ∧ o_ + z ≤ 4294967296) (hthr : thr m o_ z = true) (hv : (killE m o_ z id = 0 ∧ kIf m o_ z id (cId m o_ (cFind m o_ z id)) = id) ∧ kIf m o_ z id (cKd m o_ (cFind m o_ z id)) = kd ∧ kIf m o_ z id (cLv m o_ (cFind m o_ z id)) = lv ∧ kIf m o_ z id (cN1 m o_ (cFind m o_ z id)) = ar) :
    Calls Tryd.prog 23 #[.agg #[pt b 0, vi o_, vi z], vu id] w fun e w' => ∃ (F' : Nat → Prop), e = .returned (.tuple #[.agg #[vu id, v8 kd, v8 lv, vu ar], vi 0]) ∧ (arR b F' (killM m o_ z id)).R w' ∧ Fr w w' F F' := by
 obtain ⟨⟨h1, h2⟩, h3, h4, h5⟩ := hv
 have h := cl_Kill b F m o_ z id w hr ho hthr
 rw [h1, h2, h3, h4, h5] at h
 exact h

theorem cl_Pop_v (b : Nat) (F : Nat → Prop) (m : AM) (o_ : Int) (z : Int) (id : Int) (kd : Int) (lv : Int) (ar : Int) (w : World) (hr : (arR b F m).R w) (ho : 0 ≤ o_ ∧ 0 ≤ z ∧ o_ + z ≤ 4294967296) (hthr : thr m o_ z = true) (hv : (popB m o_ z = true ∧ pIf m o_ z (cId m o_ (((cCnt m o_ z : Nat) : Int) - 1)) = id) ∧ pIf m o_ z (cKd m o_ (((cCnt m o_ z : Nat) : Int) - 1)) = kd ∧ pIf m o_ z (cLv m o_ (((cCnt m o_ z : Nat) : Int) - 1)) = lv ∧ pIf m o_ z (cN1 m o_ (((cCnt m o_ z : Nat) : Int) - 1)) = ar) :
    Calls Tryd.prog 25 #[.agg #[pt b 0, vi o_, vi z]] w fun e w' => ∃ (F' : Nat → Prop), e = .returned (.tuple #[.agg #[vu id, v8 kd, v8 lv, vu ar], vb true]) ∧ (arR b F' (popM m o_ z)).R w' ∧ Fr w w' F F' := by
 obtain ⟨⟨h1, h2⟩, h3, h4, h5⟩ := hv
 have h := cl_Pop b F m o_ z w hr ho hthr
 rw [h1, h2, h3, h4, h5] at h
 exact h

set_option maxRecDepth 100000 in
set_option maxHeartbeats 1000000 in
theorem law21_CleanTurns_a1 (g : Nat) (o : Nat) (c : Nat) (n : Nat) (kf : Nat → UInt8) (gk : Nat) (ok : Nat) (ck : Nat) (nk : Nat) (kb : Nat → Bool) (w : World) (hh0 : HE.holds w 1 (.fn 0 64 dbT)) (hh1 : HE.holds w g (.fn o (o + n) (bytes kf o))) (hh2 : HE.holds w gk (.fn ok (ok + nk) (boolsV kb ok))) (hn : n ≤ 9223372036854775807) (hp : 0 < (keptK (kqF nk kb) kf n).length) :
    Calls Tryd.prog 5 #[sc g o n c, sc gk ok nk ck] w fun e w' => e = .returned (vb true) ∧ Fr w w' no no := by
 refine enter (args := [sc g o n c, sc gk ok nk ck]) (D := no) (A := []) Tryd.func5 rfl 152 rfl [(1, .fn 0 64 dbT), (g, .fn o (o + n) (bytes kf o)), (gk, .fn ok (ok + nk) (boolsV kb ok))] (WS.startL ⟨⟨rfl, hh0⟩, ⟨rfl, hh1⟩, ⟨rfl, hh2⟩, trivial⟩) fun ac hS => ?_
 refine hS.regS [0] [0, 1] fun _ => seg [] [(0, none), (1, none), (2, none)] [] trivial fun ac wd hS => ?_
 refine wp_seq ?_
 refine wp_region_seq ?_
 refine hS.call0 20 #[] 20 (law21_awake  _ (hS.mem.get 0 1 (.fn 0 64 dbT)) ) fun ac wd hS => ?_
 refine hS.opsC 1 [0] [0, 1] fun _ => seg [(21, vb false)] [(0, none), (1, none), (2, none)] [] trivial fun ac wd hS => ?_
 refine list_nil_seq ?_
 refine hS.condF ?_
 refine wp_skip ?_
 refine pop_then ?_
 refine wp_seq ?_
 refine hS.regS [0, 0, 0] [0, 1] fun _ => seg [(24, vb (decide ((16 : Int) < ((n : Nat) : Int))))] [(0, none), (1, none), (2, none)] [] trivial fun ac wd hS => ?_
 refine hS.condC (decide ((16 : Int) < ((n : Nat) : Int))) (fun hb1o hb1 => ?_) (fun hb1o hb1 => ?_)
 ·
  refine hS.regS [0] [] fun _ => seg [(4, vb true)] [(0, none)] [] trivial fun ac wd hS => ?_
  refine wp_ret ?_
  refine pop_then_ret ?_
  refine St.retC 0 hS (vb true) [] trivial fun hw => ?_
  refine ⟨retd rfl, hw.fr0⟩
 ·
  refine wp_skip ?_
  refine pop_then ?_
  refine wp_region_seq ?_
  refine hS.callC 21 #[vi 384] (law21_open 384 _  (by decide)) ?_
  rintro _ wd ⟨b'2, F3, rfl, hN, hF⟩
  refine ⟨.tuple #[pt b'2 0, .agg #[pt b'2 0, vi 40, vi 384], vb true], rfl, ?_⟩
  replace hS := (hS.to (hS.mem.newA hN hF)).put (d := 26) (v := .tuple #[pt b'2 0, .agg #[pt b'2 0, vi 40, vi 384], vb true]) (by decide)
  clear hF
  refine hS.opsC 8 [0, 0, 0, 0, 0, 0, 300, 0] [0, 1] fun ν5 => seg [(6, pt (ν5 0) 0), (7, vb true)] [(0, none), (1, none), (2, none), (3, some ((ν5 0), .cells [pt b'2 0, vi 40, vi 384] 52))] [.e (ν5 0), .e (ν5 0), .e (ν5 0)] trivial fun ac wd hS => ?_
  refine list_nil_seq ?_
  refine wp_seq ?_
  refine hS.regS [0, 0, 0] [0, 1, 6, 7] fun _ => seg [(30, sc g o n c), (31, vi ((n : Nat) : Int)), (32, vi 0)] [(0, none), (1, none), (2, none), (3, none)] [] trivial fun ac wd hS => ?_
  refine wp_block ?_
  refine St.loopC (σ := Bool × Int × (Nat → Prop) × AM) (fun (x : Bool × Int × (Nat → Prop) × AM) => match x with | (x7, x32, Fx, mx) => ⟨[(0, [], sc g o n c), (1, [], sc gk ok nk ck), (6, [], pt (ν5 0) 0), (7, [], vb x7), (30, [], sc g o n c), (31, [], vi ((n : Nat) : Int)), (32, [], vi x32)], [(1, .fn 0 64 dbT), (g, .fn o (o + n) (bytes kf o)), (gk, .fn ok (ok + nk) (boolsV kb ok)), ((ν5 0), .cells [pt b'2 0, vi 40, vi 384] 52)], [arR b'2 Fx mx], (0 ≤ x32 ∧ x32 ≤ (n : Int)) ∧ (HL mx 40 384 (addsK kf (Int.toNat x32))) ∧ (x7 = true) ∧ True, n - Int.toNat x32⟩) (true, 0, F3, (comM (AM.new 1) 0 1)) ⟨(by omega), (by exact addsK_none kf (page_thr1 (by decide)) (comM_zero (fun _ => rfl) 0 1)), (by rfl), trivial⟩ hS ?_
  clear hS
  rintro ⟨x7, x32, Fx, mx⟩ ⟨i0, i1, i2, -⟩ ac wd hS
  replace i0 : 0 ≤ x32 ∧ x32 ≤ (n : Int) := i0
  replace i1 : HL mx 40 384 (addsK kf (Int.toNat x32)) := i1
  replace i2 : x7 = true := i2
  have hkf := (kf (Int.toNat x32)).toNat_lt
  have hwr := wrap_u64_rng ((((kf (Int.toNat x32)).toNat : Nat) : Int) * 2 ^ 50)
  refine hS.regS [0] [0, 1, 6, 7, 30, 31, 32] fun _ => seg [(33, vb (decide ((x32 : Int) < ((n : Nat) : Int))))] [(0, none), (1, none), (2, none), (3, none)] [] trivial fun ac wd hS => ?_
  refine wp_seq ?_
  refine hS.condC (decide ((x32 : Int) < ((n : Nat) : Int))) (fun hb4o hb4 => ?_) (fun hb4o hb4 => ?_)
  ·
   refine wp_skip ?_
   refine pop_then ?_
   refine wp_seq ?_
   refine wp_block ?_
   refine hS.regS [0, 20, fx 100 (v8 (((kf (Int.toNat x32)).toNat : Nat) : Int)), 0, 0] [0, 1, 6, 7, 30, 31, 32] fun _ => seg [(8, vi x32), (9, v8 (((kf (Int.toNat x32)).toNat : Nat) : Int))] [(0, none), (1, none), (2, none), (3, none)] [.p ((((bytes kf o) (o + Int.toNat x32 * 1)) : Value) = v8 (((kf (Int.toNat x32)).toNat : Nat) : Int)), .e g, .p (o ≤ o + Int.toNat x32 * 1 ∧ o + Int.toNat x32 * 1 < (o + n)), .p ((0 : Int) ≤ x32 ∧ (x32 : Int) < ((n : Nat) : Int))] ⟨(bytes_rel kf o (Int.toNat x32)), (by omega), (by omega), trivial⟩ fun ac wd hS => ?_
   refine wp_region_lit ?_
   refine hS.opsC 2 [0, 0] [0, 1, 6, 7, 8, 9, 30, 31, 32] fun _ => seg [(38, vb x7)] [(0, none), (1, none), (2, none), (3, none)] [] trivial fun ac wd hS => ?_
   have hg5o : x7 = true := by exact i2
   replace hS := hS.fix 7 (vb true) (congrArg Value.bool hg5o)
   replace hS := hS.fix 38 (vb true) (congrArg Value.bool hg5o)
   refine hS.opsC 11 [301, 1, 21, 21, 1, 1, 21, 1, 21, 1, 1] [0, 1, 6, 7, 30, 31, 32, 38] fun _ => seg [(39, .agg #[pt b'2 0, vi 40, vi 384]), (49, .agg #[vu (x32 + 1), v8 (((kf (Int.toNat x32)).toNat : Nat) : Int), v8 ((((kf (Int.toNat x32)).toNat) / 2 : Nat) : Int), vu (IntKind.wrap .u64 ((((kf (Int.toNat x32)).toNat : Nat) : Int) * 2 ^ 50))])] [(0, none), (1, none), (2, none), (3, none)] [.t true, .t true, .t true, .p (fit .u64 (((kf (Int.toNat x32)).toNat : Nat) : Int)), .t true, .t true, .p ((2 : Int) ≠ 0 ∧ IntKind.u8.wrap (Int.tdiv (((kf (Int.toNat x32)).toNat : Nat) : Int) 2) = ((((kf (Int.toNat x32)).toNat) / 2 : Nat) : Int)), .t true, .t true, .t true, .p (fit .u64 (x32 + 1)), .t true, .p (fit .i64 (x32 + 1)), .t true, .t true, .e (ν5 0), .e (ν5 0), .e (ν5 0)] ⟨fit_u64 (by omega), quo2_n_u8 (d := 2) (by omega) (by omega), fit_u64 (by omega), fit_i64 (by omega), trivial⟩ fun ac wd hS => ?_
   refine hS.callG true 22 #[.agg #[pt b'2 0, vi 40, vi 384], .agg #[vu (x32 + 1), v8 (((kf (Int.toNat x32)).toNat : Nat) : Int), v8 ((((kf (Int.toNat x32)).toNat) / 2 : Nat) : Int), vu (IntKind.wrap .u64 ((((kf (Int.toNat x32)).toNat : Nat) : Int) * 2 ^ 50))]] (cl_Add b'2 Fx mx 40 384 (x32 + 1) (((kf (Int.toNat x32)).toNat : Nat) : Int) ((((kf (Int.toNat x32)).toNat) / 2 : Nat) : Int) (IntKind.wrap .u64 ((((kf (Int.toNat x32)).toNat : Nat) : Int) * 2 ^ 50)) _ (hS.mem.res 0) (by first | assumption | omega | (simp_all; done) | (simp_all; omega)) (by exact i1.slots.there) (by first | assumption | omega | (simp_all; done) | (simp_all; omega))) ?_
   rintro _ wd ⟨F6, rfl, hA, hF⟩
   refine ⟨vi (addE mx 40 384 (x32 + 1)), rfl, ?_⟩
   replace hS := (hS.to (hS.mem.stepA 0 rfl hA hF)).put (d := 50) (v := vi (addE mx 40 384 (x32 + 1))) (by decide)
   clear hF
   refine hS.opsC 3 [1, 70, 0] [0, 1, 6, 30, 31, 32] fun _ => seg [(7, vb (((addE mx 40 384 (x32 + 1)) : Int) == 0))] [(0, none), (1, none), (2, none), (3, none)] [.t true, .t true] trivial fun ac wd hS => ?_
   refine list_nil ?_
   refine pop_block ?_
   refine pop_then ?_
   refine hS.regC [20, 0] [0, 1, 6, 7, 30, 31] fun _ => seg [(32, vi (x32 + 1))] [(0, none), (1, none), (2, none), (3, none)] [.p (fit .i64 (x32 + 1))] ⟨fit_i64 (by omega), trivial⟩ fun ac wd hS => ?_
   exact pop_then (hS.next ((((addE mx 40 384 (x32 + 1)) : Int) == 0), (x32 + 1), F6, (addM mx 40 384 (x32 + 1) (((kf (Int.toNat x32)).toNat : Nat) : Int) ((((kf (Int.toNat x32)).toNat) / 2 : Nat) : Int) (IntKind.wrap .u64 ((((kf (Int.toNat x32)).toNat : Nat) : Int) * 2 ^ 50)))) ⟨(by omega), (by exact (addsK_step i1 i0.1 (by omega)).2), (by rw [(addsK_step i1 i0.1 (by omega)).1]; rfl), trivial⟩ (by dsimp only; omega))
  ·
   refine wp_exit ?_
   refine pop_then_exit ?_
   refine pop_then_exit ?_
   refine pop_block_hit ?_
   refine pop_then ?_
   refine hS.regS [0] [0, 1, 6, 7] fun _ => seg [(10, vi 0)] [(0, none), (1, none), (2, none), (3, none)] [] trivial fun ac wd hS => ?_
   refine wp_seq ?_
   refine hS.regS [0, 0, 0] [0, 1, 6, 7, 10] fun _ => seg [(55, vi ((n : Nat) : Int)), (56, vi 0)] [(0, none), (1, none), (2, none), (3, none)] [] trivial fun ac wd hS => ?_
   refine wp_block ?_
   refine St.loopC (σ := Int × Int × (Nat → Prop) × AM) (fun (x : Int × Int × (Nat → Prop) × AM) => match x with | (x10, x56, Fx, mx) => ⟨[(0, [], sc g o n c), (1, [], sc gk ok nk ck), (6, [], pt (ν5 0) 0), (7, [], vb x7), (10, [], vi x10), (55, [], vi ((n : Nat) : Int)), (56, [], vi x56)], [(1, .fn 0 64 dbT), (g, .fn o (o + n) (bytes kf o)), (gk, .fn ok (ok + nk) (boolsV kb ok)), ((ν5 0), .cells [pt b'2 0, vi 40, vi 384] 52)], [arR b'2 Fx mx], (0 ≤ x56 ∧ x56 ≤ (n : Int)) ∧ (HL mx 40 384 (ksK (kqF nk kb) kf n x56)) ∧ (x10 = x56 - (((keptK (kqF nk kb) kf (Int.toNat x56)).length : Nat) : Int)) ∧ True, n - Int.toNat x56⟩) (0, 0, Fx, mx) ⟨(by omega), (by exact ks_start i1 (by omega)), (by rfl), trivial⟩ hS ?_
   clear hS
   rintro ⟨x10, x56, Fx, mx⟩ ⟨i0, i1, j2, -⟩ ac wd hS
   replace i0 : 0 ≤ x56 ∧ x56 ≤ (n : Int) := i0
   replace i1 : HL mx 40 384 (ksK (kqF nk kb) kf n x56) := i1
   replace j2 : x10 = x56 - (((keptK (kqF nk kb) kf (Int.toNat x56)).length : Nat) : Int) := j2
   have hkl := keptK_le (kqF nk kb) kf (Int.toNat x56)
   refine hS.regS [0] [0, 1, 6, 7, 10, 55, 56] fun _ => seg [(57, vb (decide ((x56 : Int) < ((n : Nat) : Int))))] [(0, none), (1, none), (2, none), (3, none)] [] trivial fun ac wd hS => ?_
   refine wp_seq ?_
   refine hS.condC (decide ((x56 : Int) < ((n : Nat) : Int))) (fun hb7o hb7 => ?_) (fun hb7o hb7 => ?_)
   ·
    refine wp_skip ?_
    refine pop_then ?_
    refine wp_seq ?_
    refine wp_block ?_
    refine hS.regS [0, 0] [0, 1, 6, 7, 10, 55, 56] fun _ => seg [(11, vi x56)] [(0, none), (1, none), (2, none), (3, none)] [] trivial fun ac wd hS => ?_
    refine hS.regS [0, 0, 0, 0, 0, 3, 3, 23, fx 203 (vb (kb (Int.toNat x56))), 80] [0, 1, 6, 7, 10, 11, 55, 56] fun _ => seg [(68, vb ((decide ((x56 : Int) < ((nk : Nat) : Int))) && (kb (Int.toNat x56))))] [(0, none), (1, none), (2, none), (3, none)] [.p ((((decide ((x56 : Int) < ((nk : Nat) : Int))) = true) ∧ True) → AllP [(((boolsV kb ok) (ok + Int.toNat x56 * 1)) : Value) = vb (kb (Int.toNat x56)), (gk : Nat) = gk, ok ≤ ok + Int.toNat x56 * 1 ∧ ok + Int.toNat x56 * 1 < (ok + nk)]), .p ((((decide ((x56 : Int) < ((nk : Nat) : Int))) = true) ∧ True) → AllP [(0 : Int) ≤ x56 ∧ (x56 : Int) < ((nk : Nat) : Int)])] ⟨(fun ⟨hc0, _⟩ => by replace hc0 := nrm hc0; exact ⟨(boolsV_rel kb ok (Int.toNat x56)), rfl, (by omega), trivial⟩), (fun ⟨hc0, _⟩ => by replace hc0 := nrm hc0; exact ⟨(by omega), trivial⟩), trivial⟩ fun ac wd hS => ?_
    refine hS.condC ((decide ((x56 : Int) < ((nk : Nat) : Int))) && (kb (Int.toNat x56))) (fun hb8o hb8 => ?_) (fun hb8o hb8 => ?_)
    ·
     have hk : kqF nk kb (Int.toNat x56) = true := by unfold kqF; rw [Int.toNat_of_nonneg (by omega)]; exact hb8o
     have hK := ks_kill i1 i0.1 (by omega) hk
     refine wp_region_seq ?_
     refine hS.opsC 4 [300, 0, 20, 20] [0, 1, 6, 7, 10, 11, 55, 56] fun _ => seg [(70, .agg #[pt b'2 0, vi 40, vi 384]), (73, vu (x56 + 1))] [(0, none), (1, none), (2, none), (3, none)] [.p (fit .u64 (x56 + 1)), .p (fit .i64 (x56 + 1)), .e (ν5 0), .e (ν5 0), .e (ν5 0)] ⟨fit_u64 (by omega), fit_i64 (by omega), trivial⟩ fun ac wd hS => ?_
     refine hS.callC 23 #[.agg #[pt b'2 0, vi 40, vi 384], vu (x56 + 1)] (cl_Kill_v b'2 Fx mx 40 384 (x56 + 1) (((kf (Int.toNat x56)).toNat : Nat) : Int) ((((kf (Int.toNat x56)).toNat) / 2 : Nat) : Int) (IntKind.wrap .u64 ((((kf (Int.toNat x56)).toNat : Nat) : Int) * 2 ^ 50)) _ (hS.mem.res 0) (by first | assumption | omega | (simp_all; done) | (simp_all; omega)) (by exact i1.slots.there) (by exact hK.1)) ?_
     rintro _ wd ⟨F9, rfl, hA, hF⟩
     refine ⟨.tuple #[.agg #[vu (x56 + 1), v8 (((kf (Int.toNat x56)).toNat : Nat) : Int), v8 ((((kf (Int.toNat x56)).toNat) / 2 : Nat) : Int), vu (IntKind.wrap .u64 ((((kf (Int.toNat x56)).toNat : Nat) : Int) * 2 ^ 50))], vi 0], rfl, ?_⟩
     replace hS := (hS.to (hS.mem.stepA 0 rfl hA hF)).put (d := 74) (v := .tuple #[.agg #[vu (x56 + 1), v8 (((kf (Int.toNat x56)).toNat : Nat) : Int), v8 ((((kf (Int.toNat x56)).toNat) / 2 : Nat) : Int), vu (IntKind.wrap .u64 ((((kf (Int.toNat x56)).toNat : Nat) : Int) * 2 ^ 50))], vi 0]) (by decide)
     clear hF
     refine hS.opsC 6 [0, 0, 0, 0, 400, 0] [0, 1, 6, 7, 10, 11, 55, 56] fun ν19 => seg [(12, pt (ν19 0) 0), (13, vi 0)] [(0, none), (1, none), (2, none), (3, none), (4, some ((ν19 0), .cells [vu (x56 + 1), v8 (((kf (Int.toNat x56)).toNat : Nat) : Int), v8 ((((kf (Int.toNat x56)).toNat) / 2 : Nat) : Int), vu (IntKind.wrap .u64 ((((kf (Int.toNat x56)).toNat : Nat) : Int) * 2 ^ 50))] 59))] [.e (ν19 0), .e (ν19 0), .e (ν19 0), .e (ν19 0)] trivial fun ac wd hS => ?_
     refine list_nil_seq ?_
     refine wp_seq ?_
     refine hS.drawS [0, 0, 0, 1, 401, 1, 1, 21, fx 101 (v8 (((kf (Int.toNat x56)).toNat : Nat) : Int)), fx 1 (vb false), 60] [0, 1, 6, 7, 10, 55, 56] <| seg [(87, vb false)] [(0, none), (1, none), (2, none), (3, none)] [.t false, .t false, .p ((vb (((((kf (Int.toNat x56)).toNat : Nat) : Int) : Int) != (((kf (Int.toNat x56)).toNat : Nat) : Int)) : Value) = vb false), .t false, .p ((((bytes kf o) (o + Int.toNat x56 * 1)) : Value) = v8 (((kf (Int.toNat x56)).toNat : Nat) : Int)), .e g, .p (o ≤ o + Int.toNat x56 * 1 ∧ o + Int.toNat x56 * 1 < (o + n)), .t false, .p ((0 : Int) ≤ x56 ∧ (x56 : Int) < ((n : Nat) : Int)), .t false, .t false, .t false, .e (ν19 0), .t false] ⟨(congrArg Value.bool (bne_self_eq_false _)), (bytes_rel kf o (Int.toNat x56)), (by omega), (by omega), trivial⟩ fun ac wd hS => ?_
     refine hS.condF ?_
     refine wp_skip ?_
     refine pop_then ?_
     refine hS.regC [0, 20, 0] [0, 1, 6, 7, 55, 56] fun _ => seg [(10, vi (x10 + 1))] [(0, none), (1, none), (2, none), (3, none)] [.p (fit .i64 (x10 + 1))] ⟨fit_i64 (by omega), trivial⟩ fun ac wd hS => ?_
     refine pop_block ?_
     refine pop_then ?_
     refine hS.regC [20, 0] [0, 1, 6, 7, 10, 55] fun _ => seg [(56, vi (x56 + 1))] [(0, none), (1, none), (2, none), (3, none)] [.p (fit .i64 (x56 + 1))] ⟨fit_i64 (by omega), trivial⟩ fun ac wd hS => ?_
     exact pop_then (hS.next ((x10 + 1), (x56 + 1), F9, (killM mx 40 384 (x56 + 1))) ⟨(by omega), (by first | exact hK.2 | exact ks_stay i1 i0.1 (by omega) hk), (by first | exact kd_yes hk i0.1 j2 | exact kd_no hk i0.1 j2), trivial⟩ (by dsimp only; omega))
    ·
     have hk : kqF nk kb (Int.toNat x56) = false := by unfold kqF; rw [Int.toNat_of_nonneg (by omega)]; exact hb8o
     refine wp_skip ?_
     refine pop_block ?_
     refine pop_then ?_
     refine hS.regC [20, 0] [0, 1, 6, 7, 10, 55] fun _ => seg [(56, vi (x56 + 1))] [(0, none), (1, none), (2, none), (3, none)] [.p (fit .i64 (x56 + 1))] ⟨fit_i64 (by omega), trivial⟩ fun ac wd hS => ?_
     exact pop_then (hS.next (x10, (x56 + 1), Fx, mx) ⟨(by omega), (by first | exact hK.2 | exact ks_stay i1 i0.1 (by omega) hk), (by first | exact kd_yes hk i0.1 j2 | exact kd_no hk i0.1 j2), trivial⟩ (by dsimp only; omega))
   ·
    have hE := ks_end i1 (by omega)
    refine wp_exit ?_
    refine pop_then_exit ?_
    refine pop_then_exit ?_
    refine pop_block_hit ?_
    refine pop_then ?_
    refine wp_seq ?_
    refine wp_region_seq ?_
    refine hS.opsC 3 [0, 0, 0] [0, 1, 6, 10] fun _ => seg [(93, vb (!x7))] [(0, none), (1, none), (2, none), (3, none)] [] trivial fun ac wd hS => ?_
    have hg10o : (!x7) = false := by rw [i2]; rfl
    replace hS := hS.fix 93 (vb false) (congrArg Value.bool hg10o)
    refine hS.opsC 1 [301] [0, 1, 6, 10, 93] fun _ => seg [(94, .agg #[pt b'2 0, vi 40, vi 384])] [(0, none), (1, none), (2, none), (3, none)] [.t false, .e (ν5 0), .e (ν5 0), .e (ν5 0)] trivial fun ac wd hS => ?_
    refine hS.callG false 24 #[.agg #[pt b'2 0, vi 40, vi 384]] (cl_All_some b'2 Fx mx 40 384 _ (hS.mem.res 0) (by first | assumption | omega | (simp_all; done) | (simp_all; omega)) (by exact i1.slots.there) (by rw [hE.2]; exact hp)) ?_
    rintro _ wd ⟨g211, c212, rfl, hog0, hoh0, hF⟩
    have ho13 : w.heap.size ≤ g211 := Nat.le_trans hS.mem.fr.size hog0
    refine ⟨sc g211 0 (cCnt mx 40 384) c212, rfl, ?_⟩
    replace hS := (hS.to (hS.mem.outs hF [(g211, .fn 0 (0 + (cCnt mx 40 384) * 4) (entV (cEnt mx 40) 0))] ⟨⟨rfl, hoh0, .inr hog0⟩, trivial⟩)).put (d := 95) (v := sc g211 0 (cCnt mx 40 384) c212) (by decide)
    clear hF
    refine hS.opsC 7 [1, 1, 1, 1, 21, 1, 60] [0, 1, 6] fun _ => seg [(102, vb (((((cCnt mx 40 384) : Nat) : Int) : Int) != (((n : Nat) : Int) - x10)))] [(0, none), (1, none), (2, none), (3, none)] [.t false, .t false, .t false, .p (fit .i64 (((n : Nat) : Int) - x10)), .t false, .t false, .t false, .t false] ⟨fit_i64 (by omega), trivial⟩ fun ac wd hS => ?_
    refine list_nil_seq ?_
    refine hS.condK (((((cCnt mx 40 384) : Nat) : Int) : Int) != (((n : Nat) : Int) - x10)) false (by (have h1 := hE.2; have h2 := j2; rw [show x56 = (n : Int) by omega, Int.toNat_natCast] at h2; first | (rw [h1]; exact bne_eq_false_iff_eq.2 (by omega)) | exact bne_eq_false_iff_eq.2 (by omega))) ?_
    show Code.wp _ _ _ _ _
    refine wp_skip ?_
    refine pop_then ?_
    refine wp_seq ?_
    refine hS.regS [0, 0, 20, 0] [0, 1, 6] fun _ => seg [(14, vi (((n : Nat) : Int) - 1))] [(0, none), (1, none), (2, none), (3, none)] [.p (fit .i64 (((n : Nat) : Int) - 1))] ⟨fit_i64 (by omega), trivial⟩ fun ac wd hS => ?_
    refine wp_block ?_
    refine St.loopC (σ := Int × (Nat → Prop) × AM) (fun (x : Int × (Nat → Prop) × AM) => match x with | (x14, Fx, mx) => ⟨[(0, [], sc g o n c), (1, [], sc gk ok nk ck), (6, [], pt (ν5 0) 0), (14, [], vi x14)], [(1, .fn 0 64 dbT), (g, .fn o (o + n) (bytes kf o)), (gk, .fn ok (ok + nk) (boolsV kb ok)), ((ν5 0), .cells [pt b'2 0, vi 40, vi 384] 52)], [arR b'2 Fx mx], (-1 ≤ x14 ∧ x14 < (n : Int)) ∧ (HL mx 40 384 (keptK (kqF nk kb) kf (Int.toNat (x14 + 1)))) ∧ True, Int.toNat (x14 + 1)⟩) ((((n : Nat) : Int) - 1), Fx, mx) ⟨(by omega), (by rw [show Int.toNat (((n : Nat) : Int) - 1 + 1) = n by omega]; exact hE.1), trivial⟩ hS ?_
    clear hS
    rintro ⟨x14, Fx, mx⟩ ⟨i0, i1, -⟩ ac wd hS
    replace i0 : -1 ≤ x14 ∧ x14 < (n : Int) := i0
    replace i1 : HL mx 40 384 (keptK (kqF nk kb) kf (Int.toNat (x14 + 1))) := i1
    have hkf := (kf (Int.toNat x14)).toNat_lt
    have hwr := wrap_u64_rng ((((kf (Int.toNat x14)).toNat : Nat) : Int) * 2 ^ 50)
    refine wp_seq ?_
    refine hS.regS [0, 0] [0, 1, 6, 14] fun _ => seg [(107, vb (decide ((0 : Int) ≤ x14)))] [(0, none), (1, none), (2, none), (3, none)] [] trivial fun ac wd hS => ?_
    refine hS.condC (decide ((0 : Int) ≤ x14)) (fun hb14o hb14 => ?_) (fun hb14o hb14 => ?_)
    ·
     refine wp_skip ?_
     refine pop_then ?_
     refine wp_seq ?_
     refine wp_block ?_
     refine wp_seq ?_
     refine hS.regS [0, 0, 0, 0, 0, 3, 3, 23, fx 203 (vb (kb (Int.toNat x14))), 80] [0, 1, 6, 14] fun _ => seg [(119, vb ((decide ((x14 : Int) < ((nk : Nat) : Int))) && (kb (Int.toNat x14))))] [(0, none), (1, none), (2, none), (3, none)] [.p ((((decide ((x14 : Int) < ((nk : Nat) : Int))) = true) ∧ True) → AllP [(((boolsV kb ok) (ok + Int.toNat x14 * 1)) : Value) = vb (kb (Int.toNat x14)), (gk : Nat) = gk, ok ≤ ok + Int.toNat x14 * 1 ∧ ok + Int.toNat x14 * 1 < (ok + nk)]), .p ((((decide ((x14 : Int) < ((nk : Nat) : Int))) = true) ∧ True) → AllP [(0 : Int) ≤ x14 ∧ (x14 : Int) < ((nk : Nat) : Int)])] ⟨(fun ⟨hc0, _⟩ => by replace hc0 := nrm hc0; exact ⟨(boolsV_rel kb ok (Int.toNat x14)), rfl, (by omega), trivial⟩), (fun ⟨hc0, _⟩ => by replace hc0 := nrm hc0; exact ⟨(by omega), trivial⟩), trivial⟩ fun ac wd hS => ?_
     refine hS.condC ((decide ((x14 : Int) < ((nk : Nat) : Int))) && (kb (Int.toNat x14))) (fun hb15o hb15 => ?_) (fun hb15o hb15 => ?_)
     ·
      have hk : kqF nk kb (Int.toNat x14) = true := by unfold kqF; rw [Int.toNat_of_nonneg (by omega)]; exact hb15o
      refine wp_exit ?_
      refine pop_then_exit ?_
      refine pop_block_hit ?_
      refine pop_then ?_
      refine hS.regC [0, 20, 0] [0, 1, 6] fun _ => seg [(14, vi (x14 - 1))] [(0, none), (1, none), (2, none), (3, none)] [.p (fit .i64 (x14 - 1))] ⟨fit_i64 (by omega), trivial⟩ fun ac wd hS => ?_
      exact pop_then (hS.next ((x14 - 1), Fx, mx) ⟨(by omega), (by first | exact hP.2 | exact pk_stay i1 (by omega) hk), trivial⟩ (by dsimp only; omega))
     ·
      have hk : kqF nk kb (Int.toNat x14) = false := by unfold kqF; rw [Int.toNat_of_nonneg (by omega)]; exact hb15o
      have hP := pk_pop i1 (by omega) hk
      refine wp_skip ?_
      refine pop_then ?_
      refine wp_region_seq ?_
      refine hS.opsC 1 [300] [0, 1, 6, 14] fun _ => seg [(121, .agg #[pt b'2 0, vi 40, vi 384])] [(0, none), (1, none), (2, none), (3, none)] [.e (ν5 0), .e (ν5 0), .e (ν5 0)] trivial fun ac wd hS => ?_
      refine hS.callC 25 #[.agg #[pt b'2 0, vi 40, vi 384]] (cl_Pop_v b'2 Fx mx 40 384 (x14 + 1) (((kf (Int.toNat x14)).toNat : Nat) : Int) ((((kf (Int.toNat x14)).toNat) / 2 : Nat) : Int) (IntKind.wrap .u64 ((((kf (Int.toNat x14)).toNat : Nat) : Int) * 2 ^ 50)) _ (hS.mem.res 0) (by first | assumption | omega | (simp_all; done) | (simp_all; omega)) (by exact i1.slots.there) (by exact hP.1)) ?_
      rintro _ wd ⟨F16, rfl, hA, hF⟩
      refine ⟨.tuple #[.agg #[vu (x14 + 1), v8 (((kf (Int.toNat x14)).toNat : Nat) : Int), v8 ((((kf (Int.toNat x14)).toNat) / 2 : Nat) : Int), vu (IntKind.wrap .u64 ((((kf (Int.toNat x14)).toNat : Nat) : Int) * 2 ^ 50))], vb true], rfl, ?_⟩
      replace hS := (hS.to (hS.mem.stepA 0 rfl hA hF)).put (d := 122) (v := .tuple #[.agg #[vu (x14 + 1), v8 (((kf (Int.toNat x14)).toNat : Nat) : Int), v8 ((((kf (Int.toNat x14)).toNat) / 2 : Nat) : Int), vu (IntKind.wrap .u64 ((((kf (Int.toNat x14)).toNat : Nat) : Int) * 2 ^ 50))], vb true]) (by decide)
      clear hF
      refine hS.opsC 6 [0, 0, 0, 0, 400, 0] [0, 1, 6, 14] fun ν32 => seg [(15, pt (ν32 0) 0), (16, vb true)] [(0, none), (1, none), (2, none), (3, none), (4, some ((ν32 0), .cells [vu (x14 + 1), v8 (((kf (Int.toNat x14)).toNat : Nat) : Int), v8 ((((kf (Int.toNat x14)).toNat) / 2 : Nat) : Int), vu (IntKind.wrap .u64 ((((kf (Int.toNat x14)).toNat : Nat) : Int) * 2 ^ 50))] 59))] [.e (ν32 0), .e (ν32 0), .e (ν32 0), .e (ν32 0)] trivial fun ac wd hS => ?_
      refine list_nil_seq ?_
      refine hS.regS [0, 0, 20, fx 100 (v8 (((kf (Int.toNat x14)).toNat : Nat) : Int)), 0] [0, 1, 6, 14, 15, 16] fun _ => seg [(17, v8 (((kf (Int.toNat x14)).toNat : Nat) : Int))] [(0, none), (1, none), (2, none), (3, none), (4, none)] [.p ((((bytes kf o) (o + Int.toNat x14 * 1)) : Value) = v8 (((kf (Int.toNat x14)).toNat : Nat) : Int)), .e g, .p (o ≤ o + Int.toNat x14 * 1 ∧ o + Int.toNat x14 * 1 < (o + n)), .p ((0 : Int) ≤ x14 ∧ (x14 : Int) < ((n : Nat) : Int))] ⟨(bytes_rel kf o (Int.toNat x14)), (by omega), (by omega), trivial⟩ fun ac wd hS => ?_
      refine wp_region_seq ?_
      refine hS.opsC 3 [0, 0, 0] [0, 1, 6, 14, 15, 17] fun _ => seg [(131, vb false)] [(0, none), (1, none), (2, none), (3, none), (4, none)] [] trivial fun ac wd hS => ?_
      refine hS.opsC 11 [401, 1, 21, 21, 1, 1, 21, 1, 21, 1, 1] [0, 1, 6, 14, 131] fun _ => seg [(132, .agg #[vu (x14 + 1), v8 (((kf (Int.toNat x14)).toNat : Nat) : Int), v8 ((((kf (Int.toNat x14)).toNat) / 2 : Nat) : Int), vu (IntKind.wrap .u64 ((((kf (Int.toNat x14)).toNat : Nat) : Int) * 2 ^ 50))]), (142, .agg #[vu (x14 + 1), v8 (((kf (Int.toNat x14)).toNat : Nat) : Int), v8 ((((kf (Int.toNat x14)).toNat) / 2 : Nat) : Int), vu (IntKind.wrap .u64 ((((kf (Int.toNat x14)).toNat : Nat) : Int) * 2 ^ 50))])] [(0, none), (1, none), (2, none), (3, none)] [.t false, .t false, .t false, .p (fit .u64 (((kf (Int.toNat x14)).toNat : Nat) : Int)), .t false, .t false, .p ((2 : Int) ≠ 0 ∧ IntKind.u8.wrap (Int.tdiv (((kf (Int.toNat x14)).toNat : Nat) : Int) 2) = ((((kf (Int.toNat x14)).toNat) / 2 : Nat) : Int)), .t false, .t false, .t false, .p (fit .u64 (x14 + 1)), .t false, .p (fit .i64 (x14 + 1)), .t false, .t false, .e (ν32 0), .e (ν32 0), .e (ν32 0), .e (ν32 0)] ⟨fit_u64 (by omega), quo2_n_u8 (d := 2) (by omega) (by omega), fit_u64 (by omega), fit_i64 (by omega), trivial⟩ fun ac wd hS => ?_
      refine Runs1.listG hS 131 false ?_ (by decide)
      refine St.binS hS .neq (.tmp 132) (.tmp 142) 59 59 rfl rfl (by decide) (xs := #[vu (x14 + 1), v8 (((kf (Int.toNat x14)).toNat : Nat) : Int), v8 ((((kf (Int.toNat x14)).toNat) / 2 : Nat) : Int), vu (IntKind.wrap .u64 ((((kf (Int.toNat x14)).toNat : Nat) : Int) * 2 ^ 50))]) (ys := #[vu (x14 + 1), v8 (((kf (Int.toNat x14)).toNat : Nat) : Int), v8 ((((kf (Int.toNat x14)).toNat) / 2 : Nat) : Int), vu (IntKind.wrap .u64 ((((kf (Int.toNat x14)).toNat : Nat) : Int) * 2 ^ 50))]) (r := vb (!(eqAll [(((x14 + 1) : Int), ((x14 + 1) : Int)), (((((kf (Int.toNat x14)).toNat : Nat) : Int) : Int), ((((kf (Int.toNat x14)).toNat : Nat) : Int) : Int)), ((((((kf (Int.toNat x14)).toNat) / 2 : Nat) : Int) : Int), (((((kf (Int.toNat x14)).toNat) / 2 : Nat) : Int) : Int)), (((IntKind.wrap .u64 ((((kf (Int.toNat x14)).toNat : Nat) : Int) * 2 ^ 50)) : Int), ((IntKind.wrap .u64 ((((kf (Int.toNat x14)).toNat : Nat) : Int) * 2 ^ 50)) : Int))]))) (fun w => run_neS (l := [(((x14 + 1) : Int), ((x14 + 1) : Int)), (((((kf (Int.toNat x14)).toNat : Nat) : Int) : Int), ((((kf (Int.toNat x14)).toNat : Nat) : Int) : Int)), ((((((kf (Int.toNat x14)).toNat) / 2 : Nat) : Int) : Int), (((((kf (Int.toNat x14)).toNat) / 2 : Nat) : Int) : Int)), (((IntKind.wrap .u64 ((((kf (Int.toNat x14)).toNat : Nat) : Int) * 2 ^ 50)) : Int), ((IntKind.wrap .u64 ((((kf (Int.toNat x14)).toNat : Nat) : Int) * 2 ^ 50)) : Int))]) w (by as_aux_lemma => kernel_rfl) (by as_aux_lemma => kernel_rfl) (by as_aux_lemma => kernel_rfl)) (by as_aux_lemma => kernel_rfl) fun ac hS => ?_
      replace hS := hS.fix 143 (vb false) (show (vb (!(eqAll [(((x14 + 1) : Int), ((x14 + 1) : Int)), (((((kf (Int.toNat x14)).toNat : Nat) : Int) : Int), ((((kf (Int.toNat x14)).toNat : Nat) : Int) : Int)), ((((((kf (Int.toNat x14)).toNat) / 2 : Nat) : Int) : Int), (((((kf (Int.toNat x14)).toNat) / 2 : Nat) : Int) : Int)), (((IntKind.wrap .u64 ((((kf (Int.toNat x14)).toNat : Nat) : Int) * 2 ^ 50)) : Int), ((IntKind.wrap .u64 ((((kf (Int.toNat x14)).toNat : Nat) : Int) * 2 ^ 50)) : Int))])) : Value) = vb false from vbool (by simp [eqAll]))
      refine hS.opsC 1 [60] [0, 1, 6, 14] fun _ => seg [(144, vb false)] [(0, none), (1, none), (2, none), (3, none)] [.t false] trivial fun ac wd hS => ?_
      refine list_nil_seq ?_
      refine hS.condF ?_
      refine wp_skip ?_
      refine pop_block ?_
      refine pop_then ?_
      refine hS.regC [0, 20, 0] [0, 1, 6] fun _ => seg [(14, vi (x14 - 1))] [(0, none), (1, none), (2, none), (3, none)] [.p (fit .i64 (x14 - 1))] ⟨fit_i64 (by omega), trivial⟩ fun ac wd hS => ?_
      exact pop_then (hS.next ((x14 - 1), F16, (popM mx 40 384)) ⟨(by omega), (by first | exact hP.2 | exact pk_stay i1 (by omega) hk), trivial⟩ (by dsimp only; omega))
    ·
     refine wp_exit ?_
     refine pop_then_exit ?_
     refine pop_then_exit ?_
     refine pop_block_hit ?_
     refine pop_then ?_
     refine wp_region_seq ?_
     refine hS.opsC 1 [300] [] fun _ => seg [(146, .agg #[pt b'2 0, vi 40, vi 384])] [(0, none)] [.e (ν5 0), .e (ν5 0), .e (ν5 0)] trivial fun ac wd hS => ?_
     refine hS.callC 25 #[.agg #[pt b'2 0, vi 40, vi 384]] (cl_Pop b'2 Fx mx 40 384 _ (hS.mem.res 0) (by first | assumption | omega | (simp_all; done) | (simp_all; omega)) (by exact i1.slots.there)) ?_
     rintro _ wd ⟨F17, rfl, hA, hF⟩
     refine ⟨.tuple #[.agg #[vu (pIf mx 40 384 (cId mx 40 (((cCnt mx 40 384 : Nat) : Int) - 1))), v8 (pIf mx 40 384 (cKd mx 40 (((cCnt mx 40 384 : Nat) : Int) - 1))), v8 (pIf mx 40 384 (cLv mx 40 (((cCnt mx 40 384 : Nat) : Int) - 1))), vu (pIf mx 40 384 (cN1 mx 40 (((cCnt mx 40 384 : Nat) : Int) - 1)))], vb (popB mx 40 384)], rfl, ?_⟩
     replace hS := (hS.to (hS.mem.stepA 0 rfl hA hF)).put (d := 147) (v := .tuple #[.agg #[vu (pIf mx 40 384 (cId mx 40 (((cCnt mx 40 384 : Nat) : Int) - 1))), v8 (pIf mx 40 384 (cKd mx 40 (((cCnt mx 40 384 : Nat) : Int) - 1))), v8 (pIf mx 40 384 (cLv mx 40 (((cCnt mx 40 384 : Nat) : Int) - 1))), vu (pIf mx 40 384 (cN1 mx 40 (((cCnt mx 40 384 : Nat) : Int) - 1)))], vb (popB mx 40 384)]) (by decide)
     clear hF
     refine hS.opsC 6 [0, 0, 0, 0, 100, 0] [] fun ν39 => seg [(19, vb (popB mx 40 384))] [(0, none)] [.e (ν39 0), .e (ν39 0), .e (ν39 0), .e (ν39 0)] trivial fun ac wd hS => ?_
     refine list_nil_seq ?_
     refine hS.regS [0, 0, 0] [] fun _ => seg [(4, vb (!(popB mx 40 384)))] [(0, none)] [] trivial fun ac wd hS => ?_
     refine wp_ret ?_
     refine St.retC 0 hS (vb (!(popB mx 40 384))) [] trivial fun hw => ?_
     refine ⟨retd (vbool ?_), hw.fr0⟩
     all_goals (first | rfl | (rw [pk_end i1 (by omega)]; rfl))

set_option maxRecDepth 100000 in
set_option maxHeartbeats 1000000 in
theorem law21_CleanTurns_b1 (g : Nat) (o : Nat) (c : Nat) (n : Nat) (kf : Nat → UInt8) (ak : Option Addr) (ck : Nat) (w : World) (hh0 : HE.holds w 1 (.fn 0 64 dbT)) (hh1 : HE.holds w g (.fn o (o + n) (bytes kf o))) (hn : n ≤ 9223372036854775807) (hp : 0 < (keptK (kqF 0 (fun _ => false)) kf n).length) :
    Calls Tryd.prog 5 #[sc g o n c, .slice ak 0 ck] w fun e w' => e = .returned (vb true) ∧ Fr w w' no no := by
 refine enter (args := [sc g o n c, .slice ak 0 ck]) (D := no) (A := []) Tryd.func5 rfl 152 rfl [(1, .fn 0 64 dbT), (g, .fn o (o + n) (bytes kf o))] (WS.startL ⟨⟨rfl, hh0⟩, ⟨rfl, hh1⟩, trivial⟩) fun ac hS => ?_
 refine hS.regS [0] [0, 1] fun _ => seg [] [(0, none), (1, none)] [] trivial fun ac wd hS => ?_
 refine wp_seq ?_
 refine wp_region_seq ?_
 refine hS.call0 20 #[] 20 (law21_awake  _ (hS.mem.get 0 1 (.fn 0 64 dbT)) ) fun ac wd hS => ?_
 refine hS.opsC 1 [0] [0, 1] fun _ => seg [(21, vb false)] [(0, none), (1, none)] [] trivial fun ac wd hS => ?_
 refine list_nil_seq ?_
 refine hS.condF ?_
 refine wp_skip ?_
 refine pop_then ?_
 refine wp_seq ?_
 refine hS.regS [0, 0, 0] [0, 1] fun _ => seg [(24, vb (decide ((16 : Int) < ((n : Nat) : Int))))] [(0, none), (1, none)] [] trivial fun ac wd hS => ?_
 refine hS.condC (decide ((16 : Int) < ((n : Nat) : Int))) (fun hb1o hb1 => ?_) (fun hb1o hb1 => ?_)
 ·
  refine hS.regS [0] [] fun _ => seg [(4, vb true)] [(0, none)] [] trivial fun ac wd hS => ?_
  refine wp_ret ?_
  refine pop_then_ret ?_
  refine St.retC 0 hS (vb true) [] trivial fun hw => ?_
  refine ⟨retd rfl, hw.fr0⟩
 ·
  refine wp_skip ?_
  refine pop_then ?_
  refine wp_region_seq ?_
  refine hS.callC 21 #[vi 384] (law21_open 384 _  (by decide)) ?_
  rintro _ wd ⟨b'2, F3, rfl, hN, hF⟩
  refine ⟨.tuple #[pt b'2 0, .agg #[pt b'2 0, vi 40, vi 384], vb true], rfl, ?_⟩
  replace hS := (hS.to (hS.mem.newA hN hF)).put (d := 26) (v := .tuple #[pt b'2 0, .agg #[pt b'2 0, vi 40, vi 384], vb true]) (by decide)
  clear hF
  refine hS.opsC 8 [0, 0, 0, 0, 0, 0, 200, 0] [0, 1] fun ν5 => seg [(6, pt (ν5 0) 0), (7, vb true)] [(0, none), (1, none), (2, some ((ν5 0), .cells [pt b'2 0, vi 40, vi 384] 52))] [.e (ν5 0), .e (ν5 0), .e (ν5 0)] trivial fun ac wd hS => ?_
  refine list_nil_seq ?_
  refine wp_seq ?_
  refine hS.regS [0, 0, 0] [0, 1, 6, 7] fun _ => seg [(30, sc g o n c), (31, vi ((n : Nat) : Int)), (32, vi 0)] [(0, none), (1, none), (2, none)] [] trivial fun ac wd hS => ?_
  refine wp_block ?_
  refine St.loopC (σ := Bool × Int × (Nat → Prop) × AM) (fun (x : Bool × Int × (Nat → Prop) × AM) => match x with | (x7, x32, Fx, mx) => ⟨[(0, [], sc g o n c), (1, [], .slice ak 0 ck), (6, [], pt (ν5 0) 0), (7, [], vb x7), (30, [], sc g o n c), (31, [], vi ((n : Nat) : Int)), (32, [], vi x32)], [(1, .fn 0 64 dbT), (g, .fn o (o + n) (bytes kf o)), ((ν5 0), .cells [pt b'2 0, vi 40, vi 384] 52)], [arR b'2 Fx mx], (0 ≤ x32 ∧ x32 ≤ (n : Int)) ∧ (HL mx 40 384 (addsK kf (Int.toNat x32))) ∧ (x7 = true) ∧ True, n - Int.toNat x32⟩) (true, 0, F3, (comM (AM.new 1) 0 1)) ⟨(by omega), (by exact addsK_none kf (page_thr1 (by decide)) (comM_zero (fun _ => rfl) 0 1)), (by rfl), trivial⟩ hS ?_
  clear hS
  rintro ⟨x7, x32, Fx, mx⟩ ⟨i0, i1, i2, -⟩ ac wd hS
  replace i0 : 0 ≤ x32 ∧ x32 ≤ (n : Int) := i0
  replace i1 : HL mx 40 384 (addsK kf (Int.toNat x32)) := i1
  replace i2 : x7 = true := i2
  have hkf := (kf (Int.toNat x32)).toNat_lt
  have hwr := wrap_u64_rng ((((kf (Int.toNat x32)).toNat : Nat) : Int) * 2 ^ 50)
  refine hS.regS [0] [0, 1, 6, 7, 30, 31, 32] fun _ => seg [(33, vb (decide ((x32 : Int) < ((n : Nat) : Int))))] [(0, none), (1, none), (2, none)] [] trivial fun ac wd hS => ?_
  refine wp_seq ?_
  refine hS.condC (decide ((x32 : Int) < ((n : Nat) : Int))) (fun hb4o hb4 => ?_) (fun hb4o hb4 => ?_)
  ·
   refine wp_skip ?_
   refine pop_then ?_
   refine wp_seq ?_
   refine wp_block ?_
   refine hS.regS [0, 20, fx 100 (v8 (((kf (Int.toNat x32)).toNat : Nat) : Int)), 0, 0] [0, 1, 6, 7, 30, 31, 32] fun _ => seg [(8, vi x32), (9, v8 (((kf (Int.toNat x32)).toNat : Nat) : Int))] [(0, none), (1, none), (2, none)] [.p ((((bytes kf o) (o + Int.toNat x32 * 1)) : Value) = v8 (((kf (Int.toNat x32)).toNat : Nat) : Int)), .e g, .p (o ≤ o + Int.toNat x32 * 1 ∧ o + Int.toNat x32 * 1 < (o + n)), .p ((0 : Int) ≤ x32 ∧ (x32 : Int) < ((n : Nat) : Int))] ⟨(bytes_rel kf o (Int.toNat x32)), (by omega), (by omega), trivial⟩ fun ac wd hS => ?_
   refine wp_region_lit ?_
   refine hS.opsC 2 [0, 0] [0, 1, 6, 7, 8, 9, 30, 31, 32] fun _ => seg [(38, vb x7)] [(0, none), (1, none), (2, none)] [] trivial fun ac wd hS => ?_
   have hg5o : x7 = true := by exact i2
   replace hS := hS.fix 7 (vb true) (congrArg Value.bool hg5o)
   replace hS := hS.fix 38 (vb true) (congrArg Value.bool hg5o)
   refine hS.opsC 11 [201, 1, 21, 21, 1, 1, 21, 1, 21, 1, 1] [0, 1, 6, 7, 30, 31, 32, 38] fun _ => seg [(39, .agg #[pt b'2 0, vi 40, vi 384]), (49, .agg #[vu (x32 + 1), v8 (((kf (Int.toNat x32)).toNat : Nat) : Int), v8 ((((kf (Int.toNat x32)).toNat) / 2 : Nat) : Int), vu (IntKind.wrap .u64 ((((kf (Int.toNat x32)).toNat : Nat) : Int) * 2 ^ 50))])] [(0, none), (1, none), (2, none)] [.t true, .t true, .t true, .p (fit .u64 (((kf (Int.toNat x32)).toNat : Nat) : Int)), .t true, .t true, .p ((2 : Int) ≠ 0 ∧ IntKind.u8.wrap (Int.tdiv (((kf (Int.toNat x32)).toNat : Nat) : Int) 2) = ((((kf (Int.toNat x32)).toNat) / 2 : Nat) : Int)), .t true, .t true, .t true, .p (fit .u64 (x32 + 1)), .t true, .p (fit .i64 (x32 + 1)), .t true, .t true, .e (ν5 0), .e (ν5 0), .e (ν5 0)] ⟨fit_u64 (by omega), quo2_n_u8 (d := 2) (by omega) (by omega), fit_u64 (by omega), fit_i64 (by omega), trivial⟩ fun ac wd hS => ?_
   refine hS.callG true 22 #[.agg #[pt b'2 0, vi 40, vi 384], .agg #[vu (x32 + 1), v8 (((kf (Int.toNat x32)).toNat : Nat) : Int), v8 ((((kf (Int.toNat x32)).toNat) / 2 : Nat) : Int), vu (IntKind.wrap .u64 ((((kf (Int.toNat x32)).toNat : Nat) : Int) * 2 ^ 50))]] (cl_Add b'2 Fx mx 40 384 (x32 + 1) (((kf (Int.toNat x32)).toNat : Nat) : Int) ((((kf (Int.toNat x32)).toNat) / 2 : Nat) : Int) (IntKind.wrap .u64 ((((kf (Int.toNat x32)).toNat : Nat) : Int) * 2 ^ 50)) _ (hS.mem.res 0) (by first | assumption | omega | (simp_all; done) | (simp_all; omega)) (by exact i1.slots.there) (by first | assumption | omega | (simp_all; done) | (simp_all; omega))) ?_
   rintro _ wd ⟨F6, rfl, hA, hF⟩
   refine ⟨vi (addE mx 40 384 (x32 + 1)), rfl, ?_⟩
   replace hS := (hS.to (hS.mem.stepA 0 rfl hA hF)).put (d := 50) (v := vi (addE mx 40 384 (x32 + 1))) (by decide)
   clear hF
   refine hS.opsC 3 [1, 70, 0] [0, 1, 6, 30, 31, 32] fun _ => seg [(7, vb (((addE mx 40 384 (x32 + 1)) : Int) == 0))] [(0, none), (1, none), (2, none)] [.t true, .t true] trivial fun ac wd hS => ?_
   refine list_nil ?_
   refine pop_block ?_
   refine pop_then ?_
   refine hS.regC [20, 0] [0, 1, 6, 7, 30, 31] fun _ => seg [(32, vi (x32 + 1))] [(0, none), (1, none), (2, none)] [.p (fit .i64 (x32 + 1))] ⟨fit_i64 (by omega), trivial⟩ fun ac wd hS => ?_
   exact pop_then (hS.next ((((addE mx 40 384 (x32 + 1)) : Int) == 0), (x32 + 1), F6, (addM mx 40 384 (x32 + 1) (((kf (Int.toNat x32)).toNat : Nat) : Int) ((((kf (Int.toNat x32)).toNat) / 2 : Nat) : Int) (IntKind.wrap .u64 ((((kf (Int.toNat x32)).toNat : Nat) : Int) * 2 ^ 50)))) ⟨(by omega), (by exact (addsK_step i1 i0.1 (by omega)).2), (by rw [(addsK_step i1 i0.1 (by omega)).1]; rfl), trivial⟩ (by dsimp only; omega))
  ·
   refine wp_exit ?_
   refine pop_then_exit ?_
   refine pop_then_exit ?_
   refine pop_block_hit ?_
   refine pop_then ?_
   refine hS.regS [0] [0, 1, 6, 7] fun _ => seg [(10, vi 0)] [(0, none), (1, none), (2, none)] [] trivial fun ac wd hS => ?_
   refine wp_seq ?_
   refine hS.regS [0, 0, 0] [0, 1, 6, 7, 10] fun _ => seg [(55, vi ((n : Nat) : Int)), (56, vi 0)] [(0, none), (1, none), (2, none)] [] trivial fun ac wd hS => ?_
   refine wp_block ?_
   refine St.loopC (σ := Int × Int × (Nat → Prop) × AM) (fun (x : Int × Int × (Nat → Prop) × AM) => match x with | (x10, x56, Fx, mx) => ⟨[(0, [], sc g o n c), (1, [], .slice ak 0 ck), (6, [], pt (ν5 0) 0), (7, [], vb x7), (10, [], vi x10), (55, [], vi ((n : Nat) : Int)), (56, [], vi x56)], [(1, .fn 0 64 dbT), (g, .fn o (o + n) (bytes kf o)), ((ν5 0), .cells [pt b'2 0, vi 40, vi 384] 52)], [arR b'2 Fx mx], (0 ≤ x56 ∧ x56 ≤ (n : Int)) ∧ (HL mx 40 384 (ksK (kqF 0 (fun _ => false)) kf n x56)) ∧ (x10 = x56 - (((keptK (kqF 0 (fun _ => false)) kf (Int.toNat x56)).length : Nat) : Int)) ∧ True, n - Int.toNat x56⟩) (0, 0, Fx, mx) ⟨(by omega), (by exact ks_start i1 (by omega)), (by rfl), trivial⟩ hS ?_
   clear hS
   rintro ⟨x10, x56, Fx, mx⟩ ⟨i0, i1, j2, -⟩ ac wd hS
   replace i0 : 0 ≤ x56 ∧ x56 ≤ (n : Int) := i0
   replace i1 : HL mx 40 384 (ksK (kqF 0 (fun _ => false)) kf n x56) := i1
   replace j2 : x10 = x56 - (((keptK (kqF 0 (fun _ => false)) kf (Int.toNat x56)).length : Nat) : Int) := j2
   have hkl := keptK_le (kqF 0 (fun _ => false)) kf (Int.toNat x56)
   have hk : kqF 0 (fun _ => false) (Int.toNat x56) = false := by simp [kqF]
   refine hS.regS [0] [0, 1, 6, 7, 10, 55, 56] fun _ => seg [(57, vb (decide ((x56 : Int) < ((n : Nat) : Int))))] [(0, none), (1, none), (2, none)] [] trivial fun ac wd hS => ?_
   refine wp_seq ?_
   refine hS.condC (decide ((x56 : Int) < ((n : Nat) : Int))) (fun hb7o hb7 => ?_) (fun hb7o hb7 => ?_)
   ·
    refine wp_skip ?_
    refine pop_then ?_
    refine wp_seq ?_
    refine wp_block ?_
    refine hS.regS [0, 0] [0, 1, 6, 7, 10, 55, 56] fun _ => seg [(11, vi x56)] [(0, none), (1, none), (2, none)] [] trivial fun ac wd hS => ?_
    refine wp_region_seq ?_
    refine hS.opsC 5 [0, 0, 0, 0, 0] [0, 1, 6, 7, 10, 11, 55, 56] fun _ => seg [(63, vb (decide ((x56 : Int) < 0)))] [(0, none), (1, none), (2, none)] [] trivial fun ac wd hS => ?_
    have hg8o : (decide ((x56 : Int) < 0)) = false := by exact decide_eq_false (by omega)
    replace hS := hS.fix 63 (vb false) (congrArg Value.bool hg8o)
    refine hS.opsC 5 [2, 2, 2, 2, 60] [0, 1, 6, 7, 10, 11, 55, 56] fun _ => seg [(68, vb false)] [(0, none), (1, none), (2, none)] [.t false, .t false, .t false, .t false, .t false] trivial fun ac wd hS => ?_
    refine list_nil_seq ?_
    refine hS.condF ?_
    refine wp_skip ?_
    refine pop_block ?_
    refine pop_then ?_
    refine hS.regC [20, 0] [0, 1, 6, 7, 10, 55] fun _ => seg [(56, vi (x56 + 1))] [(0, none), (1, none), (2, none)] [.p (fit .i64 (x56 + 1))] ⟨fit_i64 (by omega), trivial⟩ fun ac wd hS => ?_
    exact pop_then (hS.next (x10, (x56 + 1), Fx, mx) ⟨(by omega), (by first | exact hK.2 | exact ks_stay i1 i0.1 (by omega) hk), (by first | exact kd_yes hk i0.1 j2 | exact kd_no hk i0.1 j2), trivial⟩ (by dsimp only; omega))
   ·
    have hE := ks_end i1 (by omega)
    refine wp_exit ?_
    refine pop_then_exit ?_
    refine pop_then_exit ?_
    refine pop_block_hit ?_
    refine pop_then ?_
    refine wp_seq ?_
    refine wp_region_seq ?_
    refine hS.opsC 3 [0, 0, 0] [0, 1, 6, 10] fun _ => seg [(93, vb (!x7))] [(0, none), (1, none), (2, none)] [] trivial fun ac wd hS => ?_
    have hg9o : (!x7) = false := by rw [i2]; rfl
    replace hS := hS.fix 93 (vb false) (congrArg Value.bool hg9o)
    refine hS.opsC 1 [201] [0, 1, 6, 10, 93] fun _ => seg [(94, .agg #[pt b'2 0, vi 40, vi 384])] [(0, none), (1, none), (2, none)] [.t false, .e (ν5 0), .e (ν5 0), .e (ν5 0)] trivial fun ac wd hS => ?_
    refine hS.callG false 24 #[.agg #[pt b'2 0, vi 40, vi 384]] (cl_All_some b'2 Fx mx 40 384 _ (hS.mem.res 0) (by first | assumption | omega | (simp_all; done) | (simp_all; omega)) (by exact i1.slots.there) (by rw [hE.2]; exact hp)) ?_
    rintro _ wd ⟨g210, c211, rfl, hog0, hoh0, hF⟩
    have ho12 : w.heap.size ≤ g210 := Nat.le_trans hS.mem.fr.size hog0
    refine ⟨sc g210 0 (cCnt mx 40 384) c211, rfl, ?_⟩
    replace hS := (hS.to (hS.mem.outs hF [(g210, .fn 0 (0 + (cCnt mx 40 384) * 4) (entV (cEnt mx 40) 0))] ⟨⟨rfl, hoh0, .inr hog0⟩, trivial⟩)).put (d := 95) (v := sc g210 0 (cCnt mx 40 384) c211) (by decide)
    clear hF
    refine hS.opsC 7 [1, 1, 1, 1, 21, 1, 60] [0, 1, 6] fun _ => seg [(102, vb (((((cCnt mx 40 384) : Nat) : Int) : Int) != (((n : Nat) : Int) - x10)))] [(0, none), (1, none), (2, none)] [.t false, .t false, .t false, .p (fit .i64 (((n : Nat) : Int) - x10)), .t false, .t false, .t false, .t false] ⟨fit_i64 (by omega), trivial⟩ fun ac wd hS => ?_
    refine list_nil_seq ?_
    refine hS.condK (((((cCnt mx 40 384) : Nat) : Int) : Int) != (((n : Nat) : Int) - x10)) false (by (have h1 := hE.2; have h2 := j2; rw [show x56 = (n : Int) by omega, Int.toNat_natCast] at h2; first | (rw [h1]; exact bne_eq_false_iff_eq.2 (by omega)) | exact bne_eq_false_iff_eq.2 (by omega))) ?_
    show Code.wp _ _ _ _ _
    refine wp_skip ?_
    refine pop_then ?_
    refine wp_seq ?_
    refine hS.regS [0, 0, 20, 0] [0, 1, 6] fun _ => seg [(14, vi (((n : Nat) : Int) - 1))] [(0, none), (1, none), (2, none)] [.p (fit .i64 (((n : Nat) : Int) - 1))] ⟨fit_i64 (by omega), trivial⟩ fun ac wd hS => ?_
    refine wp_block ?_
    refine St.loopC (σ := Int × (Nat → Prop) × AM) (fun (x : Int × (Nat → Prop) × AM) => match x with | (x14, Fx, mx) => ⟨[(0, [], sc g o n c), (1, [], .slice ak 0 ck), (6, [], pt (ν5 0) 0), (14, [], vi x14)], [(1, .fn 0 64 dbT), (g, .fn o (o + n) (bytes kf o)), ((ν5 0), .cells [pt b'2 0, vi 40, vi 384] 52)], [arR b'2 Fx mx], (-1 ≤ x14 ∧ x14 < (n : Int)) ∧ (HL mx 40 384 (keptK (kqF 0 (fun _ => false)) kf (Int.toNat (x14 + 1)))) ∧ True, Int.toNat (x14 + 1)⟩) ((((n : Nat) : Int) - 1), Fx, mx) ⟨(by omega), (by rw [show Int.toNat (((n : Nat) : Int) - 1 + 1) = n by omega]; exact hE.1), trivial⟩ hS ?_
    clear hS
    rintro ⟨x14, Fx, mx⟩ ⟨i0, i1, -⟩ ac wd hS
    replace i0 : -1 ≤ x14 ∧ x14 < (n : Int) := i0
    replace i1 : HL mx 40 384 (keptK (kqF 0 (fun _ => false)) kf (Int.toNat (x14 + 1))) := i1
    have hkf := (kf (Int.toNat x14)).toNat_lt
    have hwr := wrap_u64_rng ((((kf (Int.toNat x14)).toNat : Nat) : Int) * 2 ^ 50)
    refine wp_seq ?_
    refine hS.regS [0, 0] [0, 1, 6, 14] fun _ => seg [(107, vb (decide ((0 : Int) ≤ x14)))] [(0, none), (1, none), (2, none)] [] trivial fun ac wd hS => ?_
    refine hS.condC (decide ((0 : Int) ≤ x14)) (fun hb13o hb13 => ?_) (fun hb13o hb13 => ?_)
    ·
     have hk : kqF 0 (fun _ => false) (Int.toNat x14) = false := by simp [kqF]
     have hP := pk_pop i1 (by omega) hk
     refine wp_skip ?_
     refine pop_then ?_
     refine wp_seq ?_
     refine wp_block ?_
     refine wp_seq ?_
     refine wp_region_seq ?_
     refine hS.opsC 5 [0, 0, 0, 0, 0] [0, 1, 6, 14] fun _ => seg [(114, vb (decide ((x14 : Int) < 0)))] [(0, none), (1, none), (2, none)] [] trivial fun ac wd hS => ?_
     have hg14o : (decide ((x14 : Int) < 0)) = false := by exact decide_eq_false (by omega)
     replace hS := hS.fix 114 (vb false) (congrArg Value.bool hg14o)
     refine hS.opsC 5 [2, 2, 2, 2, 60] [0, 1, 6, 14] fun _ => seg [(119, vb false)] [(0, none), (1, none), (2, none)] [.t false, .t false, .t false, .t false, .t false] trivial fun ac wd hS => ?_
     refine list_nil_seq ?_
     refine hS.condF ?_
     refine wp_skip ?_
     refine pop_then ?_
     refine wp_region_seq ?_
     refine hS.opsC 1 [200] [0, 1, 6, 14] fun _ => seg [(121, .agg #[pt b'2 0, vi 40, vi 384])] [(0, none), (1, none), (2, none)] [.e (ν5 0), .e (ν5 0), .e (ν5 0)] trivial fun ac wd hS => ?_
     refine hS.callC 25 #[.agg #[pt b'2 0, vi 40, vi 384]] (cl_Pop_v b'2 Fx mx 40 384 (x14 + 1) (((kf (Int.toNat x14)).toNat : Nat) : Int) ((((kf (Int.toNat x14)).toNat) / 2 : Nat) : Int) (IntKind.wrap .u64 ((((kf (Int.toNat x14)).toNat : Nat) : Int) * 2 ^ 50)) _ (hS.mem.res 0) (by first | assumption | omega | (simp_all; done) | (simp_all; omega)) (by exact i1.slots.there) (by exact hP.1)) ?_
     rintro _ wd ⟨F15, rfl, hA, hF⟩
     refine ⟨.tuple #[.agg #[vu (x14 + 1), v8 (((kf (Int.toNat x14)).toNat : Nat) : Int), v8 ((((kf (Int.toNat x14)).toNat) / 2 : Nat) : Int), vu (IntKind.wrap .u64 ((((kf (Int.toNat x14)).toNat : Nat) : Int) * 2 ^ 50))], vb true], rfl, ?_⟩
     replace hS := (hS.to (hS.mem.stepA 0 rfl hA hF)).put (d := 122) (v := .tuple #[.agg #[vu (x14 + 1), v8 (((kf (Int.toNat x14)).toNat : Nat) : Int), v8 ((((kf (Int.toNat x14)).toNat) / 2 : Nat) : Int), vu (IntKind.wrap .u64 ((((kf (Int.toNat x14)).toNat : Nat) : Int) * 2 ^ 50))], vb true]) (by decide)
     clear hF
     refine hS.opsC 6 [0, 0, 0, 0, 300, 0] [0, 1, 6, 14] fun ν28 => seg [(15, pt (ν28 0) 0), (16, vb true)] [(0, none), (1, none), (2, none), (3, some ((ν28 0), .cells [vu (x14 + 1), v8 (((kf (Int.toNat x14)).toNat : Nat) : Int), v8 ((((kf (Int.toNat x14)).toNat) / 2 : Nat) : Int), vu (IntKind.wrap .u64 ((((kf (Int.toNat x14)).toNat : Nat) : Int) * 2 ^ 50))] 59))] [.e (ν28 0), .e (ν28 0), .e (ν28 0), .e (ν28 0)] trivial fun ac wd hS => ?_
     refine list_nil_seq ?_
     refine hS.regS [0, 0, 20, fx 100 (v8 (((kf (Int.toNat x14)).toNat : Nat) : Int)), 0] [0, 1, 6, 14, 15, 16] fun _ => seg [(17, v8 (((kf (Int.toNat x14)).toNat : Nat) : Int))] [(0, none), (1, none), (2, none), (3, none)] [.p ((((bytes kf o) (o + Int.toNat x14 * 1)) : Value) = v8 (((kf (Int.toNat x14)).toNat : Nat) : Int)), .e g, .p (o ≤ o + Int.toNat x14 * 1 ∧ o + Int.toNat x14 * 1 < (o + n)), .p ((0 : Int) ≤ x14 ∧ (x14 : Int) < ((n : Nat) : Int))] ⟨(bytes_rel kf o (Int.toNat x14)), (by omega), (by omega), trivial⟩ fun ac wd hS => ?_
     refine wp_region_seq ?_
     refine hS.opsC 3 [0, 0, 0] [0, 1, 6, 14, 15, 17] fun _ => seg [(131, vb false)] [(0, none), (1, none), (2, none), (3, none)] [] trivial fun ac wd hS => ?_
     refine hS.opsC 11 [301, 1, 21, 21, 1, 1, 21, 1, 21, 1, 1] [0, 1, 6, 14, 131] fun _ => seg [(132, .agg #[vu (x14 + 1), v8 (((kf (Int.toNat x14)).toNat : Nat) : Int), v8 ((((kf (Int.toNat x14)).toNat) / 2 : Nat) : Int), vu (IntKind.wrap .u64 ((((kf (Int.toNat x14)).toNat : Nat) : Int) * 2 ^ 50))]), (142, .agg #[vu (x14 + 1), v8 (((kf (Int.toNat x14)).toNat : Nat) : Int), v8 ((((kf (Int.toNat x14)).toNat) / 2 : Nat) : Int), vu (IntKind.wrap .u64 ((((kf (Int.toNat x14)).toNat : Nat) : Int) * 2 ^ 50))])] [(0, none), (1, none), (2, none)] [.t false, .t false, .t false, .p (fit .u64 (((kf (Int.toNat x14)).toNat : Nat) : Int)), .t false, .t false, .p ((2 : Int) ≠ 0 ∧ IntKind.u8.wrap (Int.tdiv (((kf (Int.toNat x14)).toNat : Nat) : Int) 2) = ((((kf (Int.toNat x14)).toNat) / 2 : Nat) : Int)), .t false, .t false, .t false, .p (fit .u64 (x14 + 1)), .t false, .p (fit .i64 (x14 + 1)), .t false, .t false, .e (ν28 0), .e (ν28 0), .e (ν28 0), .e (ν28 0)] ⟨fit_u64 (by omega), quo2_n_u8 (d := 2) (by omega) (by omega), fit_u64 (by omega), fit_i64 (by omega), trivial⟩ fun ac wd hS => ?_
     refine Runs1.listG hS 131 false ?_ (by decide)
     refine St.binS hS .neq (.tmp 132) (.tmp 142) 59 59 rfl rfl (by decide) (xs := #[vu (x14 + 1), v8 (((kf (Int.toNat x14)).toNat : Nat) : Int), v8 ((((kf (Int.toNat x14)).toNat) / 2 : Nat) : Int), vu (IntKind.wrap .u64 ((((kf (Int.toNat x14)).toNat : Nat) : Int) * 2 ^ 50))]) (ys := #[vu (x14 + 1), v8 (((kf (Int.toNat x14)).toNat : Nat) : Int), v8 ((((kf (Int.toNat x14)).toNat) / 2 : Nat) : Int), vu (IntKind.wrap .u64 ((((kf (Int.toNat x14)).toNat : Nat) : Int) * 2 ^ 50))]) (r := vb (!(eqAll [(((x14 + 1) : Int), ((x14 + 1) : Int)), (((((kf (Int.toNat x14)).toNat : Nat) : Int) : Int), ((((kf (Int.toNat x14)).toNat : Nat) : Int) : Int)), ((((((kf (Int.toNat x14)).toNat) / 2 : Nat) : Int) : Int), (((((kf (Int.toNat x14)).toNat) / 2 : Nat) : Int) : Int)), (((IntKind.wrap .u64 ((((kf (Int.toNat x14)).toNat : Nat) : Int) * 2 ^ 50)) : Int), ((IntKind.wrap .u64 ((((kf (Int.toNat x14)).toNat : Nat) : Int) * 2 ^ 50)) : Int))]))) (fun w => run_neS (l := [(((x14 + 1) : Int), ((x14 + 1) : Int)), (((((kf (Int.toNat x14)).toNat : Nat) : Int) : Int), ((((kf (Int.toNat x14)).toNat : Nat) : Int) : Int)), ((((((kf (Int.toNat x14)).toNat) / 2 : Nat) : Int) : Int), (((((kf (Int.toNat x14)).toNat) / 2 : Nat) : Int) : Int)), (((IntKind.wrap .u64 ((((kf (Int.toNat x14)).toNat : Nat) : Int) * 2 ^ 50)) : Int), ((IntKind.wrap .u64 ((((kf (Int.toNat x14)).toNat : Nat) : Int) * 2 ^ 50)) : Int))]) w (by as_aux_lemma => kernel_rfl) (by as_aux_lemma => kernel_rfl) (by as_aux_lemma => kernel_rfl)) (by as_aux_lemma => kernel_rfl) fun ac hS => ?_
     replace hS := hS.fix 143 (vb false) (show (vb (!(eqAll [(((x14 + 1) : Int), ((x14 + 1) : Int)), (((((kf (Int.toNat x14)).toNat : Nat) : Int) : Int), ((((kf (Int.toNat x14)).toNat : Nat) : Int) : Int)), ((((((kf (Int.toNat x14)).toNat) / 2 : Nat) : Int) : Int), (((((kf (Int.toNat x14)).toNat) / 2 : Nat) : Int) : Int)), (((IntKind.wrap .u64 ((((kf (Int.toNat x14)).toNat : Nat) : Int) * 2 ^ 50)) : Int), ((IntKind.wrap .u64 ((((kf (Int.toNat x14)).toNat : Nat) : Int) * 2 ^ 50)) : Int))])) : Value) = vb false from vbool (by simp [eqAll]))
     refine hS.opsC 1 [60] [0, 1, 6, 14] fun _ => seg [(144, vb false)] [(0, none), (1, none), (2, none)] [.t false] trivial fun ac wd hS => ?_
     refine list_nil_seq ?_
     refine hS.condF ?_
     refine wp_skip ?_
     refine pop_block ?_
     refine pop_then ?_
     refine hS.regC [0, 20, 0] [0, 1, 6] fun _ => seg [(14, vi (x14 - 1))] [(0, none), (1, none), (2, none)] [.p (fit .i64 (x14 - 1))] ⟨fit_i64 (by omega), trivial⟩ fun ac wd hS => ?_
     exact pop_then (hS.next ((x14 - 1), F15, (popM mx 40 384)) ⟨(by omega), (by first | exact hP.2 | exact pk_stay i1 (by omega) hk), trivial⟩ (by dsimp only; omega))
    ·
     refine wp_exit ?_
     refine pop_then_exit ?_
     refine pop_then_exit ?_
     refine pop_block_hit ?_
     refine pop_then ?_
     refine wp_region_seq ?_
     refine hS.opsC 1 [200] [] fun _ => seg [(146, .agg #[pt b'2 0, vi 40, vi 384])] [(0, none)] [.e (ν5 0), .e (ν5 0), .e (ν5 0)] trivial fun ac wd hS => ?_
     refine hS.callC 25 #[.agg #[pt b'2 0, vi 40, vi 384]] (cl_Pop b'2 Fx mx 40 384 _ (hS.mem.res 0) (by first | assumption | omega | (simp_all; done) | (simp_all; omega)) (by exact i1.slots.there)) ?_
     rintro _ wd ⟨F16, rfl, hA, hF⟩
     refine ⟨.tuple #[.agg #[vu (pIf mx 40 384 (cId mx 40 (((cCnt mx 40 384 : Nat) : Int) - 1))), v8 (pIf mx 40 384 (cKd mx 40 (((cCnt mx 40 384 : Nat) : Int) - 1))), v8 (pIf mx 40 384 (cLv mx 40 (((cCnt mx 40 384 : Nat) : Int) - 1))), vu (pIf mx 40 384 (cN1 mx 40 (((cCnt mx 40 384 : Nat) : Int) - 1)))], vb (popB mx 40 384)], rfl, ?_⟩
     replace hS := (hS.to (hS.mem.stepA 0 rfl hA hF)).put (d := 147) (v := .tuple #[.agg #[vu (pIf mx 40 384 (cId mx 40 (((cCnt mx 40 384 : Nat) : Int) - 1))), v8 (pIf mx 40 384 (cKd mx 40 (((cCnt mx 40 384 : Nat) : Int) - 1))), v8 (pIf mx 40 384 (cLv mx 40 (((cCnt mx 40 384 : Nat) : Int) - 1))), vu (pIf mx 40 384 (cN1 mx 40 (((cCnt mx 40 384 : Nat) : Int) - 1)))], vb (popB mx 40 384)]) (by decide)
     clear hF
     refine hS.opsC 6 [0, 0, 0, 0, 100, 0] [] fun ν35 => seg [(19, vb (popB mx 40 384))] [(0, none)] [.e (ν35 0), .e (ν35 0), .e (ν35 0), .e (ν35 0)] trivial fun ac wd hS => ?_
     refine list_nil_seq ?_
     refine hS.regS [0, 0, 0] [] fun _ => seg [(4, vb (!(popB mx 40 384)))] [(0, none)] [] trivial fun ac wd hS => ?_
     refine wp_ret ?_
     refine St.retC 0 hS (vb (!(popB mx 40 384))) [] trivial fun hw => ?_
     refine ⟨retd (vbool ?_), hw.fr0⟩
     all_goals (first | rfl | (rw [pk_end i1 (by omega)]; rfl))

set_option maxRecDepth 100000 in
set_option maxHeartbeats 1000000 in
theorem law21_CleanTurns_a0 (g : Nat) (o : Nat) (c : Nat) (n : Nat) (kf : Nat → UInt8) (gk : Nat) (ok : Nat) (ck : Nat) (nk : Nat) (kb : Nat → Bool) (w : World) (hh0 : HE.holds w 1 (.fn 0 64 dbT)) (hh1 : HE.holds w g (.fn o (o + n) (bytes kf o))) (hh2 : HE.holds w gk (.fn ok (ok + nk) (boolsV kb ok))) (hn : n ≤ 9223372036854775807) (hp : (keptK (kqF nk kb) kf n).length = 0) :
    Calls Tryd.prog 5 #[sc g o n c, sc gk ok nk ck] w fun e w' => e = .returned (vb true) ∧ Fr w w' no no := by
 refine enter (args := [sc g o n c, sc gk ok nk ck]) (D := no) (A := []) Tryd.func5 rfl 152 rfl [(1, .fn 0 64 dbT), (g, .fn o (o + n) (bytes kf o)), (gk, .fn ok (ok + nk) (boolsV kb ok))] (WS.startL ⟨⟨rfl, hh0⟩, ⟨rfl, hh1⟩, ⟨rfl, hh2⟩, trivial⟩) fun ac hS => ?_
 refine hS.regS [0] [0, 1] fun _ => seg [] [(0, none), (1, none), (2, none)] [] trivial fun ac wd hS => ?_
 refine wp_seq ?_
 refine wp_region_seq ?_
 refine hS.call0 20 #[] 20 (law21_awake  _ (hS.mem.get 0 1 (.fn 0 64 dbT)) ) fun ac wd hS => ?_
 refine hS.opsC 1 [0] [0, 1] fun _ => seg [(21, vb false)] [(0, none), (1, none), (2, none)] [] trivial fun ac wd hS => ?_
 refine list_nil_seq ?_
 refine hS.condF ?_
 refine wp_skip ?_
 refine pop_then ?_
 refine wp_seq ?_
 refine hS.regS [0, 0, 0] [0, 1] fun _ => seg [(24, vb (decide ((16 : Int) < ((n : Nat) : Int))))] [(0, none), (1, none), (2, none)] [] trivial fun ac wd hS => ?_
 refine hS.condC (decide ((16 : Int) < ((n : Nat) : Int))) (fun hb1o hb1 => ?_) (fun hb1o hb1 => ?_)
 ·
  refine hS.regS [0] [] fun _ => seg [(4, vb true)] [(0, none)] [] trivial fun ac wd hS => ?_
  refine wp_ret ?_
  refine pop_then_ret ?_
  refine St.retC 0 hS (vb true) [] trivial fun hw => ?_
  refine ⟨retd rfl, hw.fr0⟩
 ·
  refine wp_skip ?_
  refine pop_then ?_
  refine wp_region_seq ?_
  refine hS.callC 21 #[vi 384] (law21_open 384 _  (by decide)) ?_
  rintro _ wd ⟨b'2, F3, rfl, hN, hF⟩
  refine ⟨.tuple #[pt b'2 0, .agg #[pt b'2 0, vi 40, vi 384], vb true], rfl, ?_⟩
  replace hS := (hS.to (hS.mem.newA hN hF)).put (d := 26) (v := .tuple #[pt b'2 0, .agg #[pt b'2 0, vi 40, vi 384], vb true]) (by decide)
  clear hF
  refine hS.opsC 8 [0, 0, 0, 0, 0, 0, 300, 0] [0, 1] fun ν5 => seg [(6, pt (ν5 0) 0), (7, vb true)] [(0, none), (1, none), (2, none), (3, some ((ν5 0), .cells [pt b'2 0, vi 40, vi 384] 52))] [.e (ν5 0), .e (ν5 0), .e (ν5 0)] trivial fun ac wd hS => ?_
  refine list_nil_seq ?_
  refine wp_seq ?_
  refine hS.regS [0, 0, 0] [0, 1, 6, 7] fun _ => seg [(30, sc g o n c), (31, vi ((n : Nat) : Int)), (32, vi 0)] [(0, none), (1, none), (2, none), (3, none)] [] trivial fun ac wd hS => ?_
  refine wp_block ?_
  refine St.loopC (σ := Bool × Int × (Nat → Prop) × AM) (fun (x : Bool × Int × (Nat → Prop) × AM) => match x with | (x7, x32, Fx, mx) => ⟨[(0, [], sc g o n c), (1, [], sc gk ok nk ck), (6, [], pt (ν5 0) 0), (7, [], vb x7), (30, [], sc g o n c), (31, [], vi ((n : Nat) : Int)), (32, [], vi x32)], [(1, .fn 0 64 dbT), (g, .fn o (o + n) (bytes kf o)), (gk, .fn ok (ok + nk) (boolsV kb ok)), ((ν5 0), .cells [pt b'2 0, vi 40, vi 384] 52)], [arR b'2 Fx mx], (0 ≤ x32 ∧ x32 ≤ (n : Int)) ∧ (HL mx 40 384 (addsK kf (Int.toNat x32))) ∧ (x7 = true) ∧ True, n - Int.toNat x32⟩) (true, 0, F3, (comM (AM.new 1) 0 1)) ⟨(by omega), (by exact addsK_none kf (page_thr1 (by decide)) (comM_zero (fun _ => rfl) 0 1)), (by rfl), trivial⟩ hS ?_
  clear hS
  rintro ⟨x7, x32, Fx, mx⟩ ⟨i0, i1, i2, -⟩ ac wd hS
  replace i0 : 0 ≤ x32 ∧ x32 ≤ (n : Int) := i0
  replace i1 : HL mx 40 384 (addsK kf (Int.toNat x32)) := i1
  replace i2 : x7 = true := i2
  have hkf := (kf (Int.toNat x32)).toNat_lt
  have hwr := wrap_u64_rng ((((kf (Int.toNat x32)).toNat : Nat) : Int) * 2 ^ 50)
  refine hS.regS [0] [0, 1, 6, 7, 30, 31, 32] fun _ => seg [(33, vb (decide ((x32 : Int) < ((n : Nat) : Int))))] [(0, none), (1, none), (2, none), (3, none)] [] trivial fun ac wd hS => ?_
  refine wp_seq ?_
  refine hS.condC (decide ((x32 : Int) < ((n : Nat) : Int))) (fun hb4o hb4 => ?_) (fun hb4o hb4 => ?_)
  ·
   refine wp_skip ?_
   refine pop_then ?_
   refine wp_seq ?_
   refine wp_block ?_
   refine hS.regS [0, 20, fx 100 (v8 (((kf (Int.toNat x32)).toNat : Nat) : Int)), 0, 0] [0, 1, 6, 7, 30, 31, 32] fun _ => seg [(8, vi x32), (9, v8 (((kf (Int.toNat x32)).toNat : Nat) : Int))] [(0, none), (1, none), (2, none), (3, none)] [.p ((((bytes kf o) (o + Int.toNat x32 * 1)) : Value) = v8 (((kf (Int.toNat x32)).toNat : Nat) : Int)), .e g, .p (o ≤ o + Int.toNat x32 * 1 ∧ o + Int.toNat x32 * 1 < (o + n)), .p ((0 : Int) ≤ x32 ∧ (x32 : Int) < ((n : Nat) : Int))] ⟨(bytes_rel kf o (Int.toNat x32)), (by omega), (by omega), trivial⟩ fun ac wd hS => ?_
   refine wp_region_lit ?_
   refine hS.opsC 2 [0, 0] [0, 1, 6, 7, 8, 9, 30, 31, 32] fun _ => seg [(38, vb x7)] [(0, none), (1, none), (2, none), (3, none)] [] trivial fun ac wd hS => ?_
   have hg5o : x7 = true := by exact i2
   replace hS := hS.fix 7 (vb true) (congrArg Value.bool hg5o)
   replace hS := hS.fix 38 (vb true) (congrArg Value.bool hg5o)
   refine hS.opsC 11 [301, 1, 21, 21, 1, 1, 21, 1, 21, 1, 1] [0, 1, 6, 7, 30, 31, 32, 38] fun _ => seg [(39, .agg #[pt b'2 0, vi 40, vi 384]), (49, .agg #[vu (x32 + 1), v8 (((kf (Int.toNat x32)).toNat : Nat) : Int), v8 ((((kf (Int.toNat x32)).toNat) / 2 : Nat) : Int), vu (IntKind.wrap .u64 ((((kf (Int.toNat x32)).toNat : Nat) : Int) * 2 ^ 50))])] [(0, none), (1, none), (2, none), (3, none)] [.t true, .t true, .t true, .p (fit .u64 (((kf (Int.toNat x32)).toNat : Nat) : Int)), .t true, .t true, .p ((2 : Int) ≠ 0 ∧ IntKind.u8.wrap (Int.tdiv (((kf (Int.toNat x32)).toNat : Nat) : Int) 2) = ((((kf (Int.toNat x32)).toNat) / 2 : Nat) : Int)), .t true, .t true, .t true, .p (fit .u64 (x32 + 1)), .t true, .p (fit .i64 (x32 + 1)), .t true, .t true, .e (ν5 0), .e (ν5 0), .e (ν5 0)] ⟨fit_u64 (by omega), quo2_n_u8 (d := 2) (by omega) (by omega), fit_u64 (by omega), fit_i64 (by omega), trivial⟩ fun ac wd hS => ?_
   refine hS.callG true 22 #[.agg #[pt b'2 0, vi 40, vi 384], .agg #[vu (x32 + 1), v8 (((kf (Int.toNat x32)).toNat : Nat) : Int), v8 ((((kf (Int.toNat x32)).toNat) / 2 : Nat) : Int), vu (IntKind.wrap .u64 ((((kf (Int.toNat x32)).toNat : Nat) : Int) * 2 ^ 50))]] (cl_Add b'2 Fx mx 40 384 (x32 + 1) (((kf (Int.toNat x32)).toNat : Nat) : Int) ((((kf (Int.toNat x32)).toNat) / 2 : Nat) : Int) (IntKind.wrap .u64 ((((kf (Int.toNat x32)).toNat : Nat) : Int) * 2 ^ 50)) _ (hS.mem.res 0) (by first | assumption | omega | (simp_all; done) | (simp_all; omega)) (by exact i1.slots.there) (by first | assumption | omega | (simp_all; done) | (simp_all; omega))) ?_
   rintro _ wd ⟨F6, rfl, hA, hF⟩
   refine ⟨vi (addE mx 40 384 (x32 + 1)), rfl, ?_⟩
   replace hS := (hS.to (hS.mem.stepA 0 rfl hA hF)).put (d := 50) (v := vi (addE mx 40 384 (x32 + 1))) (by decide)
   clear hF
   refine hS.opsC 3 [1, 70, 0] [0, 1, 6, 30, 31, 32] fun _ => seg [(7, vb (((addE mx 40 384 (x32 + 1)) : Int) == 0))] [(0, none), (1, none), (2, none), (3, none)] [.t true, .t true] trivial fun ac wd hS => ?_
   refine list_nil ?_
   refine pop_block ?_
   refine pop_then ?_
   refine hS.regC [20, 0] [0, 1, 6, 7, 30, 31] fun _ => seg [(32, vi (x32 + 1))] [(0, none), (1, none), (2, none), (3, none)] [.p (fit .i64 (x32 + 1))] ⟨fit_i64 (by omega), trivial⟩ fun ac wd hS => ?_
   exact pop_then (hS.next ((((addE mx 40 384 (x32 + 1)) : Int) == 0), (x32 + 1), F6, (addM mx 40 384 (x32 + 1) (((kf (Int.toNat x32)).toNat : Nat) : Int) ((((kf (Int.toNat x32)).toNat) / 2 : Nat) : Int) (IntKind.wrap .u64 ((((kf (Int.toNat x32)).toNat : Nat) : Int) * 2 ^ 50)))) ⟨(by omega), (by exact (addsK_step i1 i0.1 (by omega)).2), (by rw [(addsK_step i1 i0.1 (by omega)).1]; rfl), trivial⟩ (by dsimp only; omega))
  ·
   refine wp_exit ?_
   refine pop_then_exit ?_
   refine pop_then_exit ?_
   refine pop_block_hit ?_
   refine pop_then ?_
   refine hS.regS [0] [0, 1, 6, 7] fun _ => seg [(10, vi 0)] [(0, none), (1, none), (2, none), (3, none)] [] trivial fun ac wd hS => ?_
   refine wp_seq ?_
   refine hS.regS [0, 0, 0] [0, 1, 6, 7, 10] fun _ => seg [(55, vi ((n : Nat) : Int)), (56, vi 0)] [(0, none), (1, none), (2, none), (3, none)] [] trivial fun ac wd hS => ?_
   refine wp_block ?_
   refine St.loopC (σ := Int × Int × (Nat → Prop) × AM) (fun (x : Int × Int × (Nat → Prop) × AM) => match x with | (x10, x56, Fx, mx) => ⟨[(0, [], sc g o n c), (1, [], sc gk ok nk ck), (6, [], pt (ν5 0) 0), (7, [], vb x7), (10, [], vi x10), (55, [], vi ((n : Nat) : Int)), (56, [], vi x56)], [(1, .fn 0 64 dbT), (g, .fn o (o + n) (bytes kf o)), (gk, .fn ok (ok + nk) (boolsV kb ok)), ((ν5 0), .cells [pt b'2 0, vi 40, vi 384] 52)], [arR b'2 Fx mx], (0 ≤ x56 ∧ x56 ≤ (n : Int)) ∧ (HL mx 40 384 (ksK (kqF nk kb) kf n x56)) ∧ (x10 = x56 - (((keptK (kqF nk kb) kf (Int.toNat x56)).length : Nat) : Int)) ∧ True, n - Int.toNat x56⟩) (0, 0, Fx, mx) ⟨(by omega), (by exact ks_start i1 (by omega)), (by rfl), trivial⟩ hS ?_
   clear hS
   rintro ⟨x10, x56, Fx, mx⟩ ⟨i0, i1, j2, -⟩ ac wd hS
   replace i0 : 0 ≤ x56 ∧ x56 ≤ (n : Int) := i0
   replace i1 : HL mx 40 384 (ksK (kqF nk kb) kf n x56) := i1
   replace j2 : x10 = x56 - (((keptK (kqF nk kb) kf (Int.toNat x56)).length : Nat) : Int) := j2
   have hkl := keptK_le (kqF nk kb) kf (Int.toNat x56)
   refine hS.regS [0] [0, 1, 6, 7, 10, 55, 56] fun _ => seg [(57, vb (decide ((x56 : Int) < ((n : Nat) : Int))))] [(0, none), (1, none), (2, none), (3, none)] [] trivial fun ac wd hS => ?_
   refine wp_seq ?_
   refine hS.condC (decide ((x56 : Int) < ((n : Nat) : Int))) (fun hb7o hb7 => ?_) (fun hb7o hb7 => ?_)
   ·
    refine wp_skip ?_
    refine pop_then ?_
    refine wp_seq ?_
    refine wp_block ?_
    refine hS.regS [0, 0] [0, 1, 6, 7, 10, 55, 56] fun _ => seg [(11, vi x56)] [(0, none), (1, none), (2, none), (3, none)] [] trivial fun ac wd hS => ?_
    refine hS.regS [0, 0, 0, 0, 0, 3, 3, 23, fx 203 (vb (kb (Int.toNat x56))), 80] [0, 1, 6, 7, 10, 11, 55, 56] fun _ => seg [(68, vb ((decide ((x56 : Int) < ((nk : Nat) : Int))) && (kb (Int.toNat x56))))] [(0, none), (1, none), (2, none), (3, none)] [.p ((((decide ((x56 : Int) < ((nk : Nat) : Int))) = true) ∧ True) → AllP [(((boolsV kb ok) (ok + Int.toNat x56 * 1)) : Value) = vb (kb (Int.toNat x56)), (gk : Nat) = gk, ok ≤ ok + Int.toNat x56 * 1 ∧ ok + Int.toNat x56 * 1 < (ok + nk)]), .p ((((decide ((x56 : Int) < ((nk : Nat) : Int))) = true) ∧ True) → AllP [(0 : Int) ≤ x56 ∧ (x56 : Int) < ((nk : Nat) : Int)])] ⟨(fun ⟨hc0, _⟩ => by replace hc0 := nrm hc0; exact ⟨(boolsV_rel kb ok (Int.toNat x56)), rfl, (by omega), trivial⟩), (fun ⟨hc0, _⟩ => by replace hc0 := nrm hc0; exact ⟨(by omega), trivial⟩), trivial⟩ fun ac wd hS => ?_
    refine hS.condC ((decide ((x56 : Int) < ((nk : Nat) : Int))) && (kb (Int.toNat x56))) (fun hb8o hb8 => ?_) (fun hb8o hb8 => ?_)
    ·
     have hk : kqF nk kb (Int.toNat x56) = true := by unfold kqF; rw [Int.toNat_of_nonneg (by omega)]; exact hb8o
     have hK := ks_kill i1 i0.1 (by omega) hk
     refine wp_region_seq ?_
     refine hS.opsC 4 [300, 0, 20, 20] [0, 1, 6, 7, 10, 11, 55, 56] fun _ => seg [(70, .agg #[pt b'2 0, vi 40, vi 384]), (73, vu (x56 + 1))] [(0, none), (1, none), (2, none), (3, none)] [.p (fit .u64 (x56 + 1)), .p (fit .i64 (x56 + 1)), .e (ν5 0), .e (ν5 0), .e (ν5 0)] ⟨fit_u64 (by omega), fit_i64 (by omega), trivial⟩ fun ac wd hS => ?_
     refine hS.callC 23 #[.agg #[pt b'2 0, vi 40, vi 384], vu (x56 + 1)] (cl_Kill_v b'2 Fx mx 40 384 (x56 + 1) (((kf (Int.toNat x56)).toNat : Nat) : Int) ((((kf (Int.toNat x56)).toNat) / 2 : Nat) : Int) (IntKind.wrap .u64 ((((kf (Int.toNat x56)).toNat : Nat) : Int) * 2 ^ 50)) _ (hS.mem.res 0) (by first | assumption | omega | (simp_all; done) | (simp_all; omega)) (by exact i1.slots.there) (by exact hK.1)) ?_
     rintro _ wd ⟨F9, rfl, hA, hF⟩
     refine ⟨.tuple #[.agg #[vu (x56 + 1), v8 (((kf (Int.toNat x56)).toNat : Nat) : Int), v8 ((((kf (Int.toNat x56)).toNat) / 2 : Nat) : Int), vu (IntKind.wrap .u64 ((((kf (Int.toNat x56)).toNat : Nat) : Int) * 2 ^ 50))], vi 0], rfl, ?_⟩
     replace hS := (hS.to (hS.mem.stepA 0 rfl hA hF)).put (d := 74) (v := .tuple #[.agg #[vu (x56 + 1), v8 (((kf (Int.toNat x56)).toNat : Nat) : Int), v8 ((((kf (Int.toNat x56)).toNat) / 2 : Nat) : Int), vu (IntKind.wrap .u64 ((((kf (Int.toNat x56)).toNat : Nat) : Int) * 2 ^ 50))], vi 0]) (by decide)
     clear hF
     refine hS.opsC 6 [0, 0, 0, 0, 400, 0] [0, 1, 6, 7, 10, 11, 55, 56] fun ν19 => seg [(12, pt (ν19 0) 0), (13, vi 0)] [(0, none), (1, none), (2, none), (3, none), (4, some ((ν19 0), .cells [vu (x56 + 1), v8 (((kf (Int.toNat x56)).toNat : Nat) : Int), v8 ((((kf (Int.toNat x56)).toNat) / 2 : Nat) : Int), vu (IntKind.wrap .u64 ((((kf (Int.toNat x56)).toNat : Nat) : Int) * 2 ^ 50))] 59))] [.e (ν19 0), .e (ν19 0), .e (ν19 0), .e (ν19 0)] trivial fun ac wd hS => ?_
     refine list_nil_seq ?_
     refine wp_seq ?_
     refine hS.drawS [0, 0, 0, 1, 401, 1, 1, 21, fx 101 (v8 (((kf (Int.toNat x56)).toNat : Nat) : Int)), fx 1 (vb false), 60] [0, 1, 6, 7, 10, 55, 56] <| seg [(87, vb false)] [(0, none), (1, none), (2, none), (3, none)] [.t false, .t false, .p ((vb (((((kf (Int.toNat x56)).toNat : Nat) : Int) : Int) != (((kf (Int.toNat x56)).toNat : Nat) : Int)) : Value) = vb false), .t false, .p ((((bytes kf o) (o + Int.toNat x56 * 1)) : Value) = v8 (((kf (Int.toNat x56)).toNat : Nat) : Int)), .e g, .p (o ≤ o + Int.toNat x56 * 1 ∧ o + Int.toNat x56 * 1 < (o + n)), .t false, .p ((0 : Int) ≤ x56 ∧ (x56 : Int) < ((n : Nat) : Int)), .t false, .t false, .t false, .e (ν19 0), .t false] ⟨(congrArg Value.bool (bne_self_eq_false _)), (bytes_rel kf o (Int.toNat x56)), (by omega), (by omega), trivial⟩ fun ac wd hS => ?_
     refine hS.condF ?_
     refine wp_skip ?_
     refine pop_then ?_
     refine hS.regC [0, 20, 0] [0, 1, 6, 7, 55, 56] fun _ => seg [(10, vi (x10 + 1))] [(0, none), (1, none), (2, none), (3, none)] [.p (fit .i64 (x10 + 1))] ⟨fit_i64 (by omega), trivial⟩ fun ac wd hS => ?_
     refine pop_block ?_
     refine pop_then ?_
     refine hS.regC [20, 0] [0, 1, 6, 7, 10, 55] fun _ => seg [(56, vi (x56 + 1))] [(0, none), (1, none), (2, none), (3, none)] [.p (fit .i64 (x56 + 1))] ⟨fit_i64 (by omega), trivial⟩ fun ac wd hS => ?_
     exact pop_then (hS.next ((x10 + 1), (x56 + 1), F9, (killM mx 40 384 (x56 + 1))) ⟨(by omega), (by first | exact hK.2 | exact ks_stay i1 i0.1 (by omega) hk), (by first | exact kd_yes hk i0.1 j2 | exact kd_no hk i0.1 j2), trivial⟩ (by dsimp only; omega))
    ·
     have hk : kqF nk kb (Int.toNat x56) = false := by unfold kqF; rw [Int.toNat_of_nonneg (by omega)]; exact hb8o
     refine wp_skip ?_
     refine pop_block ?_
     refine pop_then ?_
     refine hS.regC [20, 0] [0, 1, 6, 7, 10, 55] fun _ => seg [(56, vi (x56 + 1))] [(0, none), (1, none), (2, none), (3, none)] [.p (fit .i64 (x56 + 1))] ⟨fit_i64 (by omega), trivial⟩ fun ac wd hS => ?_
     exact pop_then (hS.next (x10, (x56 + 1), Fx, mx) ⟨(by omega), (by first | exact hK.2 | exact ks_stay i1 i0.1 (by omega) hk), (by first | exact kd_yes hk i0.1 j2 | exact kd_no hk i0.1 j2), trivial⟩ (by dsimp only; omega))
   ·
    have hE := ks_end i1 (by omega)
    refine wp_exit ?_
    refine pop_then_exit ?_
    refine pop_then_exit ?_
    refine pop_block_hit ?_
    refine pop_then ?_
    refine wp_seq ?_
    refine wp_region_seq ?_
    refine hS.opsC 3 [0, 0, 0] [0, 1, 6, 10] fun _ => seg [(93, vb (!x7))] [(0, none), (1, none), (2, none), (3, none)] [] trivial fun ac wd hS => ?_
    have hg10o : (!x7) = false := by rw [i2]; rfl
    replace hS := hS.fix 93 (vb false) (congrArg Value.bool hg10o)
    refine hS.opsC 1 [301] [0, 1, 6, 10, 93] fun _ => seg [(94, .agg #[pt b'2 0, vi 40, vi 384])] [(0, none), (1, none), (2, none), (3, none)] [.t false, .e (ν5 0), .e (ν5 0), .e (ν5 0)] trivial fun ac wd hS => ?_
    refine hS.callG false 24 #[.agg #[pt b'2 0, vi 40, vi 384]] (cl_All_none b'2 Fx mx 40 384 _ (hS.mem.res 0) (by first | assumption | omega | (simp_all; done) | (simp_all; omega)) (by exact i1.slots.there) (by rw [hE.2]; exact hp)) ?_
    rintro _ wd ⟨rfl, hF⟩
    refine ⟨vnil, rfl, ?_⟩
    replace hS := (hS.to (hS.mem.keep0 hF)).put (d := 95) (v := vnil) (by decide)
    clear hF
    refine hS.opsC 7 [1, 1, 1, 1, 21, 1, 60] [0, 1, 6] fun _ => seg [(102, vb ((0 : Int) != (((n : Nat) : Int) - x10)))] [(0, none), (1, none), (2, none), (3, none)] [.t false, .t false, .t false, .p (fit .i64 (((n : Nat) : Int) - x10)), .t false, .t false, .t false, .t false] ⟨fit_i64 (by omega), trivial⟩ fun ac wd hS => ?_
    refine list_nil_seq ?_
    refine hS.condK ((0 : Int) != (((n : Nat) : Int) - x10)) false (by (have h1 := hE.2; have h2 := j2; rw [show x56 = (n : Int) by omega, Int.toNat_natCast] at h2; first | (rw [h1]; exact bne_eq_false_iff_eq.2 (by omega)) | exact bne_eq_false_iff_eq.2 (by omega))) ?_
    show Code.wp _ _ _ _ _
    refine wp_skip ?_
    refine pop_then ?_
    refine wp_seq ?_
    refine hS.regS [0, 0, 20, 0] [0, 1, 6] fun _ => seg [(14, vi (((n : Nat) : Int) - 1))] [(0, none), (1, none), (2, none), (3, none)] [.p (fit .i64 (((n : Nat) : Int) - 1))] ⟨fit_i64 (by omega), trivial⟩ fun ac wd hS => ?_
    refine wp_block ?_
    refine St.loopC (σ := Int × (Nat → Prop) × AM) (fun (x : Int × (Nat → Prop) × AM) => match x with | (x14, Fx, mx) => ⟨[(0, [], sc g o n c), (1, [], sc gk ok nk ck), (6, [], pt (ν5 0) 0), (14, [], vi x14)], [(1, .fn 0 64 dbT), (g, .fn o (o + n) (bytes kf o)), (gk, .fn ok (ok + nk) (boolsV kb ok)), ((ν5 0), .cells [pt b'2 0, vi 40, vi 384] 52)], [arR b'2 Fx mx], (-1 ≤ x14 ∧ x14 < (n : Int)) ∧ (HL mx 40 384 (keptK (kqF nk kb) kf (Int.toNat (x14 + 1)))) ∧ True, Int.toNat (x14 + 1)⟩) ((((n : Nat) : Int) - 1), Fx, mx) ⟨(by omega), (by rw [show Int.toNat (((n : Nat) : Int) - 1 + 1) = n by omega]; exact hE.1), trivial⟩ hS ?_
    clear hS
    rintro ⟨x14, Fx, mx⟩ ⟨i0, i1, -⟩ ac wd hS
    replace i0 : -1 ≤ x14 ∧ x14 < (n : Int) := i0
    replace i1 : HL mx 40 384 (keptK (kqF nk kb) kf (Int.toNat (x14 + 1))) := i1
    have hkf := (kf (Int.toNat x14)).toNat_lt
    have hwr := wrap_u64_rng ((((kf (Int.toNat x14)).toNat : Nat) : Int) * 2 ^ 50)
    refine wp_seq ?_
    refine hS.regS [0, 0] [0, 1, 6, 14] fun _ => seg [(107, vb (decide ((0 : Int) ≤ x14)))] [(0, none), (1, none), (2, none), (3, none)] [] trivial fun ac wd hS => ?_
    refine hS.condC (decide ((0 : Int) ≤ x14)) (fun hb11o hb11 => ?_) (fun hb11o hb11 => ?_)
    ·
     refine wp_skip ?_
     refine pop_then ?_
     refine wp_seq ?_
     refine wp_block ?_
     refine wp_seq ?_
     refine hS.regS [0, 0, 0, 0, 0, 3, 3, 23, fx 203 (vb (kb (Int.toNat x14))), 80] [0, 1, 6, 14] fun _ => seg [(119, vb ((decide ((x14 : Int) < ((nk : Nat) : Int))) && (kb (Int.toNat x14))))] [(0, none), (1, none), (2, none), (3, none)] [.p ((((decide ((x14 : Int) < ((nk : Nat) : Int))) = true) ∧ True) → AllP [(((boolsV kb ok) (ok + Int.toNat x14 * 1)) : Value) = vb (kb (Int.toNat x14)), (gk : Nat) = gk, ok ≤ ok + Int.toNat x14 * 1 ∧ ok + Int.toNat x14 * 1 < (ok + nk)]), .p ((((decide ((x14 : Int) < ((nk : Nat) : Int))) = true) ∧ True) → AllP [(0 : Int) ≤ x14 ∧ (x14 : Int) < ((nk : Nat) : Int)])] ⟨(fun ⟨hc0, _⟩ => by replace hc0 := nrm hc0; exact ⟨(boolsV_rel kb ok (Int.toNat x14)), rfl, (by omega), trivial⟩), (fun ⟨hc0, _⟩ => by replace hc0 := nrm hc0; exact ⟨(by omega), trivial⟩), trivial⟩ fun ac wd hS => ?_
     refine hS.condC ((decide ((x14 : Int) < ((nk : Nat) : Int))) && (kb (Int.toNat x14))) (fun hb12o hb12 => ?_) (fun hb12o hb12 => ?_)
     ·
      have hk : kqF nk kb (Int.toNat x14) = true := by unfold kqF; rw [Int.toNat_of_nonneg (by omega)]; exact hb12o
      refine wp_exit ?_
      refine pop_then_exit ?_
      refine pop_block_hit ?_
      refine pop_then ?_
      refine hS.regC [0, 20, 0] [0, 1, 6] fun _ => seg [(14, vi (x14 - 1))] [(0, none), (1, none), (2, none), (3, none)] [.p (fit .i64 (x14 - 1))] ⟨fit_i64 (by omega), trivial⟩ fun ac wd hS => ?_
      exact pop_then (hS.next ((x14 - 1), Fx, mx) ⟨(by omega), (by first | exact hP.2 | exact pk_stay i1 (by omega) hk), trivial⟩ (by dsimp only; omega))
     ·
      have hk : kqF nk kb (Int.toNat x14) = false := by unfold kqF; rw [Int.toNat_of_nonneg (by omega)]; exact hb12o
      have hP := pk_pop i1 (by omega) hk
      refine wp_skip ?_
      refine pop_then ?_
      refine wp_region_seq ?_
      refine hS.opsC 1 [300] [0, 1, 6, 14] fun _ => seg [(121, .agg #[pt b'2 0, vi 40, vi 384])] [(0, none), (1, none), (2, none), (3, none)] [.e (ν5 0), .e (ν5 0), .e (ν5 0)] trivial fun ac wd hS => ?_
      refine hS.callC 25 #[.agg #[pt b'2 0, vi 40, vi 384]] (cl_Pop_v b'2 Fx mx 40 384 (x14 + 1) (((kf (Int.toNat x14)).toNat : Nat) : Int) ((((kf (Int.toNat x14)).toNat) / 2 : Nat) : Int) (IntKind.wrap .u64 ((((kf (Int.toNat x14)).toNat : Nat) : Int) * 2 ^ 50)) _ (hS.mem.res 0) (by first | assumption | omega | (simp_all; done) | (simp_all; omega)) (by exact i1.slots.there) (by exact hP.1)) ?_
      rintro _ wd ⟨F13, rfl, hA, hF⟩
      refine ⟨.tuple #[.agg #[vu (x14 + 1), v8 (((kf (Int.toNat x14)).toNat : Nat) : Int), v8 ((((kf (Int.toNat x14)).toNat) / 2 : Nat) : Int), vu (IntKind.wrap .u64 ((((kf (Int.toNat x14)).toNat : Nat) : Int) * 2 ^ 50))], vb true], rfl, ?_⟩
      replace hS := (hS.to (hS.mem.stepA 0 rfl hA hF)).put (d := 122) (v := .tuple #[.agg #[vu (x14 + 1), v8 (((kf (Int.toNat x14)).toNat : Nat) : Int), v8 ((((kf (Int.toNat x14)).toNat) / 2 : Nat) : Int), vu (IntKind.wrap .u64 ((((kf (Int.toNat x14)).toNat : Nat) : Int) * 2 ^ 50))], vb true]) (by decide)
      clear hF
      refine hS.opsC 6 [0, 0, 0, 0, 400, 0] [0, 1, 6, 14] fun ν32 => seg [(15, pt (ν32 0) 0), (16, vb true)] [(0, none), (1, none), (2, none), (3, none), (4, some ((ν32 0), .cells [vu (x14 + 1), v8 (((kf (Int.toNat x14)).toNat : Nat) : Int), v8 ((((kf (Int.toNat x14)).toNat) / 2 : Nat) : Int), vu (IntKind.wrap .u64 ((((kf (Int.toNat x14)).toNat : Nat) : Int) * 2 ^ 50))] 59))] [.e (ν32 0), .e (ν32 0), .e (ν32 0), .e (ν32 0)] trivial fun ac wd hS => ?_
      refine list_nil_seq ?_
      refine hS.regS [0, 0, 20, fx 100 (v8 (((kf (Int.toNat x14)).toNat : Nat) : Int)), 0] [0, 1, 6, 14, 15, 16] fun _ => seg [(17, v8 (((kf (Int.toNat x14)).toNat : Nat) : Int))] [(0, none), (1, none), (2, none), (3, none), (4, none)] [.p ((((bytes kf o) (o + Int.toNat x14 * 1)) : Value) = v8 (((kf (Int.toNat x14)).toNat : Nat) : Int)), .e g, .p (o ≤ o + Int.toNat x14 * 1 ∧ o + Int.toNat x14 * 1 < (o + n)), .p ((0 : Int) ≤ x14 ∧ (x14 : Int) < ((n : Nat) : Int))] ⟨(bytes_rel kf o (Int.toNat x14)), (by omega), (by omega), trivial⟩ fun ac wd hS => ?_
      refine wp_region_seq ?_
      refine hS.opsC 3 [0, 0, 0] [0, 1, 6, 14, 15, 17] fun _ => seg [(131, vb false)] [(0, none), (1, none), (2, none), (3, none), (4, none)] [] trivial fun ac wd hS => ?_
      refine hS.opsC 11 [401, 1, 21, 21, 1, 1, 21, 1, 21, 1, 1] [0, 1, 6, 14, 131] fun _ => seg [(132, .agg #[vu (x14 + 1), v8 (((kf (Int.toNat x14)).toNat : Nat) : Int), v8 ((((kf (Int.toNat x14)).toNat) / 2 : Nat) : Int), vu (IntKind.wrap .u64 ((((kf (Int.toNat x14)).toNat : Nat) : Int) * 2 ^ 50))]), (142, .agg #[vu (x14 + 1), v8 (((kf (Int.toNat x14)).toNat : Nat) : Int), v8 ((((kf (Int.toNat x14)).toNat) / 2 : Nat) : Int), vu (IntKind.wrap .u64 ((((kf (Int.toNat x14)).toNat : Nat) : Int) * 2 ^ 50))])] [(0, none), (1, none), (2, none), (3, none)] [.t false, .t false, .t false, .p (fit .u64 (((kf (Int.toNat x14)).toNat : Nat) : Int)), .t false, .t false, .p ((2 : Int) ≠ 0 ∧ IntKind.u8.wrap (Int.tdiv (((kf (Int.toNat x14)).toNat : Nat) : Int) 2) = ((((kf (Int.toNat x14)).toNat) / 2 : Nat) : Int)), .t false, .t false, .t false, .p (fit .u64 (x14 + 1)), .t false, .p (fit .i64 (x14 + 1)), .t false, .t false, .e (ν32 0), .e (ν32 0), .e (ν32 0), .e (ν32 0)] ⟨fit_u64 (by omega), quo2_n_u8 (d := 2) (by omega) (by omega), fit_u64 (by omega), fit_i64 (by omega), trivial⟩ fun ac wd hS => ?_
      refine Runs1.listG hS 131 false ?_ (by decide)
      refine St.binS hS .neq (.tmp 132) (.tmp 142) 59 59 rfl rfl (by decide) (xs := #[vu (x14 + 1), v8 (((kf (Int.toNat x14)).toNat : Nat) : Int), v8 ((((kf (Int.toNat x14)).toNat) / 2 : Nat) : Int), vu (IntKind.wrap .u64 ((((kf (Int.toNat x14)).toNat : Nat) : Int) * 2 ^ 50))]) (ys := #[vu (x14 + 1), v8 (((kf (Int.toNat x14)).toNat : Nat) : Int), v8 ((((kf (Int.toNat x14)).toNat) / 2 : Nat) : Int), vu (IntKind.wrap .u64 ((((kf (Int.toNat x14)).toNat : Nat) : Int) * 2 ^ 50))]) (r := vb (!(eqAll [(((x14 + 1) : Int), ((x14 + 1) : Int)), (((((kf (Int.toNat x14)).toNat : Nat) : Int) : Int), ((((kf (Int.toNat x14)).toNat : Nat) : Int) : Int)), ((((((kf (Int.toNat x14)).toNat) / 2 : Nat) : Int) : Int), (((((kf (Int.toNat x14)).toNat) / 2 : Nat) : Int) : Int)), (((IntKind.wrap .u64 ((((kf (Int.toNat x14)).toNat : Nat) : Int) * 2 ^ 50)) : Int), ((IntKind.wrap .u64 ((((kf (Int.toNat x14)).toNat : Nat) : Int) * 2 ^ 50)) : Int))]))) (fun w => run_neS (l := [(((x14 + 1) : Int), ((x14 + 1) : Int)), (((((kf (Int.toNat x14)).toNat : Nat) : Int) : Int), ((((kf (Int.toNat x14)).toNat : Nat) : Int) : Int)), ((((((kf (Int.toNat x14)).toNat) / 2 : Nat) : Int) : Int), (((((kf (Int.toNat x14)).toNat) / 2 : Nat) : Int) : Int)), (((IntKind.wrap .u64 ((((kf (Int.toNat x14)).toNat : Nat) : Int) * 2 ^ 50)) : Int), ((IntKind.wrap .u64 ((((kf (Int.toNat x14)).toNat : Nat) : Int) * 2 ^ 50)) : Int))]) w (by as_aux_lemma => kernel_rfl) (by as_aux_lemma => kernel_rfl) (by as_aux_lemma => kernel_rfl)) (by as_aux_lemma => kernel_rfl) fun ac hS => ?_
      replace hS := hS.fix 143 (vb false) (show (vb (!(eqAll [(((x14 + 1) : Int), ((x14 + 1) : Int)), (((((kf (Int.toNat x14)).toNat : Nat) : Int) : Int), ((((kf (Int.toNat x14)).toNat : Nat) : Int) : Int)), ((((((kf (Int.toNat x14)).toNat) / 2 : Nat) : Int) : Int), (((((kf (Int.toNat x14)).toNat) / 2 : Nat) : Int) : Int)), (((IntKind.wrap .u64 ((((kf (Int.toNat x14)).toNat : Nat) : Int) * 2 ^ 50)) : Int), ((IntKind.wrap .u64 ((((kf (Int.toNat x14)).toNat : Nat) : Int) * 2 ^ 50)) : Int))])) : Value) = vb false from vbool (by simp [eqAll]))
      refine hS.opsC 1 [60] [0, 1, 6, 14] fun _ => seg [(144, vb false)] [(0, none), (1, none), (2, none), (3, none)] [.t false] trivial fun ac wd hS => ?_
      refine list_nil_seq ?_
      refine hS.condF ?_
      refine wp_skip ?_
      refine pop_block ?_
      refine pop_then ?_
      refine hS.regC [0, 20, 0] [0, 1, 6] fun _ => seg [(14, vi (x14 - 1))] [(0, none), (1, none), (2, none), (3, none)] [.p (fit .i64 (x14 - 1))] ⟨fit_i64 (by omega), trivial⟩ fun ac wd hS => ?_
      exact pop_then (hS.next ((x14 - 1), F13, (popM mx 40 384)) ⟨(by omega), (by first | exact hP.2 | exact pk_stay i1 (by omega) hk), trivial⟩ (by dsimp only; omega))
    ·
     refine wp_exit ?_
     refine pop_then_exit ?_
     refine pop_then_exit ?_
     refine pop_block_hit ?_
     refine pop_then ?_
     refine wp_region_seq ?_
     refine hS.opsC 1 [300] [] fun _ => seg [(146, .agg #[pt b'2 0, vi 40, vi 384])] [(0, none)] [.e (ν5 0), .e (ν5 0), .e (ν5 0)] trivial fun ac wd hS => ?_
     refine hS.callC 25 #[.agg #[pt b'2 0, vi 40, vi 384]] (cl_Pop b'2 Fx mx 40 384 _ (hS.mem.res 0) (by first | assumption | omega | (simp_all; done) | (simp_all; omega)) (by exact i1.slots.there)) ?_
     rintro _ wd ⟨F14, rfl, hA, hF⟩
     refine ⟨.tuple #[.agg #[vu (pIf mx 40 384 (cId mx 40 (((cCnt mx 40 384 : Nat) : Int) - 1))), v8 (pIf mx 40 384 (cKd mx 40 (((cCnt mx 40 384 : Nat) : Int) - 1))), v8 (pIf mx 40 384 (cLv mx 40 (((cCnt mx 40 384 : Nat) : Int) - 1))), vu (pIf mx 40 384 (cN1 mx 40 (((cCnt mx 40 384 : Nat) : Int) - 1)))], vb (popB mx 40 384)], rfl, ?_⟩
     replace hS := (hS.to (hS.mem.stepA 0 rfl hA hF)).put (d := 147) (v := .tuple #[.agg #[vu (pIf mx 40 384 (cId mx 40 (((cCnt mx 40 384 : Nat) : Int) - 1))), v8 (pIf mx 40 384 (cKd mx 40 (((cCnt mx 40 384 : Nat) : Int) - 1))), v8 (pIf mx 40 384 (cLv mx 40 (((cCnt mx 40 384 : Nat) : Int) - 1))), vu (pIf mx 40 384 (cN1 mx 40 (((cCnt mx 40 384 : Nat) : Int) - 1)))], vb (popB mx 40 384)]) (by decide)
     clear hF
     refine hS.opsC 6 [0, 0, 0, 0, 100, 0] [] fun ν39 => seg [(19, vb (popB mx 40 384))] [(0, none)] [.e (ν39 0), .e (ν39 0), .e (ν39 0), .e (ν39 0)] trivial fun ac wd hS => ?_
     refine list_nil_seq ?_
     refine hS.regS [0, 0, 0] [] fun _ => seg [(4, vb (!(popB mx 40 384)))] [(0, none)] [] trivial fun ac wd hS => ?_
     refine wp_ret ?_
     refine St.retC 0 hS (vb (!(popB mx 40 384))) [] trivial fun hw => ?_
     refine ⟨retd (vbool ?_), hw.fr0⟩
     all_goals (first | rfl | (rw [pk_end i1 (by omega)]; rfl))

set_option maxRecDepth 100000 in
set_option maxHeartbeats 1000000 in
theorem law21_CleanTurns_b0 (g : Nat) (o : Nat) (c : Nat) (n : Nat) (kf : Nat → UInt8) (ak : Option Addr) (ck : Nat) (w : World) (hh0 : HE.holds w 1 (.fn 0 64 dbT)) (hh1 : HE.holds w g (.fn o (o + n) (bytes kf o))) (hn : n ≤ 9223372036854775807) (hp : (keptK (kqF 0 (fun _ => false)) kf n).length = 0) :
    Calls Tryd.prog 5 #[sc g o n c, .slice ak 0 ck] w fun e w' => e = .returned (vb true) ∧ Fr w w' no no := by
 refine enter (args := [sc g o n c, .slice ak 0 ck]) (D := no) (A := []) Tryd.func5 rfl 152 rfl [(1, .fn 0 64 dbT), (g, .fn o (o + n) (bytes kf o))] (WS.startL ⟨⟨rfl, hh0⟩, ⟨rfl, hh1⟩, trivial⟩) fun ac hS => ?_
 refine hS.regS [0] [0, 1] fun _ => seg [] [(0, none), (1, none)] [] trivial fun ac wd hS => ?_
 refine wp_seq ?_
 refine wp_region_seq ?_
 refine hS.call0 20 #[] 20 (law21_awake  _ (hS.mem.get 0 1 (.fn 0 64 dbT)) ) fun ac wd hS => ?_
 refine hS.opsC 1 [0] [0, 1] fun _ => seg [(21, vb false)] [(0, none), (1, none)] [] trivial fun ac wd hS => ?_
 refine list_nil_seq ?_
 refine hS.condF ?_
 refine wp_skip ?_
 refine pop_then ?_
 refine wp_seq ?_
 refine hS.regS [0, 0, 0] [0, 1] fun _ => seg [(24, vb (decide ((16 : Int) < ((n : Nat) : Int))))] [(0, none), (1, none)] [] trivial fun ac wd hS => ?_
 refine hS.condC (decide ((16 : Int) < ((n : Nat) : Int))) (fun hb1o hb1 => ?_) (fun hb1o hb1 => ?_)
 ·
  refine hS.regS [0] [] fun _ => seg [(4, vb true)] [(0, none)] [] trivial fun ac wd hS => ?_
  refine wp_ret ?_
  refine pop_then_ret ?_
  refine St.retC 0 hS (vb true) [] trivial fun hw => ?_
  refine ⟨retd rfl, hw.fr0⟩
 ·
  refine wp_skip ?_
  refine pop_then ?_
  refine wp_region_seq ?_
  refine hS.callC 21 #[vi 384] (law21_open 384 _  (by decide)) ?_
  rintro _ wd ⟨b'2, F3, rfl, hN, hF⟩
  refine ⟨.tuple #[pt b'2 0, .agg #[pt b'2 0, vi 40, vi 384], vb true], rfl, ?_⟩
  replace hS := (hS.to (hS.mem.newA hN hF)).put (d := 26) (v := .tuple #[pt b'2 0, .agg #[pt b'2 0, vi 40, vi 384], vb true]) (by decide)
  clear hF
  refine hS.opsC 8 [0, 0, 0, 0, 0, 0, 200, 0] [0, 1] fun ν5 => seg [(6, pt (ν5 0) 0), (7, vb true)] [(0, none), (1, none), (2, some ((ν5 0), .cells [pt b'2 0, vi 40, vi 384] 52))] [.e (ν5 0), .e (ν5 0), .e (ν5 0)] trivial fun ac wd hS => ?_
  refine list_nil_seq ?_
  refine wp_seq ?_
  refine hS.regS [0, 0, 0] [0, 1, 6, 7] fun _ => seg [(30, sc g o n c), (31, vi ((n : Nat) : Int)), (32, vi 0)] [(0, none), (1, none), (2, none)] [] trivial fun ac wd hS => ?_
  refine wp_block ?_
  refine St.loopC (σ := Bool × Int × (Nat → Prop) × AM) (fun (x : Bool × Int × (Nat → Prop) × AM) => match x with | (x7, x32, Fx, mx) => ⟨[(0, [], sc g o n c), (1, [], .slice ak 0 ck), (6, [], pt (ν5 0) 0), (7, [], vb x7), (30, [], sc g o n c), (31, [], vi ((n : Nat) : Int)), (32, [], vi x32)], [(1, .fn 0 64 dbT), (g, .fn o (o + n) (bytes kf o)), ((ν5 0), .cells [pt b'2 0, vi 40, vi 384] 52)], [arR b'2 Fx mx], (0 ≤ x32 ∧ x32 ≤ (n : Int)) ∧ (HL mx 40 384 (addsK kf (Int.toNat x32))) ∧ (x7 = true) ∧ True, n - Int.toNat x32⟩) (true, 0, F3, (comM (AM.new 1) 0 1)) ⟨(by omega), (by exact addsK_none kf (page_thr1 (by decide)) (comM_zero (fun _ => rfl) 0 1)), (by rfl), trivial⟩ hS ?_
  clear hS
  rintro ⟨x7, x32, Fx, mx⟩ ⟨i0, i1, i2, -⟩ ac wd hS
  replace i0 : 0 ≤ x32 ∧ x32 ≤ (n : Int) := i0
  replace i1 : HL mx 40 384 (addsK kf (Int.toNat x32)) := i1
  replace i2 : x7 = true := i2
  have hkf := (kf (Int.toNat x32)).toNat_lt
  have hwr := wrap_u64_rng ((((kf (Int.toNat x32)).toNat : Nat) : Int) * 2 ^ 50)
  refine hS.regS [0] [0, 1, 6, 7, 30, 31, 32] fun _ => seg [(33, vb (decide ((x32 : Int) < ((n : Nat) : Int))))] [(0, none), (1, none), (2, none)] [] trivial fun ac wd hS => ?_
  refine wp_seq ?_
  refine hS.condC (decide ((x32 : Int) < ((n : Nat) : Int))) (fun hb4o hb4 => ?_) (fun hb4o hb4 => ?_)
  ·
   refine wp_skip ?_
   refine pop_then ?_
   refine wp_seq ?_
   refine wp_block ?_
   refine hS.regS [0, 20, fx 100 (v8 (((kf (Int.toNat x32)).toNat : Nat) : Int)), 0, 0] [0, 1, 6, 7, 30, 31, 32] fun _ => seg [(8, vi x32), (9, v8 (((kf (Int.toNat x32)).toNat : Nat) : Int))] [(0, none), (1, none), (2, none)] [.p ((((bytes kf o) (o + Int.toNat x32 * 1)) : Value) = v8 (((kf (Int.toNat x32)).toNat : Nat) : Int)), .e g, .p (o ≤ o + Int.toNat x32 * 1 ∧ o + Int.toNat x32 * 1 < (o + n)), .p ((0 : Int) ≤ x32 ∧ (x32 : Int) < ((n : Nat) : Int))] ⟨(bytes_rel kf o (Int.toNat x32)), (by omega), (by omega), trivial⟩ fun ac wd hS => ?_
   refine wp_region_lit ?_
   refine hS.opsC 2 [0, 0] [0, 1, 6, 7, 8, 9, 30, 31, 32] fun _ => seg [(38, vb x7)] [(0, none), (1, none), (2, none)] [] trivial fun ac wd hS => ?_
   have hg5o : x7 = true := by exact i2
   replace hS := hS.fix 7 (vb true) (congrArg Value.bool hg5o)
   replace hS := hS.fix 38 (vb true) (congrArg Value.bool hg5o)
   refine hS.opsC 11 [201, 1, 21, 21, 1, 1, 21, 1, 21, 1, 1] [0, 1, 6, 7, 30, 31, 32, 38] fun _ => seg [(39, .agg #[pt b'2 0, vi 40, vi 384]), (49, .agg #[vu (x32 + 1), v8 (((kf (Int.toNat x32)).toNat : Nat) : Int), v8 ((((kf (Int.toNat x32)).toNat) / 2 : Nat) : Int), vu (IntKind.wrap .u64 ((((kf (Int.toNat x32)).toNat : Nat) : Int) * 2 ^ 50))])] [(0, none), (1, none), (2, none)] [.t true, .t true, .t true, .p (fit .u64 (((kf (Int.toNat x32)).toNat : Nat) : Int)), .t true, .t true, .p ((2 : Int) ≠ 0 ∧ IntKind.u8.wrap (Int.tdiv (((kf (Int.toNat x32)).toNat : Nat) : Int) 2) = ((((kf (Int.toNat x32)).toNat) / 2 : Nat) : Int)), .t true, .t true, .t true, .p (fit .u64 (x32 + 1)), .t true, .p (fit .i64 (x32 + 1)), .t true, .t true, .e (ν5 0), .e (ν5 0), .e (ν5 0)] ⟨fit_u64 (by omega), quo2_n_u8 (d := 2) (by omega) (by omega), fit_u64 (by omega), fit_i64 (by omega), trivial⟩ fun ac wd hS => ?_
   refine hS.callG true 22 #[.agg #[pt b'2 0, vi 40, vi 384], .agg #[vu (x32 + 1), v8 (((kf (Int.toNat x32)).toNat : Nat) : Int), v8 ((((kf (Int.toNat x32)).toNat) / 2 : Nat) : Int), vu (IntKind.wrap .u64 ((((kf (Int.toNat x32)).toNat : Nat) : Int) * 2 ^ 50))]] (cl_Add b'2 Fx mx 40 384 (x32 + 1) (((kf (Int.toNat x32)).toNat : Nat) : Int) ((((kf (Int.toNat x32)).toNat) / 2 : Nat) : Int) (IntKind.wrap .u64 ((((kf (Int.toNat x32)).toNat : Nat) : Int) * 2 ^ 50)) _ (hS.mem.res 0) (by first | assumption | omega | (simp_all; done) | (simp_all; omega)) (by exact i1.slots.there) (by first | assumption | omega | (simp_all; done) | (simp_all; omega))) ?_
   rintro _ wd ⟨F6, rfl, hA, hF⟩
   refine ⟨vi (addE mx 40 384 (x32 + 1)), rfl, ?_⟩
   replace hS := (hS.to (hS.mem.stepA 0 rfl hA hF)).put (d := 50) (v := vi (addE mx 40 384 (x32 + 1))) (by decide)
   clear hF
   refine hS.opsC 3 [1, 70, 0] [0, 1, 6, 30, 31, 32] fun _ => seg [(7, vb (((addE mx 40 384 (x32 + 1)) : Int) == 0))] [(0, none), (1, none), (2, none)] [.t true, .t true] trivial fun ac wd hS => ?_
   refine list_nil ?_
   refine pop_block ?_
   refine pop_then ?_
   refine hS.regC [20, 0] [0, 1, 6, 7, 30, 31] fun _ => seg [(32, vi (x32 + 1))] [(0, none), (1, none), (2, none)] [.p (fit .i64 (x32 + 1))] ⟨fit_i64 (by omega), trivial⟩ fun ac wd hS => ?_
   exact pop_then (hS.next ((((addE mx 40 384 (x32 + 1)) : Int) == 0), (x32 + 1), F6, (addM mx 40 384 (x32 + 1) (((kf (Int.toNat x32)).toNat : Nat) : Int) ((((kf (Int.toNat x32)).toNat) / 2 : Nat) : Int) (IntKind.wrap .u64 ((((kf (Int.toNat x32)).toNat : Nat) : Int) * 2 ^ 50)))) ⟨(by omega), (by exact (addsK_step i1 i0.1 (by omega)).2), (by rw [(addsK_step i1 i0.1 (by omega)).1]; rfl), trivial⟩ (by dsimp only; omega))
  ·
   refine wp_exit ?_
   refine pop_then_exit ?_
   refine pop_then_exit ?_
   refine pop_block_hit ?_
   refine pop_then ?_
   refine hS.regS [0] [0, 1, 6, 7] fun _ => seg [(10, vi 0)] [(0, none), (1, none), (2, none)] [] trivial fun ac wd hS => ?_
   refine wp_seq ?_
   refine hS.regS [0, 0, 0] [0, 1, 6, 7, 10] fun _ => seg [(55, vi ((n : Nat) : Int)), (56, vi 0)] [(0, none), (1, none), (2, none)] [] trivial fun ac wd hS => ?_
   refine wp_block ?_
   refine St.loopC (σ := Int × Int × (Nat → Prop) × AM) (fun (x : Int × Int × (Nat → Prop) × AM) => match x with | (x10, x56, Fx, mx) => ⟨[(0, [], sc g o n c), (1, [], .slice ak 0 ck), (6, [], pt (ν5 0) 0), (7, [], vb x7), (10, [], vi x10), (55, [], vi ((n : Nat) : Int)), (56, [], vi x56)], [(1, .fn 0 64 dbT), (g, .fn o (o + n) (bytes kf o)), ((ν5 0), .cells [pt b'2 0, vi 40, vi 384] 52)], [arR b'2 Fx mx], (0 ≤ x56 ∧ x56 ≤ (n : Int)) ∧ (HL mx 40 384 (ksK (kqF 0 (fun _ => false)) kf n x56)) ∧ (x10 = x56 - (((keptK (kqF 0 (fun _ => false)) kf (Int.toNat x56)).length : Nat) : Int)) ∧ True, n - Int.toNat x56⟩) (0, 0, Fx, mx) ⟨(by omega), (by exact ks_start i1 (by omega)), (by rfl), trivial⟩ hS ?_
   clear hS
   rintro ⟨x10, x56, Fx, mx⟩ ⟨i0, i1, j2, -⟩ ac wd hS
   replace i0 : 0 ≤ x56 ∧ x56 ≤ (n : Int) := i0
   replace i1 : HL mx 40 384 (ksK (kqF 0 (fun _ => false)) kf n x56) := i1
   replace j2 : x10 = x56 - (((keptK (kqF 0 (fun _ => false)) kf (Int.toNat x56)).length : Nat) : Int) := j2
   have hkl := keptK_le (kqF 0 (fun _ => false)) kf (Int.toNat x56)
   have hk : kqF 0 (fun _ => false) (Int.toNat x56) = false := by simp [kqF]
   refine hS.regS [0] [0, 1, 6, 7, 10, 55, 56] fun _ => seg [(57, vb (decide ((x56 : Int) < ((n : Nat) : Int))))] [(0, none), (1, none), (2, none)] [] trivial fun ac wd hS => ?_
   refine wp_seq ?_
   refine hS.condC (decide ((x56 : Int) < ((n : Nat) : Int))) (fun hb7o hb7 => ?_) (fun hb7o hb7 => ?_)
   ·
    refine wp_skip ?_
    refine pop_then ?_
    refine wp_seq ?_
    refine wp_block ?_
    refine hS.regS [0, 0] [0, 1, 6, 7, 10, 55, 56] fun _ => seg [(11, vi x56)] [(0, none), (1, none), (2, none)] [] trivial fun ac wd hS => ?_
    refine wp_region_seq ?_
    refine hS.opsC 5 [0, 0, 0, 0, 0] [0, 1, 6, 7, 10, 11, 55, 56] fun _ => seg [(63, vb (decide ((x56 : Int) < 0)))] [(0, none), (1, none), (2, none)] [] trivial fun ac wd hS => ?_
    have hg8o : (decide ((x56 : Int) < 0)) = false := by exact decide_eq_false (by omega)
    replace hS := hS.fix 63 (vb false) (congrArg Value.bool hg8o)
    refine hS.opsC 5 [2, 2, 2, 2, 60] [0, 1, 6, 7, 10, 11, 55, 56] fun _ => seg [(68, vb false)] [(0, none), (1, none), (2, none)] [.t false, .t false, .t false, .t false, .t false] trivial fun ac wd hS => ?_
    refine list_nil_seq ?_
    refine hS.condF ?_
    refine wp_skip ?_
    refine pop_block ?_
    refine pop_then ?_
    refine hS.regC [20, 0] [0, 1, 6, 7, 10, 55] fun _ => seg [(56, vi (x56 + 1))] [(0, none), (1, none), (2, none)] [.p (fit .i64 (x56 + 1))] ⟨fit_i64 (by omega), trivial⟩ fun ac wd hS => ?_
    exact pop_then (hS.next (x10, (x56 + 1), Fx, mx) ⟨(by omega), (by first | exact hK.2 | exact ks_stay i1 i0.1 (by omega) hk), (by first | exact kd_yes hk i0.1 j2 | exact kd_no hk i0.1 j2), trivial⟩ (by dsimp only; omega))
   ·
    have hE := ks_end i1 (by omega)
    refine wp_exit ?_
    refine pop_then_exit ?_
    refine pop_then_exit ?_
    refine pop_block_hit ?_
    refine pop_then ?_
    refine wp_seq ?_
    refine wp_region_seq ?_
    refine hS.opsC 3 [0, 0, 0] [0, 1, 6, 10] fun _ => seg [(93, vb (!x7))] [(0, none), (1, none), (2, none)] [] trivial fun ac wd hS => ?_
    have hg9o : (!x7) = false := by rw [i2]; rfl
    replace hS := hS.fix 93 (vb false) (congrArg Value.bool hg9o)
    refine hS.opsC 1 [201] [0, 1, 6, 10, 93] fun _ => seg [(94, .agg #[pt b'2 0, vi 40, vi 384])] [(0, none), (1, none), (2, none)] [.t false, .e (ν5 0), .e (ν5 0), .e (ν5 0)] trivial fun ac wd hS => ?_
    refine hS.callG false 24 #[.agg #[pt b'2 0, vi 40, vi 384]] (cl_All_none b'2 Fx mx 40 384 _ (hS.mem.res 0) (by first | assumption | omega | (simp_all; done) | (simp_all; omega)) (by exact i1.slots.there) (by rw [hE.2]; exact hp)) ?_
    rintro _ wd ⟨rfl, hF⟩
    refine ⟨vnil, rfl, ?_⟩
    replace hS := (hS.to (hS.mem.keep0 hF)).put (d := 95) (v := vnil) (by decide)
    clear hF
    refine hS.opsC 7 [1, 1, 1, 1, 21, 1, 60] [0, 1, 6] fun _ => seg [(102, vb ((0 : Int) != (((n : Nat) : Int) - x10)))] [(0, none), (1, none), (2, none)] [.t false, .t false, .t false, .p (fit .i64 (((n : Nat) : Int) - x10)), .t false, .t false, .t false, .t false] ⟨fit_i64 (by omega), trivial⟩ fun ac wd hS => ?_
    refine list_nil_seq ?_
    refine hS.condK ((0 : Int) != (((n : Nat) : Int) - x10)) false (by (have h1 := hE.2; have h2 := j2; rw [show x56 = (n : Int) by omega, Int.toNat_natCast] at h2; first | (rw [h1]; exact bne_eq_false_iff_eq.2 (by omega)) | exact bne_eq_false_iff_eq.2 (by omega))) ?_
    show Code.wp _ _ _ _ _
    refine wp_skip ?_
    refine pop_then ?_
    refine wp_seq ?_
    refine hS.regS [0, 0, 20, 0] [0, 1, 6] fun _ => seg [(14, vi (((n : Nat) : Int) - 1))] [(0, none), (1, none), (2, none)] [.p (fit .i64 (((n : Nat) : Int) - 1))] ⟨fit_i64 (by omega), trivial⟩ fun ac wd hS => ?_
    refine wp_block ?_
    refine St.loopC (σ := Int × (Nat → Prop) × AM) (fun (x : Int × (Nat → Prop) × AM) => match x with | (x14, Fx, mx) => ⟨[(0, [], sc g o n c), (1, [], .slice ak 0 ck), (6, [], pt (ν5 0) 0), (14, [], vi x14)], [(1, .fn 0 64 dbT), (g, .fn o (o + n) (bytes kf o)), ((ν5 0), .cells [pt b'2 0, vi 40, vi 384] 52)], [arR b'2 Fx mx], (-1 ≤ x14 ∧ x14 < (n : Int)) ∧ (HL mx 40 384 (keptK (kqF 0 (fun _ => false)) kf (Int.toNat (x14 + 1)))) ∧ True, Int.toNat (x14 + 1)⟩) ((((n : Nat) : Int) - 1), Fx, mx) ⟨(by omega), (by rw [show Int.toNat (((n : Nat) : Int) - 1 + 1) = n by omega]; exact hE.1), trivial⟩ hS ?_
    clear hS
    rintro ⟨x14, Fx, mx⟩ ⟨i0, i1, -⟩ ac wd hS
    replace i0 : -1 ≤ x14 ∧ x14 < (n : Int) := i0
    replace i1 : HL mx 40 384 (keptK (kqF 0 (fun _ => false)) kf (Int.toNat (x14 + 1))) := i1
    have hkf := (kf (Int.toNat x14)).toNat_lt
    have hwr := wrap_u64_rng ((((kf (Int.toNat x14)).toNat : Nat) : Int) * 2 ^ 50)
    refine wp_seq ?_
    refine hS.regS [0, 0] [0, 1, 6, 14] fun _ => seg [(107, vb (decide ((0 : Int) ≤ x14)))] [(0, none), (1, none), (2, none)] [] trivial fun ac wd hS => ?_
    refine hS.condC (decide ((0 : Int) ≤ x14)) (fun hb10o hb10 => ?_) (fun hb10o hb10 => ?_)
    ·
     have hk : kqF 0 (fun _ => false) (Int.toNat x14) = false := by simp [kqF]
     have hP := pk_pop i1 (by omega) hk
     refine wp_skip ?_
     refine pop_then ?_
     refine wp_seq ?_
     refine wp_block ?_
     refine wp_seq ?_
     refine wp_region_seq ?_
     refine hS.opsC 5 [0, 0, 0, 0, 0] [0, 1, 6, 14] fun _ => seg [(114, vb (decide ((x14 : Int) < 0)))] [(0, none), (1, none), (2, none)] [] trivial fun ac wd hS => ?_
     have hg11o : (decide ((x14 : Int) < 0)) = false := by exact decide_eq_false (by omega)
     replace hS := hS.fix 114 (vb false) (congrArg Value.bool hg11o)
     refine hS.opsC 5 [2, 2, 2, 2, 60] [0, 1, 6, 14] fun _ => seg [(119, vb false)] [(0, none), (1, none), (2, none)] [.t false, .t false, .t false, .t false, .t false] trivial fun ac wd hS => ?_
     refine list_nil_seq ?_
     refine hS.condF ?_
     refine wp_skip ?_
     refine pop_then ?_
     refine wp_region_seq ?_
     refine hS.opsC 1 [200] [0, 1, 6, 14] fun _ => seg [(121, .agg #[pt b'2 0, vi 40, vi 384])] [(0, none), (1, none), (2, none)] [.e (ν5 0), .e (ν5 0), .e (ν5 0)] trivial fun ac wd hS => ?_
     refine hS.callC 25 #[.agg #[pt b'2 0, vi 40, vi 384]] (cl_Pop_v b'2 Fx mx 40 384 (x14 + 1) (((kf (Int.toNat x14)).toNat : Nat) : Int) ((((kf (Int.toNat x14)).toNat) / 2 : Nat) : Int) (IntKind.wrap .u64 ((((kf (Int.toNat x14)).toNat : Nat) : Int) * 2 ^ 50)) _ (hS.mem.res 0) (by first | assumption | omega | (simp_all; done) | (simp_all; omega)) (by exact i1.slots.there) (by exact hP.1)) ?_
     rintro _ wd ⟨F12, rfl, hA, hF⟩
     refine ⟨.tuple #[.agg #[vu (x14 + 1), v8 (((kf (Int.toNat x14)).toNat : Nat) : Int), v8 ((((kf (Int.toNat x14)).toNat) / 2 : Nat) : Int), vu (IntKind.wrap .u64 ((((kf (Int.toNat x14)).toNat : Nat) : Int) * 2 ^ 50))], vb true], rfl, ?_⟩
     replace hS := (hS.to (hS.mem.stepA 0 rfl hA hF)).put (d := 122) (v := .tuple #[.agg #[vu (x14 + 1), v8 (((kf (Int.toNat x14)).toNat : Nat) : Int), v8 ((((kf (Int.toNat x14)).toNat) / 2 : Nat) : Int), vu (IntKind.wrap .u64 ((((kf (Int.toNat x14)).toNat : Nat) : Int) * 2 ^ 50))], vb true]) (by decide)
     clear hF
     refine hS.opsC 6 [0, 0, 0, 0, 300, 0] [0, 1, 6, 14] fun ν28 => seg [(15, pt (ν28 0) 0), (16, vb true)] [(0, none), (1, none), (2, none), (3, some ((ν28 0), .cells [vu (x14 + 1), v8 (((kf (Int.toNat x14)).toNat : Nat) : Int), v8 ((((kf (Int.toNat x14)).toNat) / 2 : Nat) : Int), vu (IntKind.wrap .u64 ((((kf (Int.toNat x14)).toNat : Nat) : Int) * 2 ^ 50))] 59))] [.e (ν28 0), .e (ν28 0), .e (ν28 0), .e (ν28 0)] trivial fun ac wd hS => ?_
     refine list_nil_seq ?_
     refine hS.regS [0, 0, 20, fx 100 (v8 (((kf (Int.toNat x14)).toNat : Nat) : Int)), 0] [0, 1, 6, 14, 15, 16] fun _ => seg [(17, v8 (((kf (Int.toNat x14)).toNat : Nat) : Int))] [(0, none), (1, none), (2, none), (3, none)] [.p ((((bytes kf o) (o + Int.toNat x14 * 1)) : Value) = v8 (((kf (Int.toNat x14)).toNat : Nat) : Int)), .e g, .p (o ≤ o + Int.toNat x14 * 1 ∧ o + Int.toNat x14 * 1 < (o + n)), .p ((0 : Int) ≤ x14 ∧ (x14 : Int) < ((n : Nat) : Int))] ⟨(bytes_rel kf o (Int.toNat x14)), (by omega), (by omega), trivial⟩ fun ac wd hS => ?_
     refine wp_region_seq ?_
     refine hS.opsC 3 [0, 0, 0] [0, 1, 6, 14, 15, 17] fun _ => seg [(131, vb false)] [(0, none), (1, none), (2, none), (3, none)] [] trivial fun ac wd hS => ?_
     refine hS.opsC 11 [301, 1, 21, 21, 1, 1, 21, 1, 21, 1, 1] [0, 1, 6, 14, 131] fun _ => seg [(132, .agg #[vu (x14 + 1), v8 (((kf (Int.toNat x14)).toNat : Nat) : Int), v8 ((((kf (Int.toNat x14)).toNat) / 2 : Nat) : Int), vu (IntKind.wrap .u64 ((((kf (Int.toNat x14)).toNat : Nat) : Int) * 2 ^ 50))]), (142, .agg #[vu (x14 + 1), v8 (((kf (Int.toNat x14)).toNat : Nat) : Int), v8 ((((kf (Int.toNat x14)).toNat) / 2 : Nat) : Int), vu (IntKind.wrap .u64 ((((kf (Int.toNat x14)).toNat : Nat) : Int) * 2 ^ 50))])] [(0, none), (1, none), (2, none)] [.t false, .t false, .t false, .p (fit .u64 (((kf (Int.toNat x14)).toNat : Nat) : Int)), .t false, .t false, .p ((2 : Int) ≠ 0 ∧ IntKind.u8.wrap (Int.tdiv (((kf (Int.toNat x14)).toNat : Nat) : Int) 2) = ((((kf (Int.toNat x14)).toNat) / 2 : Nat) : Int)), .t false, .t false, .t false, .p (fit .u64 (x14 + 1)), .t false, .p (fit .i64 (x14 + 1)), .t false, .t false, .e (ν28 0), .e (ν28 0), .e (ν28 0), .e (ν28 0)] ⟨fit_u64 (by omega), quo2_n_u8 (d := 2) (by omega) (by omega), fit_u64 (by omega), fit_i64 (by omega), trivial⟩ fun ac wd hS => ?_
     refine Runs1.listG hS 131 false ?_ (by decide)
     refine St.binS hS .neq (.tmp 132) (.tmp 142) 59 59 rfl rfl (by decide) (xs := #[vu (x14 + 1), v8 (((kf (Int.toNat x14)).toNat : Nat) : Int), v8 ((((kf (Int.toNat x14)).toNat) / 2 : Nat) : Int), vu (IntKind.wrap .u64 ((((kf (Int.toNat x14)).toNat : Nat) : Int) * 2 ^ 50))]) (ys := #[vu (x14 + 1), v8 (((kf (Int.toNat x14)).toNat : Nat) : Int), v8 ((((kf (Int.toNat x14)).toNat) / 2 : Nat) : Int), vu (IntKind.wrap .u64 ((((kf (Int.toNat x14)).toNat : Nat) : Int) * 2 ^ 50))]) (r := vb (!(eqAll [(((x14 + 1) : Int), ((x14 + 1) : Int)), (((((kf (Int.toNat x14)).toNat : Nat) : Int) : Int), ((((kf (Int.toNat x14)).toNat : Nat) : Int) : Int)), ((((((kf (Int.toNat x14)).toNat) / 2 : Nat) : Int) : Int), (((((kf (Int.toNat x14)).toNat) / 2 : Nat) : Int) : Int)), (((IntKind.wrap .u64 ((((kf (Int.toNat x14)).toNat : Nat) : Int) * 2 ^ 50)) : Int), ((IntKind.wrap .u64 ((((kf (Int.toNat x14)).toNat : Nat) : Int) * 2 ^ 50)) : Int))]))) (fun w => run_neS (l := [(((x14 + 1) : Int), ((x14 + 1) : Int)), (((((kf (Int.toNat x14)).toNat : Nat) : Int) : Int), ((((kf (Int.toNat x14)).toNat : Nat) : Int) : Int)), ((((((kf (Int.toNat x14)).toNat) / 2 : Nat) : Int) : Int), (((((kf (Int.toNat x14)).toNat) / 2 : Nat) : Int) : Int)), (((IntKind.wrap .u64 ((((kf (Int.toNat x14)).toNat : Nat) : Int) * 2 ^ 50)) : Int), ((IntKind.wrap .u64 ((((kf (Int.toNat x14)).toNat : Nat) : Int) * 2 ^ 50)) : Int))]) w (by as_aux_lemma => kernel_rfl) (by as_aux_lemma => kernel_rfl) (by as_aux_lemma => kernel_rfl)) (by as_aux_lemma => kernel_rfl) fun ac hS => ?_
     replace hS := hS.fix 143 (vb false) (show (vb (!(eqAll [(((x14 + 1) : Int), ((x14 + 1) : Int)), (((((kf (Int.toNat x14)).toNat : Nat) : Int) : Int), ((((kf (Int.toNat x14)).toNat : Nat) : Int) : Int)), ((((((kf (Int.toNat x14)).toNat) / 2 : Nat) : Int) : Int), (((((kf (Int.toNat x14)).toNat) / 2 : Nat) : Int) : Int)), (((IntKind.wrap .u64 ((((kf (Int.toNat x14)).toNat : Nat) : Int) * 2 ^ 50)) : Int), ((IntKind.wrap .u64 ((((kf (Int.toNat x14)).toNat : Nat) : Int) * 2 ^ 50)) : Int))])) : Value) = vb false from vbool (by simp [eqAll]))
     refine hS.opsC 1 [60] [0, 1, 6, 14] fun _ => seg [(144, vb false)] [(0, none), (1, none), (2, none)] [.t false] trivial fun ac wd hS => ?_
     refine list_nil_seq ?_
     refine hS.condF ?_
     refine wp_skip ?_
     refine pop_block ?_
     refine pop_then ?_
     refine hS.regC [0, 20, 0] [0, 1, 6] fun _ => seg [(14, vi (x14 - 1))] [(0, none), (1, none), (2, none)] [.p (fit .i64 (x14 - 1))] ⟨fit_i64 (by omega), trivial⟩ fun ac wd hS => ?_
     exact pop_then (hS.next ((x14 - 1), F12, (popM mx 40 384)) ⟨(by omega), (by first | exact hP.2 | exact pk_stay i1 (by omega) hk), trivial⟩ (by dsimp only; omega))
    ·
     refine wp_exit ?_
     refine pop_then_exit ?_
     refine pop_then_exit ?_
     refine pop_block_hit ?_
     refine pop_then ?_
     refine wp_region_seq ?_
     refine hS.opsC 1 [200] [] fun _ => seg [(146, .agg #[pt b'2 0, vi 40, vi 384])] [(0, none)] [.e (ν5 0), .e (ν5 0), .e (ν5 0)] trivial fun ac wd hS => ?_
     refine hS.callC 25 #[.agg #[pt b'2 0, vi 40, vi 384]] (cl_Pop b'2 Fx mx 40 384 _ (hS.mem.res 0) (by first | assumption | omega | (simp_all; done) | (simp_all; omega)) (by exact i1.slots.there)) ?_
     rintro _ wd ⟨F13, rfl, hA, hF⟩
     refine ⟨.tuple #[.agg #[vu (pIf mx 40 384 (cId mx 40 (((cCnt mx 40 384 : Nat) : Int) - 1))), v8 (pIf mx 40 384 (cKd mx 40 (((cCnt mx 40 384 : Nat) : Int) - 1))), v8 (pIf mx 40 384 (cLv mx 40 (((cCnt mx 40 384 : Nat) : Int) - 1))), vu (pIf mx 40 384 (cN1 mx 40 (((cCnt mx 40 384 : Nat) : Int) - 1)))], vb (popB mx 40 384)], rfl, ?_⟩
     replace hS := (hS.to (hS.mem.stepA 0 rfl hA hF)).put (d := 147) (v := .tuple #[.agg #[vu (pIf mx 40 384 (cId mx 40 (((cCnt mx 40 384 : Nat) : Int) - 1))), v8 (pIf mx 40 384 (cKd mx 40 (((cCnt mx 40 384 : Nat) : Int) - 1))), v8 (pIf mx 40 384 (cLv mx 40 (((cCnt mx 40 384 : Nat) : Int) - 1))), vu (pIf mx 40 384 (cN1 mx 40 (((cCnt mx 40 384 : Nat) : Int) - 1)))], vb (popB mx 40 384)]) (by decide)
     clear hF
     refine hS.opsC 6 [0, 0, 0, 0, 100, 0] [] fun ν35 => seg [(19, vb (popB mx 40 384))] [(0, none)] [.e (ν35 0), .e (ν35 0), .e (ν35 0), .e (ν35 0)] trivial fun ac wd hS => ?_
     refine list_nil_seq ?_
     refine hS.regS [0, 0, 0] [] fun _ => seg [(4, vb (!(popB mx 40 384)))] [(0, none)] [] trivial fun ac wd hS => ?_
     refine wp_ret ?_
     refine St.retC 0 hS (vb (!(popB mx 40 384))) [] trivial fun hw => ?_
     refine ⟨retd (vbool ?_), hw.fr0⟩
     all_goals (first | rfl | (rw [pk_end i1 (by omega)]; rfl))

set_option maxRecDepth 100000 in
set_option maxHeartbeats 1000000 in
theorem law21_CleanTurns_c (ao : Option Addr) (c : Nat) (ak : Option Addr) (nk : Nat) (ck : Nat) (w : World) (hh0 : HE.holds w 1 (.fn 0 64 dbT)) :
    Calls Tryd.prog 5 #[.slice ao 0 c, .slice ak nk ck] w fun e w' => e = .returned (vb true) ∧ Fr w w' no no := by
 have hZ : HL (comM (AM.new 1) 0 1) 40 384 [] := addsK_none (fun _ => 0) (page_thr1 (by decide)) (comM_zero (fun _ => rfl) 0 1)
 refine enter (args := [.slice ao 0 c, .slice ak nk ck]) (D := no) (A := []) Tryd.func5 rfl 152 rfl [(1, .fn 0 64 dbT)] (WS.startL ⟨⟨rfl, hh0⟩, trivial⟩) fun ac hS => ?_
 refine hS.regS [0] [0, 1] fun _ => seg [] [(0, none)] [] trivial fun ac wd hS => ?_
 refine wp_seq ?_
 refine wp_region_seq ?_
 refine hS.call0 20 #[] 20 (law21_awake  _ (hS.mem.get 0 1 (.fn 0 64 dbT)) ) fun ac wd hS => ?_
 refine hS.opsC 1 [0] [0, 1] fun _ => seg [(21, vb false)] [(0, none)] [] trivial fun ac wd hS => ?_
 refine list_nil_seq ?_
 refine hS.condF ?_
 refine wp_skip ?_
 refine pop_then ?_
 refine wp_seq ?_
 refine hS.regS [0, 0, 0] [0, 1] fun _ => seg [(24, vb false)] [(0, none)] [] trivial fun ac wd hS => ?_
 refine hS.condF ?_
 refine wp_skip ?_
 refine pop_then ?_
 refine wp_region_seq ?_
 refine hS.callC 21 #[vi 384] (law21_open 384 _  (by decide)) ?_
 rintro _ wd ⟨b'1, F2, rfl, hN, hF⟩
 refine ⟨.tuple #[pt b'1 0, .agg #[pt b'1 0, vi 40, vi 384], vb true], rfl, ?_⟩
 replace hS := (hS.to (hS.mem.newA hN hF)).put (d := 26) (v := .tuple #[pt b'1 0, .agg #[pt b'1 0, vi 40, vi 384], vb true]) (by decide)
 clear hF
 refine hS.opsC 8 [0, 0, 0, 0, 0, 0, 100, 0] [0, 1] fun ν4 => seg [(6, pt (ν4 0) 0), (7, vb true)] [(0, none), (1, some ((ν4 0), .cells [pt b'1 0, vi 40, vi 384] 52))] [.e (ν4 0), .e (ν4 0), .e (ν4 0)] trivial fun ac wd hS => ?_
 refine list_nil_seq ?_
 refine wp_seq ?_
 refine hS.regS [0, 0, 0] [0, 1, 6, 7] fun _ => seg [(30, .slice ao 0 c), (31, vi 0), (32, vi 0)] [(0, none), (1, none)] [] trivial fun ac wd hS => ?_
 refine wp_block ?_
 refine wp_loop_rounds 1 ?_
 refine rounds_in ?_
 refine hS.regS [0] [0, 1, 6, 7, 30, 31, 32] fun _ => seg [(33, vb false)] [(0, none), (1, none)] [] trivial fun ac wd hS => ?_
 refine wp_seq ?_
 refine hS.condF ?_
 refine wp_exit ?_
 refine pop_then_exit ?_
 refine pop_then_exit ?_
 refine pop_block_hit ?_
 refine pop_then ?_
 refine hS.regS [0] [0, 1, 6, 7] fun _ => seg [(10, vi 0)] [(0, none), (1, none)] [] trivial fun ac wd hS => ?_
 refine wp_seq ?_
 refine hS.regS [0, 0, 0] [0, 1, 6, 7, 10] fun _ => seg [(55, vi 0), (56, vi 0)] [(0, none), (1, none)] [] trivial fun ac wd hS => ?_
 refine wp_block ?_
 refine wp_loop_rounds 1 ?_
 refine rounds_in ?_
 refine hS.regS [0] [0, 1, 6, 7, 10, 55, 56] fun _ => seg [(57, vb false)] [(0, none), (1, none)] [] trivial fun ac wd hS => ?_
 refine wp_seq ?_
 refine hS.condF ?_
 refine wp_exit ?_
 refine pop_then_exit ?_
 refine pop_then_exit ?_
 refine pop_block_hit ?_
 refine pop_then ?_
 refine wp_seq ?_
 refine wp_region_seq ?_
 refine hS.opsC 3 [0, 0, 0] [0, 1, 6, 10] fun _ => seg [(93, vb false)] [(0, none), (1, none)] [] trivial fun ac wd hS => ?_
 refine hS.opsC 1 [101] [0, 1, 6, 10, 93] fun _ => seg [(94, .agg #[pt b'1 0, vi 40, vi 384])] [(0, none), (1, none)] [.t false, .e (ν4 0), .e (ν4 0), .e (ν4 0)] trivial fun ac wd hS => ?_
 refine hS.callG false 24 #[.agg #[pt b'1 0, vi 40, vi 384]] (cl_All_none b'1 F2 (comM (AM.new 1) 0 1) 40 384 _ (hS.mem.res 0) (by first | assumption | omega | (simp_all; done) | (simp_all; omega)) (by exact hZ.slots.there) (by exact hZ.pop0.2)) ?_
 rintro _ wd ⟨rfl, hF⟩
 refine ⟨vnil, rfl, ?_⟩
 replace hS := (hS.to (hS.mem.keep0 hF)).put (d := 95) (v := vnil) (by decide)
 clear hF
 refine hS.opsC 7 [1, 1, 1, 1, 1, 1, 60] [0, 1, 6] fun _ => seg [(102, vb false)] [(0, none), (1, none)] [.t false, .t false, .t false, .t false, .t false, .t false, .t false] trivial fun ac wd hS => ?_
 refine list_nil_seq ?_
 refine hS.condF ?_
 refine wp_skip ?_
 refine pop_then ?_
 refine wp_seq ?_
 refine hS.regS [0, 0, 0, 0] [0, 1, 6] fun _ => seg [(14, vi (-1))] [(0, none), (1, none)] [] trivial fun ac wd hS => ?_
 refine wp_block ?_
 refine wp_loop_rounds 1 ?_
 refine rounds_in ?_
 refine wp_seq ?_
 refine hS.regS [0, 0] [0, 1, 6, 14] fun _ => seg [(107, vb false)] [(0, none), (1, none)] [] trivial fun ac wd hS => ?_
 refine hS.condF ?_
 refine wp_exit ?_
 refine pop_then_exit ?_
 refine pop_then_exit ?_
 refine pop_block_hit ?_
 refine pop_then ?_
 refine wp_region_seq ?_
 refine hS.opsC 1 [100] [] fun _ => seg [(146, .agg #[pt b'1 0, vi 40, vi 384])] [(0, none)] [.e (ν4 0), .e (ν4 0), .e (ν4 0)] trivial fun ac wd hS => ?_
 refine hS.callC 25 #[.agg #[pt b'1 0, vi 40, vi 384]] (cl_Pop b'1 F2 (comM (AM.new 1) 0 1) 40 384 _ (hS.mem.res 0) (by first | assumption | omega | (simp_all; done) | (simp_all; omega)) (by exact hZ.slots.there)) ?_
 rintro _ wd ⟨F3, rfl, hA, hF⟩
 refine ⟨.tuple #[.agg #[vu (pIf (comM (AM.new 1) 0 1) 40 384 (cId (comM (AM.new 1) 0 1) 40 (((cCnt (comM (AM.new 1) 0 1) 40 384 : Nat) : Int) - 1))), v8 (pIf (comM (AM.new 1) 0 1) 40 384 (cKd (comM (AM.new 1) 0 1) 40 (((cCnt (comM (AM.new 1) 0 1) 40 384 : Nat) : Int) - 1))), v8 (pIf (comM (AM.new 1) 0 1) 40 384 (cLv (comM (AM.new 1) 0 1) 40 (((cCnt (comM (AM.new 1) 0 1) 40 384 : Nat) : Int) - 1))), vu (pIf (comM (AM.new 1) 0 1) 40 384 (cN1 (comM (AM.new 1) 0 1) 40 (((cCnt (comM (AM.new 1) 0 1) 40 384 : Nat) : Int) - 1)))], vb (popB (comM (AM.new 1) 0 1) 40 384)], rfl, ?_⟩
 replace hS := (hS.to (hS.mem.stepA 0 rfl hA hF)).put (d := 147) (v := .tuple #[.agg #[vu (pIf (comM (AM.new 1) 0 1) 40 384 (cId (comM (AM.new 1) 0 1) 40 (((cCnt (comM (AM.new 1) 0 1) 40 384 : Nat) : Int) - 1))), v8 (pIf (comM (AM.new 1) 0 1) 40 384 (cKd (comM (AM.new 1) 0 1) 40 (((cCnt (comM (AM.new 1) 0 1) 40 384 : Nat) : Int) - 1))), v8 (pIf (comM (AM.new 1) 0 1) 40 384 (cLv (comM (AM.new 1) 0 1) 40 (((cCnt (comM (AM.new 1) 0 1) 40 384 : Nat) : Int) - 1))), vu (pIf (comM (AM.new 1) 0 1) 40 384 (cN1 (comM (AM.new 1) 0 1) 40 (((cCnt (comM (AM.new 1) 0 1) 40 384 : Nat) : Int) - 1)))], vb (popB (comM (AM.new 1) 0 1) 40 384)]) (by decide)
 clear hF
 refine hS.opsC 6 [0, 0, 0, 0, 100, 0] [] fun ν16 => seg [(19, vb (popB (comM (AM.new 1) 0 1) 40 384))] [(0, none)] [.e (ν16 0), .e (ν16 0), .e (ν16 0), .e (ν16 0)] trivial fun ac wd hS => ?_
 refine list_nil_seq ?_
 refine hS.regS [0, 0, 0] [] fun _ => seg [(4, vb (!(popB (comM (AM.new 1) 0 1) 40 384)))] [(0, none)] [] trivial fun ac wd hS => ?_
 refine wp_ret ?_
 refine St.retC 0 hS (vb (!(popB (comM (AM.new 1) 0 1) 40 384))) [] trivial fun hw => ?_
 refine ⟨retd (vbool ?_), hw.fr0⟩
 all_goals (first | rfl | (rw [hZ.pop0.1]; rfl))

end Go.Proofs.YtefffenljiaioaaDoor.K
