/-
  Walks, printed by w2.py.
-/
import Derived.Test.YtefffenljiaioaaDoorHe
import Derived.Test.YtefffenljiaioaaDoorJc
import Derived.Test.YtefffenljiaioaaDoorJg
import Derived.Test.YtefffenljiaioaaDoorProg
namespace Go.Proofs.YtefffenljiaioaaDoor.K
set_option linter.unusedVariables false
set_option linter.unusedSimpArgs false

theorem b_Pop_v (b : Nat) (F : Nat → Prop) (m : AM) (o_ : Int) (z : Int) (k : Int) (ga : Int) (go_ : Int) (gw : Int) (w : World) (hr : (arR b F m).R w) (ho : 0 ≤ o_ ∧ 0 ≤ z ∧ o_ + z ≤ 4294967296) (hv : (bqAt m o_ z k = ga ∧ bqOrd m o_ z k = go_) ∧ bqOwn m o_ z k = gw ∧ bqOk m o_ z k = true) :
    Calls Tryd.prog 30 #[.agg #[pt b 0, vi o_, vi z], vi k] w fun e w' => ∃ (F' : Nat → Prop), e = .returned (.tuple #[.agg #[vi ga, vi go_, vu gw, vi 0], vb true]) ∧ (arR b F' (bqM m o_ z k)).R w' ∧ Fr w w' F F' := by
 obtain ⟨⟨rfl, rfl⟩, rfl, h4⟩ := hv
 have h := b_Pop b F m o_ z k w hr ho
 rw [h4] at h
 exact h

set_option maxRecDepth 100000 in
set_option maxHeartbeats 1000000 in
theorem b_Least_zero (b : Nat) (F : Nat → Prop) (m : AM) (o_ : Int) (z : Int) (w : World) (hr : (arR b F m).R w) (ho : 0 ≤ o_ ∧ 0 ≤ z ∧ o_ + z ≤ 4294967296) (hz : ∀ k, bnN m o_ z k = 0) :
    Calls Tryd.prog 32 #[.agg #[pt b 0, vi o_, vi z], vi (-5)] w fun e w' => e = .returned (.tuple #[vi 0, vb false]) ∧ Fr w w' no no := by
 refine enter (args := [.agg #[pt b 0, vi o_, vi z], vi (-5)]) (D := no) (A := []) Tryd.func32 rfl 18 rfl [] (WS.startL trivial) fun ac hS => ?_
 refine hS.regS [0, 0, 0] [1] fun ν1 => seg [(2, pt (ν1 0) 0)] [(0, some ((ν1 0), .cells [pt b 0, vi o_, vi z] 67))] [] trivial fun ac wd hS => ?_
 refine wp_seq ?_
 refine hS.regS [0, 0, 0] [2] fun _ => seg [(6, vi 0)] [(0, none)] [] trivial fun ac wd hS => ?_
 refine wp_block ?_
 refine St.loopC (σ := Int) (fun (x6 : Int) => ⟨[(2, [], pt (ν1 0) 0), (6, [], vi x6)], [((ν1 0), .cells [pt b 0, vi o_, vi z] 67)], [], (0 ≤ x6 ∧ x6 ≤ 5) ∧ True, 5 - Int.toNat x6⟩) 0 ⟨(by omega), trivial⟩ hS ?_
 clear hS
 rintro x6 ⟨i0, -⟩ ac wd hS
 replace i0 : 0 ≤ x6 ∧ x6 ≤ 5 := i0
 refine wp_seq ?_
 refine hS.regS [0, 0] [2, 6] fun _ => seg [(10, vb (decide ((x6 : Int) ≤ 4)))] [(0, none)] [] trivial fun ac wd hS => ?_
 refine hS.condC (decide ((x6 : Int) ≤ 4)) (fun hb1o hb1 => ?_) (fun hb1o hb1 => ?_)
 ·
  refine wp_skip ?_
  refine pop_then ?_
  refine wp_seq ?_
  refine wp_block ?_
  refine wp_region_seq ?_
  refine hS.opsC 2 [0, 0] [2, 6] fun _ => seg [(13, .agg #[pt b 0, vi o_, vi z]), (14, vi x6)] [(0, none)] [.e (ν1 0), .e (ν1 0), .e (ν1 0)] trivial fun ac wd hS => ?_
  refine hS.call0 83 #[.agg #[pt b 0, vi o_, vi z], vi x6] 15 (b_newest b F m o_ z x6 _ (Res.keep hr hS.mem.fr) (by first | assumption | omega | (simp_all; done) | (simp_all; omega))) fun ac wd hS => ?_
  refine hS.opsC 1 [0] [2, 6] fun _ => seg [(16, vb (((bnN m o_ z x6) : Int) != 0))] [(0, none)] [] trivial fun ac wd hS => ?_
  refine list_nil_seq ?_
  refine hS.condK (((bnN m o_ z x6) : Int) != 0) false (by rw [hz]; rfl) ?_
  show Code.wp _ _ _ _ _
  refine wp_skip ?_
  refine pop_block ?_
  refine pop_then ?_
  refine hS.regC [0, 20, 0] [2] fun _ => seg [(6, vi (x6 + 1))] [(0, none)] [.p (fit .i64 (x6 + 1))] ⟨fit_i64 (by omega), trivial⟩ fun ac wd hS => ?_
  exact pop_then (hS.next (x6 + 1) ⟨(by first | omega | assumption | (simp; done) | (simp; omega)), trivial⟩ (by dsimp only; omega))
 ·
  refine wp_exit ?_
  refine pop_then_exit ?_
  refine pop_then_exit ?_
  refine pop_block_hit ?_
  refine pop_then ?_
  refine hS.regS [0, 0] [] fun _ => seg [(4, vi 0), (5, vb false)] [] [] trivial fun ac wd hS => ?_
  refine wp_ret ?_
  refine St.retC 0 hS (.tuple #[vi 0, vb false]) [] trivial fun hw => ?_
  refine ⟨retd rfl, hw.fr0⟩

set_option maxRecDepth 100000 in
set_option maxHeartbeats 1000000 in
theorem b_All_zero (b : Nat) (F : Nat → Prop) (m : AM) (o_ : Int) (z : Int) (k : Int) (w : World) (hr : (arR b F m).R w) (ho : 0 ≤ o_ ∧ 0 ≤ z ∧ o_ + z ≤ 4294967296) (hz : ∀ k, bnN m o_ z k = 0) :
    Calls Tryd.prog 86 #[.agg #[pt b 0, vi o_, vi z], vi k] w fun e w' => e = .returned (vnil) ∧ Fr w w' no no := by
 refine enter (args := [.agg #[pt b 0, vi o_, vi z], vi k]) (D := no) (A := []) Tryd.func86 rfl 29 rfl [] (WS.startL trivial) fun ac hS => ?_
 refine hS.regS [0, 0] [1] fun ν1 => seg [(2, pt (ν1 0) 0)] [(0, some ((ν1 0), .cells [pt b 0, vi o_, vi z] 67))] [] trivial fun ac wd hS => ?_
 refine hS.regS [0] [1, 2] fun _ => seg [(5, vnil)] [(0, none)] [] trivial fun ac wd hS => ?_
 refine wp_seq ?_
 refine wp_region_seq ?_
 refine hS.opsC 2 [0, 0] [2, 5] fun _ => seg [(9, .agg #[pt b 0, vi o_, vi z]), (10, vi k)] [(0, none)] [.e (ν1 0), .e (ν1 0), .e (ν1 0)] trivial fun ac wd hS => ?_
 refine hS.call0 83 #[.agg #[pt b 0, vi o_, vi z], vi k] 11 (b_newest b F m o_ z k _ (Res.keep hr hS.mem.fr) (by first | assumption | omega | (simp_all; done) | (simp_all; omega))) fun ac wd hS => ?_
 refine hS.opsC 1 [0] [2, 5] fun _ => seg [(6, vi (bnN m o_ z k))] [(0, none)] [] trivial fun ac wd hS => ?_
 refine list_nil_seq ?_
 refine wp_block ?_
 refine St.loopC (σ := Int) (fun (x6 : Int) => ⟨[(2, [], pt (ν1 0) 0), (5, [], vnil), (6, [], vi x6)], [((ν1 0), .cells [pt b 0, vi o_, vi z] 67)], [], (x6 = 0) ∧ True, 0⟩) (bnN m o_ z k) ⟨(by first | exact hz k | rfl), trivial⟩ hS ?_
 clear hS
 rintro x6 ⟨i0, -⟩ ac wd hS
 replace i0 : x6 = 0 := i0
 refine wp_seq ?_
 refine hS.regS [0, 0] [2, 5, 6] fun _ => seg [(13, vb ((x6 : Int) != 0))] [(0, none)] [] trivial fun ac wd hS => ?_
 refine hS.condK ((x6 : Int) != 0) false (by rw [i0]; rfl) ?_
 show Code.wp _ _ _ _ _
 refine wp_exit ?_
 refine pop_then_exit ?_
 refine pop_then_exit ?_
 refine pop_block_hit ?_
 refine pop_then ?_
 refine hS.regS [0, 0] [] fun _ => seg [(4, vnil)] [] [] trivial fun ac wd hS => ?_
 refine wp_ret ?_
 refine St.retC 0 hS (vnil) [] trivial fun hw => ?_
 refine ⟨retd rfl, hw.fr0⟩

set_option maxRecDepth 100000 in
set_option maxHeartbeats 1000000 in
theorem b_Count_zero (b : Nat) (F : Nat → Prop) (m : AM) (o_ : Int) (z : Int) (w : World) (hr : (arR b F m).R w) (ho : 0 ≤ o_ ∧ 0 ≤ z ∧ o_ + z ≤ 4294967296) (hz : ∀ k, bnN m o_ z k = 0) :
    Calls Tryd.prog 33 #[.agg #[pt b 0, vi o_, vi z]] w fun e w' => e = .returned (vi 0) ∧ Fr w w' no no := by
 refine enter (args := [.agg #[pt b 0, vi o_, vi z]]) (D := no) (A := []) Tryd.func33 rfl 18 rfl [] (WS.startL trivial) fun ac hS => ?_
 refine hS.regS [0, 0] [] fun ν1 => seg [(1, pt (ν1 0) 0)] [(0, some ((ν1 0), .cells [pt b 0, vi o_, vi z] 67))] [] trivial fun ac wd hS => ?_
 refine hS.regS [0] [1] fun _ => seg [(3, vi 0)] [(0, none)] [] trivial fun ac wd hS => ?_
 refine wp_seq ?_
 refine hS.regS [0] [1, 3] fun _ => seg [(5, vi 0)] [(0, none)] [] trivial fun ac wd hS => ?_
 refine wp_block ?_
 refine St.loopC (σ := Int × Int) (fun (x : Int × Int) => match x with | (x3, x5) => ⟨[(1, [], pt (ν1 0) 0), (3, [], vi x3), (5, [], vi x5)], [((ν1 0), .cells [pt b 0, vi o_, vi z] 67)], [], (0 ≤ x5 ∧ x5 ≤ 5) ∧ (x3 = 0) ∧ True, 5 - Int.toNat x5⟩) (0, 0) ⟨(by first | omega | rfl), (by first | omega | rfl), trivial⟩ hS ?_
 clear hS
 rintro ⟨x3, x5⟩ ⟨i0, i1, -⟩ ac wd hS
 replace i0 : 0 ≤ x5 ∧ x5 ≤ 5 := i0
 replace i1 : x3 = 0 := i1
 refine hS.regS [0] [1, 3, 5] fun _ => seg [(6, vb (decide ((x5 : Int) < 5)))] [(0, none)] [] trivial fun ac wd hS => ?_
 refine wp_seq ?_
 refine hS.condC (decide ((x5 : Int) < 5)) (fun hb1o hb1 => ?_) (fun hb1o hb1 => ?_)
 ·
  refine wp_skip ?_
  refine pop_then ?_
  refine wp_seq ?_
  refine wp_block ?_
  refine hS.regS [0, 0] [1, 3, 5] fun _ => seg [(4, vi x5)] [(0, none)] [] trivial fun ac wd hS => ?_
  refine wp_region_lit ?_
  refine hS.opsC 3 [0, 0, 0] [1, 3, 4, 5] fun _ => seg [(8, vi x3), (9, .agg #[pt b 0, vi o_, vi z]), (10, vi x5)] [(0, none)] [.e (ν1 0), .e (ν1 0), .e (ν1 0)] trivial fun ac wd hS => ?_
  refine hS.call0 86 #[.agg #[pt b 0, vi o_, vi z], vi x5] 11 (b_All_zero b F m o_ z x5 _ (Res.keep hr hS.mem.fr) (by first | assumption | omega | (simp_all; done) | (simp_all; omega)) (by first | assumption | omega | (simp_all; done) | (simp_all; omega))) fun ac wd hS => ?_
  refine hS.opsC 5 [0, 0, 20, 20, 0] [1, 5] fun _ => seg [(3, vi (x3 + (0 * (2 ^ Int.toNat x5))))] [(0, none)] [.p (fit .i64 (x3 + (0 * (2 ^ Int.toNat x5)))), .p (0 ≤ x5 ∧ IntKind.i64.wrap (0 * 2 ^ (min (Int.toNat x5) 64)) = (0 * (2 ^ Int.toNat x5)))] ⟨fit_i64 (by first | omega | (rw [Int.zero_mul]; omega)), shl2_i64 (by omega) (by omega) (by first | omega | (rw [Int.zero_mul]; omega)), trivial⟩ fun ac wd hS => ?_
  refine list_nil ?_
  refine pop_block ?_
  refine pop_then ?_
  refine hS.regC [20, 0] [1, 3] fun _ => seg [(5, vi (x5 + 1))] [(0, none)] [.p (fit .i64 (x5 + 1))] ⟨fit_i64 (by first | omega | (rw [Int.zero_mul]; omega)), trivial⟩ fun ac wd hS => ?_
  exact pop_then (hS.next ((x3 + (0 * (2 ^ Int.toNat x5))), (x5 + 1)) ⟨(by first | omega | assumption | (simp; done) | (simp; omega)), (by rw [i1]; simp), trivial⟩ (by dsimp only; omega))
 ·
  refine wp_exit ?_
  refine pop_then_exit ?_
  refine pop_then_exit ?_
  refine pop_block_hit ?_
  refine pop_then ?_
  refine hS.regS [0, 0] [] fun _ => seg [(2, vi x3)] [] [] trivial fun ac wd hS => ?_
  refine wp_ret ?_
  refine St.retC 0 hS (vi x3) [] trivial fun hw => ?_
  refine ⟨retd (vint ?_), hw.fr0⟩
  all_goals (exact i1)

set_option maxRecDepth 100000 in
set_option maxHeartbeats 1000000 in
theorem law11_BinsTurn_a (g : Nat) (o : Nat) (c : Nat) (n : Nat) (kf : Nat → UInt8) (w : World) (hh0 : HE.holds w 1 (.fn 0 64 dbT)) (hh1 : HE.holds w g (.fn o (o + n) (bytes kf o))) (hn : n ≤ 9223372036854775807) :
    Calls Tryd.prog 6 #[sc g o n c] w fun e w' => e = .returned (vb true) ∧ Fr w w' no no := by
 refine enter (args := [sc g o n c]) (D := no) (A := []) Tryd.func6 rfl 131 rfl [(1, .fn 0 64 dbT), (g, .fn o (o + n) (bytes kf o))] (WS.startL ⟨⟨rfl, hh0⟩, ⟨rfl, hh1⟩, trivial⟩) fun ac hS => ?_
 refine hS.regS [0] [0] fun _ => seg [] [(0, none), (1, none)] [] trivial fun ac wd hS => ?_
 refine wp_seq ?_
 refine wp_region_seq ?_
 refine hS.call0 26 #[] 18 (law11_awake  _ (hS.mem.get 0 1 (.fn 0 64 dbT)) ) fun ac wd hS => ?_
 refine hS.opsC 1 [0] [0] fun _ => seg [(19, vb false)] [(0, none), (1, none)] [] trivial fun ac wd hS => ?_
 refine list_nil_seq ?_
 refine hS.condF ?_
 refine wp_skip ?_
 refine pop_then ?_
 refine wp_seq ?_
 refine hS.regS [0, 0, 0] [0] fun _ => seg [(22, vb (decide ((11 : Int) < ((n : Nat) : Int))))] [(0, none), (1, none)] [] trivial fun ac wd hS => ?_
 refine hS.condC (decide ((11 : Int) < ((n : Nat) : Int))) (fun hb1o hb1 => ?_) (fun hb1o hb1 => ?_)
 ·
  refine hS.regS [0] [] fun _ => seg [(2, vb true)] [(0, none)] [] trivial fun ac wd hS => ?_
  refine wp_ret ?_
  refine pop_then_ret ?_
  refine St.retC 0 hS (vb true) [] trivial fun hw => ?_
  refine ⟨retd rfl, hw.fr0⟩
 ·
  refine wp_skip ?_
  refine pop_then ?_
  refine wp_region_seq ?_
  refine hS.callC 27 #[] (law11_open  _  ) ?_
  rintro _ wd ⟨b'2, F3, rfl, hN, hF⟩
  refine ⟨.tuple #[pt b'2 0, .agg #[pt b'2 0, vi 100, vi 44], vb true], rfl, ?_⟩
  replace hS := (hS.to (hS.mem.newA hN hF)).put (d := 24) (v := .tuple #[pt b'2 0, .agg #[pt b'2 0, vi 100, vi 44], vb true]) (by decide)
  clear hF
  refine hS.opsC 8 [0, 0, 0, 0, 0, 0, 200, 0] [0] fun ν5 => seg [(3, pt b'2 0), (4, pt (ν5 0) 0), (5, vb true)] [(0, none), (1, none), (2, some ((ν5 0), .cells [pt b'2 0, vi 100, vi 44] 67))] [.e (ν5 0), .e (ν5 0), .e (ν5 0)] trivial fun ac wd hS => ?_
  refine list_nil_seq ?_
  refine wp_seq ?_
  refine hS.regS [0, 0, 0] [0, 3, 4, 5] fun _ => seg [(28, sc g o n c), (29, vi ((n : Nat) : Int)), (30, vi 0)] [(0, none), (1, none), (2, none)] [] trivial fun ac wd hS => ?_
  refine wp_block ?_
  refine St.loopC (σ := Bool × Int × (Nat → Prop) × AM) (fun (x : Bool × Int × (Nat → Prop) × AM) => match x with | (x5, x30, Fx, mx) => ⟨[(0, [], sc g o n c), (3, [], pt b'2 0), (4, [], pt (ν5 0) 0), (5, [], vb x5), (28, [], sc g o n c), (29, [], vi ((n : Nat) : Int)), (30, [], vi x30)], [(1, .fn 0 64 dbT), (g, .fn o (o + n) (bytes kf o)), ((ν5 0), .cells [pt b'2 0, vi 100, vi 44] 67)], [arR b'2 Fx mx], (0 ≤ x30 ∧ x30 ≤ (n : Int)) ∧ (BS mx kf (Int.toNat x30)) ∧ (x5 = true) ∧ True, n - Int.toNat x30⟩) (true, 0, F3, (comM (AM.new 13) 0 12)) ⟨(by omega), (by exact bsK_zero kf), (by rfl), trivial⟩ hS ?_
  clear hS
  rintro ⟨x5, x30, Fx, mx⟩ ⟨i0, i1, i2, -⟩ ac wd hS
  replace i0 : 0 ≤ x30 ∧ x30 ≤ (n : Int) := i0
  replace i1 : BS mx kf (Int.toNat x30) := i1
  replace i2 : x5 = true := i2
  have hkr := kK_rng kf (Int.toNat x30)
  refine hS.regS [0] [0, 3, 4, 5, 28, 29, 30] fun _ => seg [(31, vb (decide ((x30 : Int) < ((n : Nat) : Int))))] [(0, none), (1, none), (2, none)] [] trivial fun ac wd hS => ?_
  refine wp_seq ?_
  refine hS.condC (decide ((x30 : Int) < ((n : Nat) : Int))) (fun hb4o hb4 => ?_) (fun hb4o hb4 => ?_)
  ·
   have hQ := bs_pushI i1 i0.1 (by omega)
   refine wp_skip ?_
   refine pop_then ?_
   refine wp_seq ?_
   refine wp_block ?_
   refine hS.regS [0, 20, fx 100 (v8 (((kf (Int.toNat x30)).toNat : Nat) : Int)), 0, 0] [0, 3, 4, 5, 28, 29, 30] fun _ => seg [(6, vi x30), (7, v8 (((kf (Int.toNat x30)).toNat : Nat) : Int))] [(0, none), (1, none), (2, none)] [.p ((((bytes kf o) (o + Int.toNat x30 * 1)) : Value) = v8 (((kf (Int.toNat x30)).toNat : Nat) : Int)), .e g, .p (o ≤ o + Int.toNat x30 * 1 ∧ o + Int.toNat x30 * 1 < (o + n)), .p ((0 : Int) ≤ x30 ∧ (x30 : Int) < ((n : Nat) : Int))] ⟨(bytes_rel kf o (Int.toNat x30)), (by omega), (by omega), trivial⟩ fun ac wd hS => ?_
   refine hS.regS [0, 20, 20, 0, 20, 20, 0, 0, 300] [0, 3, 4, 5, 28, 29, 30] fun ν9 => seg [(8, pt (ν9 0) 0)] [(0, none), (1, none), (2, none), (3, some ((ν9 0), .cells [vi (4096 * (x30 + 1)), vi ((((kf (Int.toNat x30)).toNat) % 5 : Nat) : Int), vu 0, vi 8192] 71))] [.e (ν9 0), .e (ν9 0), .e (ν9 0), .e (ν9 0), .p (fit .i64 ((((kf (Int.toNat x30)).toNat) % 5 : Nat) : Int)), .p ((5 : Int) ≠ 0 ∧ Int.tmod (((kf (Int.toNat x30)).toNat : Nat) : Int) 5 = ((((kf (Int.toNat x30)).toNat) % 5 : Nat) : Int)), .p (fit .i64 (4096 * (x30 + 1))), .p (fit .i64 (x30 + 1))] ⟨fit_i64 (by omega), rem2_n (d := 5) (by trivial) (by omega), fit_i64 (by omega), fit_i64 (by omega), trivial⟩ fun ac wd hS => ?_
   refine wp_region_lit ?_
   refine hS.opsC 2 [0, 0] [0, 3, 4, 5, 8, 28, 29, 30] fun _ => seg [(43, vb x5)] [(0, none), (1, none), (2, none), (3, none)] [] trivial fun ac wd hS => ?_
   have hg5o : x5 = true := by exact i2
   replace hS := hS.fix 5 (vb true) (congrArg Value.bool hg5o)
   replace hS := hS.fix 43 (vb true) (congrArg Value.bool hg5o)
   refine hS.opsC 2 [1, 301] [0, 3, 4, 5, 8, 28, 29, 30, 43] fun _ => seg [(44, pt b'2 0), (45, .agg #[vi (4096 * (x30 + 1)), vi ((((kf (Int.toNat x30)).toNat) % 5 : Nat) : Int), vu 0, vi 8192])] [(0, none), (1, none), (2, none), (3, none)] [.t true, .e (ν9 0), .e (ν9 0), .e (ν9 0), .e (ν9 0), .t true] trivial fun ac wd hS => ?_
   refine hS.callG true 28 #[pt b'2 0, .agg #[vi (4096 * (x30 + 1)), vi ((((kf (Int.toNat x30)).toNat) % 5 : Nat) : Int), vu 0, vi 8192]] (chunk_Write b'2 Fx mx (4096 * (x30 + 1)) ((((kf (Int.toNat x30)).toNat) % 5 : Nat) : Int) 0 8192 _ (hS.mem.res 0) (by omega)) ?_
   rintro _ wd ⟨F6, rfl, hA, hF⟩
   refine ⟨vi (wrcE mx (4096 * (x30 + 1)) ((((kf (Int.toNat x30)).toNat) % 5 : Nat) : Int) 0 8192), rfl, ?_⟩
   replace hS := (hS.to (hS.mem.stepA 0 rfl hA hF)).put (d := 46) (v := vi (wrcE mx (4096 * (x30 + 1)) ((((kf (Int.toNat x30)).toNat) % 5 : Nat) : Int) 0 8192)) (by decide)
   clear hF
   replace hS := hS.fix 46 (vi 0) (show (vi (wrcE mx (4096 * (x30 + 1)) ((((kf (Int.toNat x30)).toNat) % 5 : Nat) : Int) 0 8192) : Value) = vi 0 from (vint (by first | exact hQ.1 | exact hQ.2.1)))
   refine hS.opsC 3 [1, 70, 0] [0, 3, 4, 5, 8, 28, 29, 30] fun _ => seg [(49, vb true)] [(0, none), (1, none), (2, none), (3, none)] [.t true, .t true] trivial fun ac wd hS => ?_
   refine hS.opsC 3 [201, 1, 301] [0, 3, 4, 5, 28, 29, 30, 49] fun _ => seg [(50, .agg #[pt b'2 0, vi 100, vi 44]), (52, vi (4096 * (x30 + 1)))] [(0, none), (1, none), (2, none)] [.t true, .e (ν9 0), .t true, .t true, .e (ν5 0), .e (ν5 0), .e (ν5 0)] trivial fun ac wd hS => ?_
   refine hS.callG true 29 #[.agg #[pt b'2 0, vi 100, vi 44], vi (4096 * (x30 + 1))] (b_Push b'2 F6 (wrcM mx (4096 * (x30 + 1)) ((((kf (Int.toNat x30)).toNat) % 5 : Nat) : Int) 0 8192) 100 44 (4096 * (x30 + 1)) _ (hS.mem.res 0) (by first | assumption | omega | (simp_all; done) | (simp_all; omega))) ?_
   rintro _ wd ⟨F7, rfl, hA, hF⟩
   refine ⟨vi (bpE (wrcM mx (4096 * (x30 + 1)) ((((kf (Int.toNat x30)).toNat) % 5 : Nat) : Int) 0 8192) 100 44 (4096 * (x30 + 1))), rfl, ?_⟩
   replace hS := (hS.to (hS.mem.stepA 0 rfl hA hF)).put (d := 53) (v := vi (bpE (wrcM mx (4096 * (x30 + 1)) ((((kf (Int.toNat x30)).toNat) % 5 : Nat) : Int) 0 8192) 100 44 (4096 * (x30 + 1)))) (by decide)
   clear hF
   replace hS := hS.fix 53 (vi 0) (show (vi (bpE (wrcM mx (4096 * (x30 + 1)) ((((kf (Int.toNat x30)).toNat) % 5 : Nat) : Int) 0 8192) 100 44 (4096 * (x30 + 1))) : Value) = vi 0 from (vint (by first | exact hQ.1 | exact hQ.2.1)))
   refine hS.opsC 3 [1, 70, 0] [0, 3, 4, 28, 29, 30] fun _ => seg [(5, vb true)] [(0, none), (1, none), (2, none)] [.t true, .t true] trivial fun ac wd hS => ?_
   refine list_nil ?_
   refine pop_block ?_
   refine pop_then ?_
   refine hS.regC [20, 0] [0, 3, 4, 5, 28, 29] fun _ => seg [(30, vi (x30 + 1))] [(0, none), (1, none), (2, none)] [.p (fit .i64 (x30 + 1))] ⟨fit_i64 (by omega), trivial⟩ fun ac wd hS => ?_
   exact pop_then (hS.next (true, (x30 + 1), F7, (bpM (wrcM mx (4096 * (x30 + 1)) ((((kf (Int.toNat x30)).toNat) % 5 : Nat) : Int) 0 8192) 100 44 (4096 * (x30 + 1)))) ⟨(by omega), (by exact hQ.2.2), (by rfl), trivial⟩ (by dsimp only; omega))
  ·
   refine wp_exit ?_
   refine pop_then_exit ?_
   refine pop_then_exit ?_
   refine pop_block_hit ?_
   refine pop_then ?_
   refine wp_seq ?_
   refine hS.regS [0, 0] [0, 3, 4] fun _ => seg [(58, vb (!x5))] [(0, none), (1, none), (2, none)] [] trivial fun ac wd hS => ?_
   refine hS.condK (!x5) false (by rw [i2]; rfl) ?_
   show Code.wp _ _ _ _ _
   refine wp_skip ?_
   refine pop_then ?_
   refine wp_seq ?_
   refine hS.regS [0, 0, 0] [0, 3, 4] fun _ => seg [(60, vi ((n : Nat) : Int)), (61, vi 0)] [(0, none), (1, none), (2, none)] [] trivial fun ac wd hS => ?_
   refine wp_block ?_
   refine St.loopC (σ := Int × (Nat → Prop) × AM) (fun (x : Int × (Nat → Prop) × AM) => match x with | (x61, Fx, mx) => ⟨[(0, [], sc g o n c), (3, [], pt b'2 0), (4, [], pt (ν5 0) 0), (60, [], vi ((n : Nat) : Int)), (61, [], vi x61)], [(1, .fn 0 64 dbT), (g, .fn o (o + n) (bytes kf o)), ((ν5 0), .cells [pt b'2 0, vi 100, vi 44] 67)], [arR b'2 Fx mx], (0 ≤ x61 ∧ x61 ≤ (n : Int)) ∧ (BS mx kf (Int.toNat ((n : Int) - x61))) ∧ True, n - Int.toNat x61⟩) (0, Fx, mx) ⟨(by omega), (by rw [show (n : Int) - 0 = x30 by omega]; exact i1), trivial⟩ hS ?_
   clear hS
   rintro ⟨x61, Fx, mx⟩ ⟨i0, i1, -⟩ ac wd hS
   replace i0 : 0 ≤ x61 ∧ x61 ≤ (n : Int) := i0
   replace i1 : BS mx kf (Int.toNat ((n : Int) - x61)) := i1
   have hkr := kK_rng kf (Int.toNat ((((n : Nat) : Int) - 1) - x61))
   refine hS.regS [0] [0, 3, 4, 60, 61] fun _ => seg [(62, vb (decide ((x61 : Int) < ((n : Nat) : Int))))] [(0, none), (1, none), (2, none)] [] trivial fun ac wd hS => ?_
   refine wp_seq ?_
   refine hS.condC (decide ((x61 : Int) < ((n : Nat) : Int))) (fun hb8o hb8 => ?_) (fun hb8o hb8 => ?_)
   ·
    have hP := bs_popI (x := ((((n : Nat) : Int) - 1) - x61)) (by rw [show ((((n : Nat) : Int) - 1) - x61) + 1 = (n : Int) - x61 by omega]; exact i1) (by omega) (by omega)
    refine wp_skip ?_
    refine pop_then ?_
    refine wp_seq ?_
    refine wp_block ?_
    refine hS.regS [0, 0] [0, 3, 4, 60, 61] fun _ => seg [(9, vi x61)] [(0, none), (1, none), (2, none)] [] trivial fun ac wd hS => ?_
    refine hS.regS [0, 0, 20, 0, 20, 0] [0, 3, 4, 60, 61] fun _ => seg [(10, vi ((((n : Nat) : Int) - 1) - x61))] [(0, none), (1, none), (2, none)] [.p (fit .i64 ((((n : Nat) : Int) - 1) - x61)), .p (fit .i64 (((n : Nat) : Int) - 1))] ⟨fit_i64 (by omega), fit_i64 (by omega), trivial⟩ fun ac wd hS => ?_
    refine hS.regS [0, 0, 20, fx 100 (v8 (((kf (Int.toNat ((((n : Nat) : Int) - 1) - x61))).toNat : Nat) : Int)), 20, 20, 0] [0, 3, 4, 10, 60, 61] fun _ => seg [(11, vi ((((kf (Int.toNat ((((n : Nat) : Int) - 1) - x61))).toNat) % 5 : Nat) : Int))] [(0, none), (1, none), (2, none)] [.p (fit .i64 ((((kf (Int.toNat ((((n : Nat) : Int) - 1) - x61))).toNat) % 5 : Nat) : Int)), .p ((5 : Int) ≠ 0 ∧ Int.tmod (((kf (Int.toNat ((((n : Nat) : Int) - 1) - x61))).toNat : Nat) : Int) 5 = ((((kf (Int.toNat ((((n : Nat) : Int) - 1) - x61))).toNat) % 5 : Nat) : Int)), .p ((((bytes kf o) (o + Int.toNat ((((n : Nat) : Int) - 1) - x61) * 1)) : Value) = v8 (((kf (Int.toNat ((((n : Nat) : Int) - 1) - x61))).toNat : Nat) : Int)), .e g, .p (o ≤ o + Int.toNat ((((n : Nat) : Int) - 1) - x61) * 1 ∧ o + Int.toNat ((((n : Nat) : Int) - 1) - x61) * 1 < (o + n)), .p ((0 : Int) ≤ ((((n : Nat) : Int) - 1) - x61) ∧ (((((n : Nat) : Int) - 1) - x61) : Int) < ((n : Nat) : Int))] ⟨fit_i64 (by omega), rem2_n (d := 5) (by trivial) (by omega), (bytes_rel kf o (Int.toNat ((((n : Nat) : Int) - 1) - x61))), (by omega), (by omega), trivial⟩ fun ac wd hS => ?_
    refine wp_region_seq ?_
    refine hS.opsC 2 [200, 0] [0, 3, 4, 10, 11, 60, 61] fun _ => seg [(76, .agg #[pt b'2 0, vi 100, vi 44]), (77, vi ((((kf (Int.toNat ((((n : Nat) : Int) - 1) - x61))).toNat) % 5 : Nat) : Int))] [(0, none), (1, none), (2, none)] [.e (ν5 0), .e (ν5 0), .e (ν5 0)] trivial fun ac wd hS => ?_
    refine hS.callC 30 #[.agg #[pt b'2 0, vi 100, vi 44], vi ((((kf (Int.toNat ((((n : Nat) : Int) - 1) - x61))).toNat) % 5 : Nat) : Int)] (b_Pop_v b'2 Fx mx 100 44 ((((kf (Int.toNat ((((n : Nat) : Int) - 1) - x61))).toNat) % 5 : Nat) : Int) (4096 * (((((n : Nat) : Int) - 1) - x61) + 1)) ((((kf (Int.toNat ((((n : Nat) : Int) - 1) - x61))).toNat) % 5 : Nat) : Int) 0 _ (hS.mem.res 0) (by first | assumption | omega | (simp_all; done) | (simp_all; omega)) (by exact hP.1)) ?_
    rintro _ wd ⟨F9, rfl, hA, hF⟩
    refine ⟨.tuple #[.agg #[vi (4096 * (((((n : Nat) : Int) - 1) - x61) + 1)), vi ((((kf (Int.toNat ((((n : Nat) : Int) - 1) - x61))).toNat) % 5 : Nat) : Int), vu 0, vi 0], vb true], rfl, ?_⟩
    replace hS := (hS.to (hS.mem.stepA 0 rfl hA hF)).put (d := 78) (v := .tuple #[.agg #[vi (4096 * (((((n : Nat) : Int) - 1) - x61) + 1)), vi ((((kf (Int.toNat ((((n : Nat) : Int) - 1) - x61))).toNat) % 5 : Nat) : Int), vu 0, vi 0], vb true]) (by decide)
    clear hF
    refine hS.opsC 6 [0, 0, 0, 0, 300, 0] [0, 3, 4, 10, 11, 60, 61] fun ν23 => seg [(12, pt (ν23 0) 0), (13, vb true)] [(0, none), (1, none), (2, none), (3, some ((ν23 0), .cells [vi (4096 * (((((n : Nat) : Int) - 1) - x61) + 1)), vi ((((kf (Int.toNat ((((n : Nat) : Int) - 1) - x61))).toNat) % 5 : Nat) : Int), vu 0, vi 0] 71))] [.e (ν23 0), .e (ν23 0), .e (ν23 0), .e (ν23 0)] trivial fun ac wd hS => ?_
    refine list_nil_seq ?_
    refine wp_region_seq ?_
    refine hS.opsC 3 [0, 0, 300] [0, 3, 4, 10, 11, 12, 13, 60, 61] fun _ => seg [(82, pt b'2 0), (84, vi (4096 * (((((n : Nat) : Int) - 1) - x61) + 1)))] [(0, none), (1, none), (2, none), (3, none)] [.e (ν23 0)] trivial fun ac wd hS => ?_
    refine hS.call0 31 #[pt b'2 0, vi (4096 * (((((n : Nat) : Int) - 1) - x61) + 1))] 85 (chunk_Read_v b'2 F9 (bqM mx 100 44 ((((kf (Int.toNat ((((n : Nat) : Int) - 1) - x61))).toNat) % 5 : Nat) : Int)) (4096 * (((((n : Nat) : Int) - 1) - x61) + 1)) (4096 * (((((n : Nat) : Int) - 1) - x61) + 1)) ((((kf (Int.toNat ((((n : Nat) : Int) - 1) - x61))).toNat) % 5 : Nat) : Int) 0 0 0 _ (hS.mem.res 0) (by exact hP.2.1)) fun ac wd hS => ?_
    refine hS.opsC 6 [0, 0, 0, 0, 400, 0] [0, 3, 4, 10, 11, 12, 13, 60, 61] fun ν25 => seg [(14, pt (ν25 0) 0), (15, vi 0)] [(0, none), (1, none), (2, none), (3, none), (4, some ((ν25 0), .cells [vi (4096 * (((((n : Nat) : Int) - 1) - x61) + 1)), vi ((((kf (Int.toNat ((((n : Nat) : Int) - 1) - x61))).toNat) % 5 : Nat) : Int), vu 0, vi 0] 71))] [.e (ν25 0), .e (ν25 0), .e (ν25 0), .e (ν25 0)] trivial fun ac wd hS => ?_
    refine list_nil_seq ?_
    refine wp_region_seq ?_
    refine hS.opsC 21 [0, 0, 0, 1, 301, 1, 21, 21, fx 1 (vb false), 60, 0, 1, 301, 1, fx 1 (vb false), 60, 0, 1, fx 1 (vb false), 60, 0] [0, 3, 4, 12, 14, 60, 61] fun _ => seg [(108, vb false)] [(0, none), (1, none), (2, none), (3, none), (4, none)] [.t false, .t false, .p ((vb ((0 : Int) != 0) : Value) = vb false), .t false, .t false, .t false, .p ((vb ((((((kf (Int.toNat ((((n : Nat) : Int) - 1) - x61))).toNat) % 5 : Nat) : Int) : Int) != ((((kf (Int.toNat ((((n : Nat) : Int) - 1) - x61))).toNat) % 5 : Nat) : Int)) : Value) = vb false), .t false, .t false, .e (ν23 0), .t false, .t false, .t false, .p ((vb (((4096 * (((((n : Nat) : Int) - 1) - x61) + 1)) : Int) != (4096 * (((((n : Nat) : Int) - 1) - x61) + 1))) : Value) = vb false), .t false, .p (fit .i64 (4096 * (((((n : Nat) : Int) - 1) - x61) + 1))), .t false, .p (fit .i64 (((((n : Nat) : Int) - 1) - x61) + 1)), .t false, .t false, .e (ν23 0), .t false] ⟨(congrArg Value.bool (bne_self_eq_false _)), (congrArg Value.bool (bne_self_eq_false _)), (congrArg Value.bool (bne_self_eq_false _)), fit_i64 (by omega), fit_i64 (by omega), trivial⟩ fun ac wd hS => ?_
    refine hS.opsC 2 [301, 401] [0, 3, 4, 12, 60, 61, 108] fun _ => seg [(109, .agg #[vi (4096 * (((((n : Nat) : Int) - 1) - x61) + 1)), vi ((((kf (Int.toNat ((((n : Nat) : Int) - 1) - x61))).toNat) % 5 : Nat) : Int), vu 0, vi 0]), (110, .agg #[vi (4096 * (((((n : Nat) : Int) - 1) - x61) + 1)), vi ((((kf (Int.toNat ((((n : Nat) : Int) - 1) - x61))).toNat) % 5 : Nat) : Int), vu 0, vi 0])] [(0, none), (1, none), (2, none), (3, none)] [.t false, .e (ν25 0), .e (ν25 0), .e (ν25 0), .e (ν25 0), .t false, .e (ν23 0), .e (ν23 0), .e (ν23 0), .e (ν23 0)] trivial fun ac wd hS => ?_
    refine Runs1.listG hS 108 false ?_ (by decide)
    refine St.binS hS .neq (.tmp 109) (.tmp 110) 71 71 rfl rfl (by decide) (xs := #[vi (4096 * (((((n : Nat) : Int) - 1) - x61) + 1)), vi ((((kf (Int.toNat ((((n : Nat) : Int) - 1) - x61))).toNat) % 5 : Nat) : Int), vu 0, vi 0]) (ys := #[vi (4096 * (((((n : Nat) : Int) - 1) - x61) + 1)), vi ((((kf (Int.toNat ((((n : Nat) : Int) - 1) - x61))).toNat) % 5 : Nat) : Int), vu 0, vi 0]) (r := vb (!(eqAll [(((4096 * (((((n : Nat) : Int) - 1) - x61) + 1)) : Int), ((4096 * (((((n : Nat) : Int) - 1) - x61) + 1)) : Int)), ((((((kf (Int.toNat ((((n : Nat) : Int) - 1) - x61))).toNat) % 5 : Nat) : Int) : Int), (((((kf (Int.toNat ((((n : Nat) : Int) - 1) - x61))).toNat) % 5 : Nat) : Int) : Int)), ((0 : Int), (0 : Int)), ((0 : Int), (0 : Int))]))) (fun w => run_neS (l := [(((4096 * (((((n : Nat) : Int) - 1) - x61) + 1)) : Int), ((4096 * (((((n : Nat) : Int) - 1) - x61) + 1)) : Int)), ((((((kf (Int.toNat ((((n : Nat) : Int) - 1) - x61))).toNat) % 5 : Nat) : Int) : Int), (((((kf (Int.toNat ((((n : Nat) : Int) - 1) - x61))).toNat) % 5 : Nat) : Int) : Int)), ((0 : Int), (0 : Int)), ((0 : Int), (0 : Int))]) w (by as_aux_lemma => kernel_rfl) (by as_aux_lemma => kernel_rfl) (by as_aux_lemma => kernel_rfl)) (by as_aux_lemma => kernel_rfl) fun ac hS => ?_
    replace hS := hS.fix 111 (vb false) (show (vb (!(eqAll [(((4096 * (((((n : Nat) : Int) - 1) - x61) + 1)) : Int), ((4096 * (((((n : Nat) : Int) - 1) - x61) + 1)) : Int)), ((((((kf (Int.toNat ((((n : Nat) : Int) - 1) - x61))).toNat) % 5 : Nat) : Int) : Int), (((((kf (Int.toNat ((((n : Nat) : Int) - 1) - x61))).toNat) % 5 : Nat) : Int) : Int)), ((0 : Int), (0 : Int)), ((0 : Int), (0 : Int))])) : Value) = vb false from vbool (by simp [eqAll]))
    refine hS.opsC 6 [60, 0, 1, 301, 1, 60] [0, 3, 4, 60, 61] fun _ => seg [(117, vb false)] [(0, none), (1, none), (2, none)] [.t false, .t false, .t false, .e (ν23 0), .t false, .t false] trivial fun ac wd hS => ?_
    refine list_nil_seq ?_
    refine hS.condF ?_
    refine wp_skip ?_
    refine pop_block ?_
    refine pop_then ?_
    refine hS.regC [20, 0] [0, 3, 4, 60] fun _ => seg [(61, vi (x61 + 1))] [(0, none), (1, none), (2, none)] [.p (fit .i64 (x61 + 1))] ⟨fit_i64 (by omega), trivial⟩ fun ac wd hS => ?_
    exact pop_then (hS.next ((x61 + 1), F9, (bqM mx 100 44 ((((kf (Int.toNat ((((n : Nat) : Int) - 1) - x61))).toNat) % 5 : Nat) : Int))) ⟨(by omega), (by rw [show (n : Int) - (x61 + 1) = ((((n : Nat) : Int) - 1) - x61) by omega]; exact hP.2.2), trivial⟩ (by dsimp only; omega))
   ·
    have hZ := bs_none (m := mx) (kf := kf) (by have i2 := i1; rw [show Int.toNat ((n : Int) - x61) = 0 by omega] at i2; exact i2)
    refine wp_exit ?_
    refine pop_then_exit ?_
    refine pop_then_exit ?_
    refine pop_block_hit ?_
    refine pop_then ?_
    refine wp_region_seq ?_
    refine hS.opsC 1 [200] [4] fun _ => seg [(120, .agg #[pt b'2 0, vi 100, vi 44])] [(0, none), (2, none)] [.e (ν5 0), .e (ν5 0), .e (ν5 0)] trivial fun ac wd hS => ?_
    refine hS.call0 32 #[.agg #[pt b'2 0, vi 100, vi 44], vi (-5)] 121 (b_Least_zero b'2 Fx mx 100 44 _ (hS.mem.res 0) (by first | assumption | omega | (simp_all; done) | (simp_all; omega)) (by exact hZ)) fun ac wd hS => ?_
    refine hS.opsC 5 [0, 0, 0, 0, 0] [4] fun _ => seg [(17, vb false)] [(0, none), (1, none)] [] trivial fun ac wd hS => ?_
    refine list_nil_seq ?_
    refine wp_region_seq ?_
    refine hS.opsC 3 [0, 0, 0] [4] fun _ => seg [(126, vb true)] [(0, none), (1, none)] [] trivial fun ac wd hS => ?_
    refine hS.opsC 1 [101] [126] fun _ => seg [(127, .agg #[pt b'2 0, vi 100, vi 44])] [(0, none)] [.t true, .e (ν5 0), .e (ν5 0), .e (ν5 0)] trivial fun ac wd hS => ?_
    refine hS.callG true 33 #[.agg #[pt b'2 0, vi 100, vi 44]] (b_Count_zero b'2 Fx mx 100 44 _ (hS.mem.res 0) (by first | assumption | omega | (simp_all; done) | (simp_all; omega)) (by exact hZ)) ?_
    rintro _ wd ⟨rfl, hF⟩
    refine ⟨vi 0, rfl, ?_⟩
    replace hS := (hS.to (hS.mem.keep0 hF)).put (d := 128) (v := vi 0) (by decide)
    clear hF
    refine hS.opsC 3 [1, 70, 0] [] fun _ => seg [(2, vb true)] [(0, none)] [.t true, .t true] trivial fun ac wd hS => ?_
    refine list_nil_seq ?_
    refine wp_ret ?_
    refine St.retC 0 hS (vb true) [] trivial fun hw => ?_
    refine ⟨retd rfl, hw.fr0⟩

set_option maxRecDepth 100000 in
set_option maxHeartbeats 1000000 in
theorem law11_BinsTurn_c (ao : Option Addr) (c : Nat) (w : World) (hh0 : HE.holds w 1 (.fn 0 64 dbT)) :
    Calls Tryd.prog 6 #[.slice ao 0 c] w fun e w' => e = .returned (vb true) ∧ Fr w w' no no := by
 have hZ : ∀ k, bnN (comM (AM.new 13) 0 12) 100 44 k = 0 := bs_none (bsK_zero (fun _ => 0))
 refine enter (args := [.slice ao 0 c]) (D := no) (A := []) Tryd.func6 rfl 131 rfl [(1, .fn 0 64 dbT)] (WS.startL ⟨⟨rfl, hh0⟩, trivial⟩) fun ac hS => ?_
 refine hS.regS [0] [0] fun _ => seg [] [(0, none)] [] trivial fun ac wd hS => ?_
 refine wp_seq ?_
 refine wp_region_seq ?_
 refine hS.call0 26 #[] 18 (law11_awake  _ (hS.mem.get 0 1 (.fn 0 64 dbT)) ) fun ac wd hS => ?_
 refine hS.opsC 1 [0] [0] fun _ => seg [(19, vb false)] [(0, none)] [] trivial fun ac wd hS => ?_
 refine list_nil_seq ?_
 refine hS.condF ?_
 refine wp_skip ?_
 refine pop_then ?_
 refine wp_seq ?_
 refine hS.regS [0, 0, 0] [0] fun _ => seg [(22, vb false)] [(0, none)] [] trivial fun ac wd hS => ?_
 refine hS.condF ?_
 refine wp_skip ?_
 refine pop_then ?_
 refine wp_region_seq ?_
 refine hS.callC 27 #[] (law11_open  _  ) ?_
 rintro _ wd ⟨b'1, F2, rfl, hN, hF⟩
 refine ⟨.tuple #[pt b'1 0, .agg #[pt b'1 0, vi 100, vi 44], vb true], rfl, ?_⟩
 replace hS := (hS.to (hS.mem.newA hN hF)).put (d := 24) (v := .tuple #[pt b'1 0, .agg #[pt b'1 0, vi 100, vi 44], vb true]) (by decide)
 clear hF
 refine hS.opsC 8 [0, 0, 0, 0, 0, 0, 100, 0] [0] fun ν4 => seg [(3, pt b'1 0), (4, pt (ν4 0) 0), (5, vb true)] [(0, none), (1, some ((ν4 0), .cells [pt b'1 0, vi 100, vi 44] 67))] [.e (ν4 0), .e (ν4 0), .e (ν4 0)] trivial fun ac wd hS => ?_
 refine list_nil_seq ?_
 refine wp_seq ?_
 refine hS.regS [0, 0, 0] [0, 3, 4, 5] fun _ => seg [(28, .slice ao 0 c), (29, vi 0), (30, vi 0)] [(0, none), (1, none)] [] trivial fun ac wd hS => ?_
 refine wp_block ?_
 refine wp_loop_rounds 1 ?_
 refine rounds_in ?_
 refine hS.regS [0] [0, 3, 4, 5, 28, 29, 30] fun _ => seg [(31, vb false)] [(0, none), (1, none)] [] trivial fun ac wd hS => ?_
 refine wp_seq ?_
 refine hS.condF ?_
 refine wp_exit ?_
 refine pop_then_exit ?_
 refine pop_then_exit ?_
 refine pop_block_hit ?_
 refine pop_then ?_
 refine wp_seq ?_
 refine hS.regS [0, 0] [0, 3, 4] fun _ => seg [(58, vb false)] [(0, none), (1, none)] [] trivial fun ac wd hS => ?_
 refine hS.condF ?_
 refine wp_skip ?_
 refine pop_then ?_
 refine wp_seq ?_
 refine hS.regS [0, 0, 0] [0, 3, 4] fun _ => seg [(60, vi 0), (61, vi 0)] [(0, none), (1, none)] [] trivial fun ac wd hS => ?_
 refine wp_block ?_
 refine wp_loop_rounds 1 ?_
 refine rounds_in ?_
 refine hS.regS [0] [0, 3, 4, 60, 61] fun _ => seg [(62, vb false)] [(0, none), (1, none)] [] trivial fun ac wd hS => ?_
 refine wp_seq ?_
 refine hS.condF ?_
 refine wp_exit ?_
 refine pop_then_exit ?_
 refine pop_then_exit ?_
 refine pop_block_hit ?_
 refine pop_then ?_
 refine wp_region_seq ?_
 refine hS.opsC 1 [100] [4] fun _ => seg [(120, .agg #[pt b'1 0, vi 100, vi 44])] [(0, none), (1, none)] [.e (ν4 0), .e (ν4 0), .e (ν4 0)] trivial fun ac wd hS => ?_
 refine hS.call0 32 #[.agg #[pt b'1 0, vi 100, vi 44], vi (-5)] 121 (b_Least_zero b'1 F2 (comM (AM.new 13) 0 12) 100 44 _ (hS.mem.res 0) (by first | assumption | omega | (simp_all; done) | (simp_all; omega)) (by exact hZ)) fun ac wd hS => ?_
 refine hS.opsC 5 [0, 0, 0, 0, 0] [4] fun _ => seg [(17, vb false)] [(0, none), (1, none)] [] trivial fun ac wd hS => ?_
 refine list_nil_seq ?_
 refine wp_region_seq ?_
 refine hS.opsC 3 [0, 0, 0] [4] fun _ => seg [(126, vb true)] [(0, none), (1, none)] [] trivial fun ac wd hS => ?_
 refine hS.opsC 1 [101] [126] fun _ => seg [(127, .agg #[pt b'1 0, vi 100, vi 44])] [(0, none)] [.t true, .e (ν4 0), .e (ν4 0), .e (ν4 0)] trivial fun ac wd hS => ?_
 refine hS.callG true 33 #[.agg #[pt b'1 0, vi 100, vi 44]] (b_Count_zero b'1 F2 (comM (AM.new 13) 0 12) 100 44 _ (hS.mem.res 0) (by first | assumption | omega | (simp_all; done) | (simp_all; omega)) (by exact hZ)) ?_
 rintro _ wd ⟨rfl, hF⟩
 refine ⟨vi 0, rfl, ?_⟩
 replace hS := (hS.to (hS.mem.keep0 hF)).put (d := 128) (v := vi 0) (by decide)
 clear hF
 refine hS.opsC 3 [1, 70, 0] [] fun _ => seg [(2, vb true)] [(0, none)] [.t true, .t true] trivial fun ac wd hS => ?_
 refine list_nil_seq ?_
 refine wp_ret ?_
 refine St.retC 0 hS (vb true) [] trivial fun hw => ?_
 refine ⟨retd rfl, hw.fr0⟩

end Go.Proofs.YtefffenljiaioaaDoor.K
