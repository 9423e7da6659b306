/-
  Walks, printed by w2.py.
-/
import Derived.Test.YtojjkjedcafpeaaGreatDoorM5
import Derived.Test.YtojjkjedcafpeaaGreatDoorVa
import Derived.Test.YtojjkjedcafpeaaGreatDoorQz
import Derived.Test.YtojjkjedcafpeaaGreatDoorSh
import Derived.Test.YtojjkjedcafpeaaGreatDoorSf
import Derived.Test.YtojjkjedcafpeaaGreatDoorProg
namespace Go.Proofs.YtojjkjedcafpeaaGreatDoor.K
set_option linter.unusedVariables false
set_option linter.unusedSimpArgs false

set_option maxRecDepth 100000 in
set_option maxHeartbeats 1000000 in
theorem r06_Pages (a : Int) (w : World) (ha : 0 ≤ a ∧ a ≤ 10) :
    Calls Tryz.prog 88 #[vi a] w fun e w' => e = .returned (vi (pgsN a)) ∧ Fr w w' no no := by
 refine enter (args := [vi a]) (D := no) (A := []) Tryz.func88 rfl 13 rfl [] (WS.startL trivial) fun ac hS => ?_
 refine hS.regS [0] [0] fun _ => seg [] [] [] trivial fun ac wd hS => ?_
 refine hS.regS [0] [0] fun _ => seg [(3, vi 1)] [] [] trivial fun ac wd hS => ?_
 refine wp_seq ?_
 refine hS.regS [0] [0, 3] fun _ => seg [(4, vi 0)] [] [] trivial fun ac wd hS => ?_
 refine wp_block ?_
 refine St.loopC (σ := Int × Int) (fun (x : Int × Int) => match x with | (x3, x4) => ⟨[(0, [], vi a), (3, [], vi x3), (4, [], vi x4)], [], [], (0 ≤ x4 ∧ x4 ≤ a) ∧ (x3 = pgsN x4) ∧ True, Int.toNat (a - x4)⟩) (1, 0) ⟨(by first | omega | rfl), (by first | omega | rfl), trivial⟩ hS ?_
 clear hS
 rintro ⟨x3, x4⟩ ⟨i0, i1, -⟩ ac wd hS
 replace i0 : 0 ≤ x4 ∧ x4 ≤ a := i0
 replace i1 : x3 = pgsN x4 := i1
 have hpb := pgsN_bd (a := x4) (by omega)
 rw [← i1] at hpb
 refine wp_seq ?_
 refine hS.regS [0, 0, 0] [0, 3, 4] fun _ => seg [(7, vb (decide ((x4 : Int) < a)))] [] [] trivial fun ac wd hS => ?_
 refine hS.condC (decide ((x4 : Int) < a)) (fun hb1o hb1 => ?_) (fun hb1o hb1 => ?_)
 ·
  refine wp_skip ?_
  refine pop_then ?_
  refine wp_seq ?_
  refine wp_block ?_
  refine hS.regC [0, 20, 0] [0, 4] fun _ => seg [(3, vi (2 * x3))] [] [.p (fit .i64 (2 * x3))] ⟨fit_i64 (by omega), trivial⟩ fun ac wd hS => ?_
  refine pop_block ?_
  refine pop_then ?_
  refine hS.regC [0, 20, 0] [0, 3] fun _ => seg [(4, vi (x4 + 1))] [] [.p (fit .i64 (x4 + 1))] ⟨fit_i64 (by omega), trivial⟩ fun ac wd hS => ?_
  exact pop_then (hS.next ((2 * x3), (x4 + 1)) ⟨(by first | omega | assumption | (simp; done) | (simp; omega)), (by exact pgsN_step i1 i0.1), trivial⟩ (by dsimp only; omega))
 ·
  refine wp_exit ?_
  refine pop_then_exit ?_
  refine pop_then_exit ?_
  refine pop_block_hit ?_
  refine pop_then ?_
  refine hS.regS [0, 0] [] fun _ => seg [(2, vi x3)] [] [] trivial fun ac wd hS => ?_
  refine wp_ret ?_
  refine St.retC 0 hS (vi x3) [] trivial fun hw => ?_
  refine ⟨retd (vint ?_), hw.fr0⟩
  all_goals (exact i1.trans (congrArg pgsN (by omega)))

theorem str_Repeat (s : ByteArray) (c : Int) (w : World) (hc : 0 ≤ c ∧ (s.size : Int) * c ≤ 1048576 ∧ c ≤ 1048576) :
    Calls Tryz.prog 113 #[.string s, vi c] w fun e w' => e = .returned (.string (repS s (Int.toNat c))) ∧ Fr w w' no no := by
 obtain ⟨h0, h1, h2⟩ := hc
 obtain ⟨n, rfl⟩ : ∃ n : Nat, c = n := ⟨c.toNat, by omega⟩
 refine (Tryz.strings_Repeat s n w (by omega) ?_).mono fun e w' h9 => ⟨?_, Below_Fr h9.2⟩
 · have h3 : ((s.size * n : Nat) : Int) ≤ 1048576 := by rw [Int.natCast_mul]; exact h1
   omega
 · rw [h9.1, Int.toNat_natCast]; rfl

theorem tags_laid_in (s_ : Int) (r_ : Int) (w : World) (h1 : 0 ≤ s_ ∧ s_ ≤ 3) (h2 : 0 ≤ r_ ∧ r_ ≤ 10) :
    Calls Tryz.prog 111 #[.agg #[v8 s_, v8 r_]] w fun e w' => e = .returned (v8 (s_ + 4 * r_)) ∧ Fr w w' no no := by
 have h_ := tags_laid s_ r_ w
 rw [tgb_in h1 h2] at h_
 exact h_

set_option maxRecDepth 100000 in
set_option maxHeartbeats 1000000 in
theorem tags_Lay (b : Nat) (F : Nat → Prop) (m : AM) (o_ : Int) (z : Int) (i : Int) (a : Int) (s_ : Int) (w : World) (hr : (arR b F m).R w) (ho : 0 ≤ o_ ∧ 0 ≤ z ∧ o_ + z ≤ 4294967296) (hs : 0 ≤ s_ ∧ s_ ≤ 255) :
    Calls Tryz.prog 69 #[.agg #[pt b 0, vi o_, vi z], vi i, vi a, v8 s_] w fun e w' => ∃ (F' : Nat → Prop), e = .returned (vi (tgLE m o_ z i a s_)) ∧ (arR b F' (tgLM m o_ z i a s_)).R w' ∧ Fr w w' F F' := by
 refine enter (args := [.agg #[pt b 0, vi o_, vi z], vi i, vi a, v8 s_]) (D := F) (A := [arR b F m]) Tryz.func69 rfl 51 rfl [] (WS.startA (r := arR b F m) hr trivial trivial) fun ac hS => ?_
 refine hS.regS [0, 0] [1, 2, 3] fun ν1 => seg [(4, pt (ν1 0) 0)] [(0, some ((ν1 0), .cells [pt b 0, vi o_, vi z] 52))] [] trivial fun ac wd hS => ?_
 refine wp_seq ?_
 refine wp_block ?_
 refine hS.regS [0, 0, 0, 0, 0] [1, 2, 3, 4] fun _ => seg [(11, vb false)] [(0, none)] [.e (ν1 0)] trivial fun ac wd hS => ?_
 refine hS.condF ?_
 refine wp_seq ?_
 refine hS.regS [0, 0, 0, 3, 3, 80, 0] [1, 2, 3, 4] fun _ => seg [(16, vb ((decide ((a : Int) < 0)) || (decide ((10 : Int) < a))))] [(0, none)] [] trivial fun ac wd hS => ?_
 refine hS.condC ((decide ((a : Int) < 0)) || (decide ((10 : Int) < a))) (fun hb1o hb1 => ?_) (fun hb1o hb1 => ?_)
 ·
  have hbd : rlBad a s_ = true := by unfold rlBad; rw [hb1o]; rfl
  have hD := tl_1 (m := m) (o := o_) (z := z) (i := i) hbd
  replace hS := hS.fix 16 (vb true) (congrArg Value.bool hb1o)
  refine wp_skip ?_
  refine pop_then ?_
  refine hS.condT ?_
  refine hS.regS [0] [] fun _ => seg [(8, vi 2)] [] [] trivial fun ac wd hS => ?_
  refine wp_ret ?_
  refine pop_block_ret ?_
  refine pop_then_ret ?_
  refine St.retC 0 hS (vi 2) [] trivial fun hw => ?_
  refine ⟨F, retd (vint ?_), (res_eq (r := arR b F m) (by first | exact congrArg _ hD.2 | exact congrArg _ ((congrArg (vptM m o_ z i) (tagS_0 hs0)).trans hD.2) | exact congrArg _ ((congrArg (vptM m o_ z i) (tagS_1 hs0)).trans hD.2)) (hw.res 0)), hw.frA⟩
  all_goals (first | exact hD.1 | exact (congrArg (vptE m o_ z i) (tagS_0 hs0)).trans hD.1 | exact (congrArg (vptE m o_ z i) (tagS_1 hs0)).trans hD.1)
 ·
  have hA := hb1o
  replace hS := hS.fix 16 (vb false) (congrArg Value.bool hb1o)
  refine hS.regS [0, 0, 0] [1, 2, 3, 4] fun _ => seg [(16, vb ((s_ : Int) == 1))] [(0, none)] [] trivial fun ac wd hS => ?_
  refine hS.condC ((s_ : Int) == 1) (fun hb2o hb2 => ?_) (fun hb2o hb2 => ?_)
  ·
   have hbd : rlBad a s_ = true := by unfold rlBad; rw [hA, hb2o]; rfl
   have hD := tl_1 (m := m) (o := o_) (z := z) (i := i) hbd
   replace hS := hS.fix 16 (vb true) (congrArg Value.bool hb2o)
   refine wp_skip ?_
   refine pop_then ?_
   refine hS.condT ?_
   refine hS.regS [0] [] fun _ => seg [(8, vi 2)] [] [] trivial fun ac wd hS => ?_
   refine wp_ret ?_
   refine pop_block_ret ?_
   refine pop_then_ret ?_
   refine St.retC 0 hS (vi 2) [] trivial fun hw => ?_
   refine ⟨F, retd (vint ?_), (res_eq (r := arR b F m) (by first | exact congrArg _ hD.2 | exact congrArg _ ((congrArg (vptM m o_ z i) (tagS_0 hs0)).trans hD.2) | exact congrArg _ ((congrArg (vptM m o_ z i) (tagS_1 hs0)).trans hD.2)) (hw.res 0)), hw.frA⟩
   all_goals (first | exact hD.1 | exact (congrArg (vptE m o_ z i) (tagS_0 hs0)).trans hD.1 | exact (congrArg (vptE m o_ z i) (tagS_1 hs0)).trans hD.1)
  ·
   have hB := hb2o
   replace hS := hS.fix 16 (vb false) (congrArg Value.bool hb2o)
   refine hS.regC [0, 0, 0] [1, 2, 3, 4] fun _ => seg [(16, vb (decide ((3 : Int) < s_)))] [(0, none)] [] trivial fun ac wd hS => ?_
   refine pop_then ?_
   refine hS.condC (decide ((3 : Int) < s_)) (fun hb3o hb3 => ?_) (fun hb3o hb3 => ?_)
   ·
    have hbd : rlBad a s_ = true := by unfold rlBad; rw [hA, hB, hb3o]; rfl
    have hD := tl_1 (m := m) (o := o_) (z := z) (i := i) hbd
    replace hS := hS.fix 16 (vb true) (congrArg Value.bool hb3o)
    refine hS.regS [0] [] fun _ => seg [(8, vi 2)] [] [] trivial fun ac wd hS => ?_
    refine wp_ret ?_
    refine pop_block_ret ?_
    refine pop_then_ret ?_
    refine St.retC 0 hS (vi 2) [] trivial fun hw => ?_
    refine ⟨F, retd (vint ?_), (res_eq (r := arR b F m) (by first | exact congrArg _ hD.2 | exact congrArg _ ((congrArg (vptM m o_ z i) (tagS_0 hs0)).trans hD.2) | exact congrArg _ ((congrArg (vptM m o_ z i) (tagS_1 hs0)).trans hD.2)) (hw.res 0)), hw.frA⟩
    all_goals (first | exact hD.1 | exact (congrArg (vptE m o_ z i) (tagS_0 hs0)).trans hD.1 | exact (congrArg (vptE m o_ z i) (tagS_1 hs0)).trans hD.1)
   ·
    have hbd : rlBad a s_ = false := by unfold rlBad; rw [hA, hB, hb3o]; rfl
    obtain ⟨hy1, hy2, hy3, hy4⟩ := rlBad_in hbd
    have hpg := pgsN_bd hy2
    have hsh := pgsN_shl a
    have hD := tl_2 (m := m) (o := o_) (z := z) (i := i) hbd
    replace hS := hS.fix 16 (vb false) (congrArg Value.bool hb3o)
    refine wp_skip ?_
    refine pop_block ?_
    refine pop_then ?_
    refine wp_region_seq ?_
    refine hS.opsC 4 [0, 0, 20, 0] [1, 2, 3, 4] fun _ => seg [(30, .agg #[v8 s_, v8 a])] [(0, none)] [.p (fit .u8 a)] ⟨fit_u8 (by omega), trivial⟩ fun ac wd hS => ?_
    refine hS.call0 111 #[.agg #[v8 s_, v8 a]] 31 (tags_laid_in s_ a _  (by first | assumption | omega | (simp_all; done) | (simp_all; omega)) (by first | assumption | omega | (simp_all; done) | (simp_all; omega))) fun ac wd hS => ?_
    refine hS.opsC 1 [0] [1, 2, 3, 4, 31] fun _ => seg [(32, .agg #[v8 1, v8 0])] [(0, none)] [] trivial fun ac wd hS => ?_
    refine hS.call0 111 #[.agg #[v8 1, v8 0]] 33 (tags_laid_in 1 0 _  (by first | assumption | omega | (simp_all; done) | (simp_all; omega)) (by first | assumption | omega | (simp_all; done) | (simp_all; omega))) fun ac wd hS => ?_
    refine hS.opsC 2 [0, 0] [1, 2, 3, 4] fun _ => seg [(9, v8 (s_ + 4 * a)), (10, v8 (1 + 4 * 0))] [(0, none)] [] trivial fun ac wd hS => ?_
    refine list_nil_seq ?_
    refine wp_seq ?_
    refine hS.regS [0, 0] [1, 2, 4, 9, 10] fun _ => seg [(35, vb ((s_ : Int) == 0))] [(0, none)] [] trivial fun ac wd hS => ?_
    refine hS.condC ((s_ : Int) == 0) (fun hb4o hb4 => ?_) (fun hb4o hb4 => ?_)
    ·
     have hs0 : s_ = 0 := hb4
     replace hS := hS.fix 35 (vb true) (congrArg Value.bool hb4o)
     refine hS.regC [0, 0] [1, 2, 4] fun _ => seg [(9, v8 0), (10, v8 0)] [(0, none)] [] trivial fun ac wd hS => ?_
     refine pop_then ?_
     refine St.ordBeginTS [(0, 1), (1, 1), (2, 1), (3, 1), (6, 1), (9, 1), (10, 1), (11, 1), (4, 0), (5, 0), (7, 0), (8, 0), (12, 0), (13, 1), (14, 0), (15, 1)] (.two [(0, 1), (1, 1), (2, 1), (3, 1), (6, 1), (9, 1), (10, 1), (11, 1)] 4 (.two [] 5 (.lin [(7, 0), (8, 0), (12, 0), (13, 1), (14, 0), (15, 1)]) 7 (.two [] 5 (.lin [(8, 0), (12, 0), (13, 1), (14, 0), (15, 1)]) 8 (.two [] 5 (.lin [(12, 0), (13, 1), (14, 0), (15, 1)]) 12 (.lin [(5, 0), (13, 1), (14, 0), (15, 1)])))) 7 (.two [] 4 (.two [] 5 (.lin [(8, 0), (12, 0), (13, 1), (14, 0), (15, 1)]) 8 (.two [] 5 (.lin [(12, 0), (13, 1), (14, 0), (15, 1)]) 12 (.lin [(5, 0), (13, 1), (14, 0), (15, 1)]))) 8 (.two [] 4 (.two [] 5 (.lin [(12, 0), (13, 1), (14, 0), (15, 1)]) 12 (.lin [(5, 0), (13, 1), (14, 0), (15, 1)])) 12 (.lin [(4, 0), (5, 0), (13, 1), (14, 0), (15, 1)])))) [((ν1 0), .cells [pt b 0, vi o_, vi z] 52)] [0] hS fun wd hS => ?_
     have hap := hS.mem.pairs (Hf := [((ν1 0), .cells [pt b 0, vi o_, vi z] 52)]) (l := [0])
     refine wpT_two ?_
     refine St.ordF [0, 0, 0, 0, 0, 0, 20, 20] [0, 1, 2, 3, 6, 9, 10, 11] [] (rest := []) hS hap <| segF [(37, .agg #[pt b 0, vi o_, vi z]), (38, vi i), (39, v8 0), (42, v8 0), (47, vi ((1 * (2 ^ Int.toNat a)) - 1))] [.p (fit .i64 ((1 * (2 ^ Int.toNat a)) - 1)), .p ((0 : Int) ≤ a ∧ IntKind.i64.wrap (1 * 2 ^ (min (Int.toNat a) 64)) = (1 * (2 ^ Int.toNat a))), .e (ν1 0), .e (ν1 0), .e (ν1 0)] ⟨fit_i64 (by omega), shl2_i64 (by omega) (by omega) (by exact pgsN_sh hy2), trivial⟩ fun ac hS => ?_
     refine ord_nil ?_
     refine ⟨?_, ?_⟩
     ·
      refine St.ord1 4 [0] [37, 38, 42, 47] [0] hS rfl fun ν14 => seg [(40, sc (ν14 0) 0 1 1)] [(0, none), (1, some ((ν14 0), .cells [v8 0] 5))] [] trivial ⟨by as_aux_lemma => kernel_rfl, fun ac wd hS => ?_⟩
      refine ord_nil ?_
      refine wpT_two ?_
      refine ord_nil ?_
      refine ⟨?_, ?_⟩
      ·
       refine Runs1.ord (i := 5) ?_
       refine St.toStr hS (.tmp 40) 75 9 rfl rfl (by decide) Tryz.underlying75 Tryz.underlying5 Tryz.underlying9 (b := (ν14 0)) (off := 0) (k := 1) (cp := 1) (fun _ => u8 0) (Cells8.one (hS.mem.get 1 (ν14 0) (.cells [v8 0] 5)) (by omega)) fun ac hS => ?_
       refine hS.ordV (l := [0]) ?_
       refine ord_nil ?_
       refine wpT_lin ?_
       refine St.ord1 7 [0] [37, 38, 41, 47] [0] hS rfl fun ν15 => seg [(43, sc (ν15 0) 0 1 1)] [(0, none), (1, none), (2, some ((ν15 0), .cells [v8 0] 5))] [] trivial ⟨by as_aux_lemma => kernel_rfl, fun ac wd hS => ?_⟩
       refine Runs1.ord (i := 8) ?_
       refine St.toStr hS (.tmp 43) 75 9 rfl rfl (by decide) Tryz.underlying75 Tryz.underlying5 Tryz.underlying9 (b := (ν15 0)) (off := 0) (k := 1) (cp := 1) (fun _ => u8 0) (Cells8.one (hS.mem.get 2 (ν15 0) (.cells [v8 0] 5)) (by omega)) fun ac hS => ?_
       refine hS.ordV (l := [0]) ?_
       refine hS.ordC 12 113 #[.string (bs (fun _ => u8 0) 1), vi ((1 * (2 ^ Int.toNat a)) - 1)] (str_Repeat (bs (fun _ => u8 0) 1) ((1 * (2 ^ Int.toNat a)) - 1) _  (by (rw [bs_size]; omega))) ?_
       rintro _ wd ⟨rfl, hF⟩
       refine ⟨.string (repS (bs (fun _ => u8 0) 1) (Int.toNat ((1 * (2 ^ Int.toNat a)) - 1))), rfl, ?_⟩
       replace hS := (hS.to (hS.mem.keep0 hF)).put (d := 48) (v := .string (repS (bs (fun _ => u8 0) 1) (Int.toNat ((1 * (2 ^ Int.toNat a)) - 1)))) (by decide)
       clear hF
       refine hS.ordV (l := [0]) ?_
       refine St.ordF [10] [13] [37, 38] (rest := [(14, 0), (15, 1)]) hS hap <| segF [(49, .string ((bs (fun _ => u8 0) 1) ++ (repS (bs (fun _ => u8 0) 1) (Int.toNat ((1 * (2 ^ Int.toNat a)) - 1)))))] [.p (((ByteArray.size (bs (fun _ => u8 0) 1) + ByteArray.size (repS (bs (fun _ => u8 0) 1) (Int.toNat ((1 * (2 ^ Int.toNat a)) - 1))) : Nat) : Int) ≤ IntKind.i64.max)] ⟨(by (rw [bs_size, repS_size]; have hmx : IntKind.i64.max = 9223372036854775807 := rfl; omega)), trivial⟩ fun ac hS => ?_
       refine hS.ordC 14 112 #[.agg #[pt b 0, vi o_, vi z], vi i, .string ((bs (fun _ => u8 0) 1) ++ (repS (bs (fun _ => u8 0) 1) (Int.toNat ((1 * (2 ^ Int.toNat a)) - 1))))] (vw_Put b F m o_ z i ((bs (fun _ => u8 0) 1) ++ (repS (bs (fun _ => u8 0) 1) (Int.toNat ((1 * (2 ^ Int.toNat a)) - 1)))) _ (hS.mem.res 0) (by first | assumption | omega | (simp_all; done) | (simp_all; omega))) ?_
       rintro _ wd ⟨F5, rfl, hA, hF⟩
       refine ⟨vi (vptE m o_ z i ((bs (fun _ => u8 0) 1) ++ (repS (bs (fun _ => u8 0) 1) (Int.toNat ((1 * (2 ^ Int.toNat a)) - 1))))), rfl, ?_⟩
       replace hS := (hS.to (hS.mem.stepA 0 rfl hA hF)).put (d := 50) (v := vi (vptE m o_ z i ((bs (fun _ => u8 0) 1) ++ (repS (bs (fun _ => u8 0) 1) (Int.toNat ((1 * (2 ^ Int.toNat a)) - 1)))))) (by decide)
       clear hF
       refine hS.ordV (l := [0]) ?_
       refine St.ordF [0] [15] [] (rest := []) hS hap <| segF [(8, vi (vptE m o_ z i ((bs (fun _ => u8 0) 1) ++ (repS (bs (fun _ => u8 0) 1) (Int.toNat ((1 * (2 ^ Int.toNat a)) - 1))))))] [] trivial fun ac hS => ?_
       refine ord_nil ?_
       refine wp_ret ?_
       refine St.retC 0 hS (vi (vptE m o_ z i ((bs (fun _ => u8 0) 1) ++ (repS (bs (fun _ => u8 0) 1) (Int.toNat ((1 * (2 ^ Int.toNat a)) - 1)))))) [] trivial fun hw => ?_
       refine ⟨F5, retd (vint ?_), (res_eq (r := arR b F5 (vptM m o_ z i ((bs (fun _ => u8 0) 1) ++ (repS (bs (fun _ => u8 0) 1) (Int.toNat ((1 * (2 ^ Int.toNat a)) - 1)))))) (by first | exact congrArg _ hD.2 | exact congrArg _ ((congrArg (vptM m o_ z i) (tagS_0 hs0)).trans hD.2) | exact congrArg _ ((congrArg (vptM m o_ z i) (tagS_1 hs0)).trans hD.2)) (hw.res 0)), hw.frA⟩
       all_goals (first | exact hD.1 | exact (congrArg (vptE m o_ z i) (tagS_0 hs0)).trans hD.1 | exact (congrArg (vptE m o_ z i) (tagS_1 hs0)).trans hD.1)
      ·
       refine St.ord1 7 [0] [37, 38, 40, 47] [0] hS rfl fun ν16 => seg [(43, sc (ν16 0) 0 1 1)] [(0, none), (1, none), (2, some ((ν16 0), .cells [v8 0] 5))] [] trivial ⟨by as_aux_lemma => kernel_rfl, fun ac wd hS => ?_⟩
       refine ord_nil ?_
       refine wpT_two ?_
       refine ord_nil ?_
       refine ⟨?_, ?_⟩
       ·
        refine Runs1.ord (i := 5) ?_
        refine St.toStr hS (.tmp 40) 75 9 rfl rfl (by decide) Tryz.underlying75 Tryz.underlying5 Tryz.underlying9 (b := (ν14 0)) (off := 0) (k := 1) (cp := 1) (fun _ => u8 0) (Cells8.one (hS.mem.get 1 (ν14 0) (.cells [v8 0] 5)) (by omega)) fun ac hS => ?_
        refine hS.ordV (l := [0]) ?_
        refine ord_nil ?_
        refine wpT_lin ?_
        refine Runs1.ord (i := 8) ?_
        refine St.toStr hS (.tmp 43) 75 9 rfl rfl (by decide) Tryz.underlying75 Tryz.underlying5 Tryz.underlying9 (b := (ν16 0)) (off := 0) (k := 1) (cp := 1) (fun _ => u8 0) (Cells8.one (hS.mem.get 2 (ν16 0) (.cells [v8 0] 5)) (by omega)) fun ac hS => ?_
        refine hS.ordV (l := [0]) ?_
        refine hS.ordC 12 113 #[.string (bs (fun _ => u8 0) 1), vi ((1 * (2 ^ Int.toNat a)) - 1)] (str_Repeat (bs (fun _ => u8 0) 1) ((1 * (2 ^ Int.toNat a)) - 1) _  (by (rw [bs_size]; omega))) ?_
        rintro _ wd ⟨rfl, hF⟩
        refine ⟨.string (repS (bs (fun _ => u8 0) 1) (Int.toNat ((1 * (2 ^ Int.toNat a)) - 1))), rfl, ?_⟩
        replace hS := (hS.to (hS.mem.keep0 hF)).put (d := 48) (v := .string (repS (bs (fun _ => u8 0) 1) (Int.toNat ((1 * (2 ^ Int.toNat a)) - 1)))) (by decide)
        clear hF
        refine hS.ordV (l := [0]) ?_
        refine St.ordF [10] [13] [37, 38] (rest := [(14, 0), (15, 1)]) hS hap <| segF [(49, .string ((bs (fun _ => u8 0) 1) ++ (repS (bs (fun _ => u8 0) 1) (Int.toNat ((1 * (2 ^ Int.toNat a)) - 1)))))] [.p (((ByteArray.size (bs (fun _ => u8 0) 1) + ByteArray.size (repS (bs (fun _ => u8 0) 1) (Int.toNat ((1 * (2 ^ Int.toNat a)) - 1))) : Nat) : Int) ≤ IntKind.i64.max)] ⟨(by (rw [bs_size, repS_size]; have hmx : IntKind.i64.max = 9223372036854775807 := rfl; omega)), trivial⟩ fun ac hS => ?_
        refine hS.ordC 14 112 #[.agg #[pt b 0, vi o_, vi z], vi i, .string ((bs (fun _ => u8 0) 1) ++ (repS (bs (fun _ => u8 0) 1) (Int.toNat ((1 * (2 ^ Int.toNat a)) - 1))))] (vw_Put b F m o_ z i ((bs (fun _ => u8 0) 1) ++ (repS (bs (fun _ => u8 0) 1) (Int.toNat ((1 * (2 ^ Int.toNat a)) - 1)))) _ (hS.mem.res 0) (by first | assumption | omega | (simp_all; done) | (simp_all; omega))) ?_
        rintro _ wd ⟨F6, rfl, hA, hF⟩
        refine ⟨vi (vptE m o_ z i ((bs (fun _ => u8 0) 1) ++ (repS (bs (fun _ => u8 0) 1) (Int.toNat ((1 * (2 ^ Int.toNat a)) - 1))))), rfl, ?_⟩
        replace hS := (hS.to (hS.mem.stepA 0 rfl hA hF)).put (d := 50) (v := vi (vptE m o_ z i ((bs (fun _ => u8 0) 1) ++ (repS (bs (fun _ => u8 0) 1) (Int.toNat ((1 * (2 ^ Int.toNat a)) - 1)))))) (by decide)
        clear hF
        refine hS.ordV (l := [0]) ?_
        refine St.ordF [0] [15] [] (rest := []) hS hap <| segF [(8, vi (vptE m o_ z i ((bs (fun _ => u8 0) 1) ++ (repS (bs (fun _ => u8 0) 1) (Int.toNat ((1 * (2 ^ Int.toNat a)) - 1))))))] [] trivial fun ac hS => ?_
        refine ord_nil ?_
        refine wp_ret ?_
        refine St.retC 0 hS (vi (vptE m o_ z i ((bs (fun _ => u8 0) 1) ++ (repS (bs (fun _ => u8 0) 1) (Int.toNat ((1 * (2 ^ Int.toNat a)) - 1)))))) [] trivial fun hw => ?_
        refine ⟨F6, retd (vint ?_), (res_eq (r := arR b F6 (vptM m o_ z i ((bs (fun _ => u8 0) 1) ++ (repS (bs (fun _ => u8 0) 1) (Int.toNat ((1 * (2 ^ Int.toNat a)) - 1)))))) (by first | exact congrArg _ hD.2 | exact congrArg _ ((congrArg (vptM m o_ z i) (tagS_0 hs0)).trans hD.2) | exact congrArg _ ((congrArg (vptM m o_ z i) (tagS_1 hs0)).trans hD.2)) (hw.res 0)), hw.frA⟩
        all_goals (first | exact hD.1 | exact (congrArg (vptE m o_ z i) (tagS_0 hs0)).trans hD.1 | exact (congrArg (vptE m o_ z i) (tagS_1 hs0)).trans hD.1)
       ·
        refine Runs1.ord (i := 8) ?_
        refine St.toStr hS (.tmp 43) 75 9 rfl rfl (by decide) Tryz.underlying75 Tryz.underlying5 Tryz.underlying9 (b := (ν16 0)) (off := 0) (k := 1) (cp := 1) (fun _ => u8 0) (Cells8.one (hS.mem.get 2 (ν16 0) (.cells [v8 0] 5)) (by omega)) fun ac hS => ?_
        refine hS.ordV (l := [0]) ?_
        refine ord_nil ?_
        refine wpT_two ?_
        refine ord_nil ?_
        refine ⟨?_, ?_⟩
        ·
         refine Runs1.ord (i := 5) ?_
         refine St.toStr hS (.tmp 40) 75 9 rfl rfl (by decide) Tryz.underlying75 Tryz.underlying5 Tryz.underlying9 (b := (ν14 0)) (off := 0) (k := 1) (cp := 1) (fun _ => u8 0) (Cells8.one (hS.mem.get 1 (ν14 0) (.cells [v8 0] 5)) (by omega)) fun ac hS => ?_
         refine hS.ordV (l := [0]) ?_
         refine ord_nil ?_
         refine wpT_lin ?_
         refine hS.ordC 12 113 #[.string (bs (fun _ => u8 0) 1), vi ((1 * (2 ^ Int.toNat a)) - 1)] (str_Repeat (bs (fun _ => u8 0) 1) ((1 * (2 ^ Int.toNat a)) - 1) _  (by (rw [bs_size]; omega))) ?_
         rintro _ wd ⟨rfl, hF⟩
         refine ⟨.string (repS (bs (fun _ => u8 0) 1) (Int.toNat ((1 * (2 ^ Int.toNat a)) - 1))), rfl, ?_⟩
         replace hS := (hS.to (hS.mem.keep0 hF)).put (d := 48) (v := .string (repS (bs (fun _ => u8 0) 1) (Int.toNat ((1 * (2 ^ Int.toNat a)) - 1)))) (by decide)
         clear hF
         refine hS.ordV (l := [0]) ?_
         refine St.ordF [10] [13] [37, 38] (rest := [(14, 0), (15, 1)]) hS hap <| segF [(49, .string ((bs (fun _ => u8 0) 1) ++ (repS (bs (fun _ => u8 0) 1) (Int.toNat ((1 * (2 ^ Int.toNat a)) - 1)))))] [.p (((ByteArray.size (bs (fun _ => u8 0) 1) + ByteArray.size (repS (bs (fun _ => u8 0) 1) (Int.toNat ((1 * (2 ^ Int.toNat a)) - 1))) : Nat) : Int) ≤ IntKind.i64.max)] ⟨(by (rw [bs_size, repS_size]; have hmx : IntKind.i64.max = 9223372036854775807 := rfl; omega)), trivial⟩ fun ac hS => ?_
         refine hS.ordC 14 112 #[.agg #[pt b 0, vi o_, vi z], vi i, .string ((bs (fun _ => u8 0) 1) ++ (repS (bs (fun _ => u8 0) 1) (Int.toNat ((1 * (2 ^ Int.toNat a)) - 1))))] (vw_Put b F m o_ z i ((bs (fun _ => u8 0) 1) ++ (repS (bs (fun _ => u8 0) 1) (Int.toNat ((1 * (2 ^ Int.toNat a)) - 1)))) _ (hS.mem.res 0) (by first | assumption | omega | (simp_all; done) | (simp_all; omega))) ?_
         rintro _ wd ⟨F7, rfl, hA, hF⟩
         refine ⟨vi (vptE m o_ z i ((bs (fun _ => u8 0) 1) ++ (repS (bs (fun _ => u8 0) 1) (Int.toNat ((1 * (2 ^ Int.toNat a)) - 1))))), rfl, ?_⟩
         replace hS := (hS.to (hS.mem.stepA 0 rfl hA hF)).put (d := 50) (v := vi (vptE m o_ z i ((bs (fun _ => u8 0) 1) ++ (repS (bs (fun _ => u8 0) 1) (Int.toNat ((1 * (2 ^ Int.toNat a)) - 1)))))) (by decide)
         clear hF
         refine hS.ordV (l := [0]) ?_
         refine St.ordF [0] [15] [] (rest := []) hS hap <| segF [(8, vi (vptE m o_ z i ((bs (fun _ => u8 0) 1) ++ (repS (bs (fun _ => u8 0) 1) (Int.toNat ((1 * (2 ^ Int.toNat a)) - 1))))))] [] trivial fun ac hS => ?_
         refine ord_nil ?_
         refine wp_ret ?_
         refine St.retC 0 hS (vi (vptE m o_ z i ((bs (fun _ => u8 0) 1) ++ (repS (bs (fun _ => u8 0) 1) (Int.toNat ((1 * (2 ^ Int.toNat a)) - 1)))))) [] trivial fun hw => ?_
         refine ⟨F7, retd (vint ?_), (res_eq (r := arR b F7 (vptM m o_ z i ((bs (fun _ => u8 0) 1) ++ (repS (bs (fun _ => u8 0) 1) (Int.toNat ((1 * (2 ^ Int.toNat a)) - 1)))))) (by first | exact congrArg _ hD.2 | exact congrArg _ ((congrArg (vptM m o_ z i) (tagS_0 hs0)).trans hD.2) | exact congrArg _ ((congrArg (vptM m o_ z i) (tagS_1 hs0)).trans hD.2)) (hw.res 0)), hw.frA⟩
         all_goals (first | exact hD.1 | exact (congrArg (vptE m o_ z i) (tagS_0 hs0)).trans hD.1 | exact (congrArg (vptE m o_ z i) (tagS_1 hs0)).trans hD.1)
        ·
         refine hS.ordC 12 113 #[.string (bs (fun _ => u8 0) 1), vi ((1 * (2 ^ Int.toNat a)) - 1)] (str_Repeat (bs (fun _ => u8 0) 1) ((1 * (2 ^ Int.toNat a)) - 1) _  (by (rw [bs_size]; omega))) ?_
         rintro _ wd ⟨rfl, hF⟩
         refine ⟨.string (repS (bs (fun _ => u8 0) 1) (Int.toNat ((1 * (2 ^ Int.toNat a)) - 1))), rfl, ?_⟩
         replace hS := (hS.to (hS.mem.keep0 hF)).put (d := 48) (v := .string (repS (bs (fun _ => u8 0) 1) (Int.toNat ((1 * (2 ^ Int.toNat a)) - 1)))) (by decide)
         clear hF
         refine hS.ordV (l := [0]) ?_
         refine ord_nil ?_
         refine wpT_lin ?_
         refine Runs1.ord (i := 5) ?_
         refine St.toStr hS (.tmp 40) 75 9 rfl rfl (by decide) Tryz.underlying75 Tryz.underlying5 Tryz.underlying9 (b := (ν14 0)) (off := 0) (k := 1) (cp := 1) (fun _ => u8 0) (Cells8.one (hS.mem.get 1 (ν14 0) (.cells [v8 0] 5)) (by omega)) fun ac hS => ?_
         refine hS.ordV (l := [0]) ?_
         refine St.ordF [10] [13] [37, 38] (rest := [(14, 0), (15, 1)]) hS hap <| segF [(49, .string ((bs (fun _ => u8 0) 1) ++ (repS (bs (fun _ => u8 0) 1) (Int.toNat ((1 * (2 ^ Int.toNat a)) - 1)))))] [.p (((ByteArray.size (bs (fun _ => u8 0) 1) + ByteArray.size (repS (bs (fun _ => u8 0) 1) (Int.toNat ((1 * (2 ^ Int.toNat a)) - 1))) : Nat) : Int) ≤ IntKind.i64.max)] ⟨(by (rw [bs_size, repS_size]; have hmx : IntKind.i64.max = 9223372036854775807 := rfl; omega)), trivial⟩ fun ac hS => ?_
         refine hS.ordC 14 112 #[.agg #[pt b 0, vi o_, vi z], vi i, .string ((bs (fun _ => u8 0) 1) ++ (repS (bs (fun _ => u8 0) 1) (Int.toNat ((1 * (2 ^ Int.toNat a)) - 1))))] (vw_Put b F m o_ z i ((bs (fun _ => u8 0) 1) ++ (repS (bs (fun _ => u8 0) 1) (Int.toNat ((1 * (2 ^ Int.toNat a)) - 1)))) _ (hS.mem.res 0) (by first | assumption | omega | (simp_all; done) | (simp_all; omega))) ?_
         rintro _ wd ⟨F8, rfl, hA, hF⟩
         refine ⟨vi (vptE m o_ z i ((bs (fun _ => u8 0) 1) ++ (repS (bs (fun _ => u8 0) 1) (Int.toNat ((1 * (2 ^ Int.toNat a)) - 1))))), rfl, ?_⟩
         replace hS := (hS.to (hS.mem.stepA 0 rfl hA hF)).put (d := 50) (v := vi (vptE m o_ z i ((bs (fun _ => u8 0) 1) ++ (repS (bs (fun _ => u8 0) 1) (Int.toNat ((1 * (2 ^ Int.toNat a)) - 1)))))) (by decide)
         clear hF
         refine hS.ordV (l := [0]) ?_
         refine St.ordF [0] [15] [] (rest := []) hS hap <| segF [(8, vi (vptE m o_ z i ((bs (fun _ => u8 0) 1) ++ (repS (bs (fun _ => u8 0) 1) (Int.toNat ((1 * (2 ^ Int.toNat a)) - 1))))))] [] trivial fun ac hS => ?_
         refine ord_nil ?_
         refine wp_ret ?_
         refine St.retC 0 hS (vi (vptE m o_ z i ((bs (fun _ => u8 0) 1) ++ (repS (bs (fun _ => u8 0) 1) (Int.toNat ((1 * (2 ^ Int.toNat a)) - 1)))))) [] trivial fun hw => ?_
         refine ⟨F8, retd (vint ?_), (res_eq (r := arR b F8 (vptM m o_ z i ((bs (fun _ => u8 0) 1) ++ (repS (bs (fun _ => u8 0) 1) (Int.toNat ((1 * (2 ^ Int.toNat a)) - 1)))))) (by first | exact congrArg _ hD.2 | exact congrArg _ ((congrArg (vptM m o_ z i) (tagS_0 hs0)).trans hD.2) | exact congrArg _ ((congrArg (vptM m o_ z i) (tagS_1 hs0)).trans hD.2)) (hw.res 0)), hw.frA⟩
         all_goals (first | exact hD.1 | exact (congrArg (vptE m o_ z i) (tagS_0 hs0)).trans hD.1 | exact (congrArg (vptE m o_ z i) (tagS_1 hs0)).trans hD.1)
     ·
      refine St.ord1 7 [0] [37, 38, 39, 47] [0] hS rfl fun ν17 => seg [(43, sc (ν17 0) 0 1 1)] [(0, none), (1, some ((ν17 0), .cells [v8 0] 5))] [] trivial ⟨by as_aux_lemma => kernel_rfl, fun ac wd hS => ?_⟩
      refine ord_nil ?_
      refine wpT_two ?_
      refine ord_nil ?_
      refine ⟨?_, ?_⟩
      ·
       refine St.ord1 4 [0] [37, 38, 43, 47] [0] hS rfl fun ν18 => seg [(40, sc (ν18 0) 0 1 1)] [(0, none), (1, none), (2, some ((ν18 0), .cells [v8 0] 5))] [] trivial ⟨by as_aux_lemma => kernel_rfl, fun ac wd hS => ?_⟩
       refine ord_nil ?_
       refine wpT_two ?_
       refine ord_nil ?_
       refine ⟨?_, ?_⟩
       ·
        refine Runs1.ord (i := 5) ?_
        refine St.toStr hS (.tmp 40) 75 9 rfl rfl (by decide) Tryz.underlying75 Tryz.underlying5 Tryz.underlying9 (b := (ν18 0)) (off := 0) (k := 1) (cp := 1) (fun _ => u8 0) (Cells8.one (hS.mem.get 2 (ν18 0) (.cells [v8 0] 5)) (by omega)) fun ac hS => ?_
        refine hS.ordV (l := [0]) ?_
        refine ord_nil ?_
        refine wpT_lin ?_
        refine Runs1.ord (i := 8) ?_
        refine St.toStr hS (.tmp 43) 75 9 rfl rfl (by decide) Tryz.underlying75 Tryz.underlying5 Tryz.underlying9 (b := (ν17 0)) (off := 0) (k := 1) (cp := 1) (fun _ => u8 0) (Cells8.one (hS.mem.get 1 (ν17 0) (.cells [v8 0] 5)) (by omega)) fun ac hS => ?_
        refine hS.ordV (l := [0]) ?_
        refine hS.ordC 12 113 #[.string (bs (fun _ => u8 0) 1), vi ((1 * (2 ^ Int.toNat a)) - 1)] (str_Repeat (bs (fun _ => u8 0) 1) ((1 * (2 ^ Int.toNat a)) - 1) _  (by (rw [bs_size]; omega))) ?_
        rintro _ wd ⟨rfl, hF⟩
        refine ⟨.string (repS (bs (fun _ => u8 0) 1) (Int.toNat ((1 * (2 ^ Int.toNat a)) - 1))), rfl, ?_⟩
        replace hS := (hS.to (hS.mem.keep0 hF)).put (d := 48) (v := .string (repS (bs (fun _ => u8 0) 1) (Int.toNat ((1 * (2 ^ Int.toNat a)) - 1)))) (by decide)
        clear hF
        refine hS.ordV (l := [0]) ?_
        refine St.ordF [10] [13] [37, 38] (rest := [(14, 0), (15, 1)]) hS hap <| segF [(49, .string ((bs (fun _ => u8 0) 1) ++ (repS (bs (fun _ => u8 0) 1) (Int.toNat ((1 * (2 ^ Int.toNat a)) - 1)))))] [.p (((ByteArray.size (bs (fun _ => u8 0) 1) + ByteArray.size (repS (bs (fun _ => u8 0) 1) (Int.toNat ((1 * (2 ^ Int.toNat a)) - 1))) : Nat) : Int) ≤ IntKind.i64.max)] ⟨(by (rw [bs_size, repS_size]; have hmx : IntKind.i64.max = 9223372036854775807 := rfl; omega)), trivial⟩ fun ac hS => ?_
        refine hS.ordC 14 112 #[.agg #[pt b 0, vi o_, vi z], vi i, .string ((bs (fun _ => u8 0) 1) ++ (repS (bs (fun _ => u8 0) 1) (Int.toNat ((1 * (2 ^ Int.toNat a)) - 1))))] (vw_Put b F m o_ z i ((bs (fun _ => u8 0) 1) ++ (repS (bs (fun _ => u8 0) 1) (Int.toNat ((1 * (2 ^ Int.toNat a)) - 1)))) _ (hS.mem.res 0) (by first | assumption | omega | (simp_all; done) | (simp_all; omega))) ?_
        rintro _ wd ⟨F9, rfl, hA, hF⟩
        refine ⟨vi (vptE m o_ z i ((bs (fun _ => u8 0) 1) ++ (repS (bs (fun _ => u8 0) 1) (Int.toNat ((1 * (2 ^ Int.toNat a)) - 1))))), rfl, ?_⟩
        replace hS := (hS.to (hS.mem.stepA 0 rfl hA hF)).put (d := 50) (v := vi (vptE m o_ z i ((bs (fun _ => u8 0) 1) ++ (repS (bs (fun _ => u8 0) 1) (Int.toNat ((1 * (2 ^ Int.toNat a)) - 1)))))) (by decide)
        clear hF
        refine hS.ordV (l := [0]) ?_
        refine St.ordF [0] [15] [] (rest := []) hS hap <| segF [(8, vi (vptE m o_ z i ((bs (fun _ => u8 0) 1) ++ (repS (bs (fun _ => u8 0) 1) (Int.toNat ((1 * (2 ^ Int.toNat a)) - 1))))))] [] trivial fun ac hS => ?_
        refine ord_nil ?_
        refine wp_ret ?_
        refine St.retC 0 hS (vi (vptE m o_ z i ((bs (fun _ => u8 0) 1) ++ (repS (bs (fun _ => u8 0) 1) (Int.toNat ((1 * (2 ^ Int.toNat a)) - 1)))))) [] trivial fun hw => ?_
        refine ⟨F9, retd (vint ?_), (res_eq (r := arR b F9 (vptM m o_ z i ((bs (fun _ => u8 0) 1) ++ (repS (bs (fun _ => u8 0) 1) (Int.toNat ((1 * (2 ^ Int.toNat a)) - 1)))))) (by first | exact congrArg _ hD.2 | exact congrArg _ ((congrArg (vptM m o_ z i) (tagS_0 hs0)).trans hD.2) | exact congrArg _ ((congrArg (vptM m o_ z i) (tagS_1 hs0)).trans hD.2)) (hw.res 0)), hw.frA⟩
        all_goals (first | exact hD.1 | exact (congrArg (vptE m o_ z i) (tagS_0 hs0)).trans hD.1 | exact (congrArg (vptE m o_ z i) (tagS_1 hs0)).trans hD.1)
       ·
        refine Runs1.ord (i := 8) ?_
        refine St.toStr hS (.tmp 43) 75 9 rfl rfl (by decide) Tryz.underlying75 Tryz.underlying5 Tryz.underlying9 (b := (ν17 0)) (off := 0) (k := 1) (cp := 1) (fun _ => u8 0) (Cells8.one (hS.mem.get 1 (ν17 0) (.cells [v8 0] 5)) (by omega)) fun ac hS => ?_
        refine hS.ordV (l := [0]) ?_
        refine ord_nil ?_
        refine wpT_two ?_
        refine ord_nil ?_
        refine ⟨?_, ?_⟩
        ·
         refine Runs1.ord (i := 5) ?_
         refine St.toStr hS (.tmp 40) 75 9 rfl rfl (by decide) Tryz.underlying75 Tryz.underlying5 Tryz.underlying9 (b := (ν18 0)) (off := 0) (k := 1) (cp := 1) (fun _ => u8 0) (Cells8.one (hS.mem.get 2 (ν18 0) (.cells [v8 0] 5)) (by omega)) fun ac hS => ?_
         refine hS.ordV (l := [0]) ?_
         refine ord_nil ?_
         refine wpT_lin ?_
         refine hS.ordC 12 113 #[.string (bs (fun _ => u8 0) 1), vi ((1 * (2 ^ Int.toNat a)) - 1)] (str_Repeat (bs (fun _ => u8 0) 1) ((1 * (2 ^ Int.toNat a)) - 1) _  (by (rw [bs_size]; omega))) ?_
         rintro _ wd ⟨rfl, hF⟩
         refine ⟨.string (repS (bs (fun _ => u8 0) 1) (Int.toNat ((1 * (2 ^ Int.toNat a)) - 1))), rfl, ?_⟩
         replace hS := (hS.to (hS.mem.keep0 hF)).put (d := 48) (v := .string (repS (bs (fun _ => u8 0) 1) (Int.toNat ((1 * (2 ^ Int.toNat a)) - 1)))) (by decide)
         clear hF
         refine hS.ordV (l := [0]) ?_
         refine St.ordF [10] [13] [37, 38] (rest := [(14, 0), (15, 1)]) hS hap <| segF [(49, .string ((bs (fun _ => u8 0) 1) ++ (repS (bs (fun _ => u8 0) 1) (Int.toNat ((1 * (2 ^ Int.toNat a)) - 1)))))] [.p (((ByteArray.size (bs (fun _ => u8 0) 1) + ByteArray.size (repS (bs (fun _ => u8 0) 1) (Int.toNat ((1 * (2 ^ Int.toNat a)) - 1))) : Nat) : Int) ≤ IntKind.i64.max)] ⟨(by (rw [bs_size, repS_size]; have hmx : IntKind.i64.max = 9223372036854775807 := rfl; omega)), trivial⟩ fun ac hS => ?_
         refine hS.ordC 14 112 #[.agg #[pt b 0, vi o_, vi z], vi i, .string ((bs (fun _ => u8 0) 1) ++ (repS (bs (fun _ => u8 0) 1) (Int.toNat ((1 * (2 ^ Int.toNat a)) - 1))))] (vw_Put b F m o_ z i ((bs (fun _ => u8 0) 1) ++ (repS (bs (fun _ => u8 0) 1) (Int.toNat ((1 * (2 ^ Int.toNat a)) - 1)))) _ (hS.mem.res 0) (by first | assumption | omega | (simp_all; done) | (simp_all; omega))) ?_
         rintro _ wd ⟨F10, rfl, hA, hF⟩
         refine ⟨vi (vptE m o_ z i ((bs (fun _ => u8 0) 1) ++ (repS (bs (fun _ => u8 0) 1) (Int.toNat ((1 * (2 ^ Int.toNat a)) - 1))))), rfl, ?_⟩
         replace hS := (hS.to (hS.mem.stepA 0 rfl hA hF)).put (d := 50) (v := vi (vptE m o_ z i ((bs (fun _ => u8 0) 1) ++ (repS (bs (fun _ => u8 0) 1) (Int.toNat ((1 * (2 ^ Int.toNat a)) - 1)))))) (by decide)
         clear hF
         refine hS.ordV (l := [0]) ?_
         refine St.ordF [0] [15] [] (rest := []) hS hap <| segF [(8, vi (vptE m o_ z i ((bs (fun _ => u8 0) 1) ++ (repS (bs (fun _ => u8 0) 1) (Int.toNat ((1 * (2 ^ Int.toNat a)) - 1))))))] [] trivial fun ac hS => ?_
         refine ord_nil ?_
         refine wp_ret ?_
         refine St.retC 0 hS (vi (vptE m o_ z i ((bs (fun _ => u8 0) 1) ++ (repS (bs (fun _ => u8 0) 1) (Int.toNat ((1 * (2 ^ Int.toNat a)) - 1)))))) [] trivial fun hw => ?_
         refine ⟨F10, retd (vint ?_), (res_eq (r := arR b F10 (vptM m o_ z i ((bs (fun _ => u8 0) 1) ++ (repS (bs (fun _ => u8 0) 1) (Int.toNat ((1 * (2 ^ Int.toNat a)) - 1)))))) (by first | exact congrArg _ hD.2 | exact congrArg _ ((congrArg (vptM m o_ z i) (tagS_0 hs0)).trans hD.2) | exact congrArg _ ((congrArg (vptM m o_ z i) (tagS_1 hs0)).trans hD.2)) (hw.res 0)), hw.frA⟩
         all_goals (first | exact hD.1 | exact (congrArg (vptE m o_ z i) (tagS_0 hs0)).trans hD.1 | exact (congrArg (vptE m o_ z i) (tagS_1 hs0)).trans hD.1)
        ·
         refine hS.ordC 12 113 #[.string (bs (fun _ => u8 0) 1), vi ((1 * (2 ^ Int.toNat a)) - 1)] (str_Repeat (bs (fun _ => u8 0) 1) ((1 * (2 ^ Int.toNat a)) - 1) _  (by (rw [bs_size]; omega))) ?_
         rintro _ wd ⟨rfl, hF⟩
         refine ⟨.string (repS (bs (fun _ => u8 0) 1) (Int.toNat ((1 * (2 ^ Int.toNat a)) - 1))), rfl, ?_⟩
         replace hS := (hS.to (hS.mem.keep0 hF)).put (d := 48) (v := .string (repS (bs (fun _ => u8 0) 1) (Int.toNat ((1 * (2 ^ Int.toNat a)) - 1)))) (by decide)
         clear hF
         refine hS.ordV (l := [0]) ?_
         refine ord_nil ?_
         refine wpT_lin ?_
         refine Runs1.ord (i := 5) ?_
         refine St.toStr hS (.tmp 40) 75 9 rfl rfl (by decide) Tryz.underlying75 Tryz.underlying5 Tryz.underlying9 (b := (ν18 0)) (off := 0) (k := 1) (cp := 1) (fun _ => u8 0) (Cells8.one (hS.mem.get 2 (ν18 0) (.cells [v8 0] 5)) (by omega)) fun ac hS => ?_
         refine hS.ordV (l := [0]) ?_
         refine St.ordF [10] [13] [37, 38] (rest := [(14, 0), (15, 1)]) hS hap <| segF [(49, .string ((bs (fun _ => u8 0) 1) ++ (repS (bs (fun _ => u8 0) 1) (Int.toNat ((1 * (2 ^ Int.toNat a)) - 1)))))] [.p (((ByteArray.size (bs (fun _ => u8 0) 1) + ByteArray.size (repS (bs (fun _ => u8 0) 1) (Int.toNat ((1 * (2 ^ Int.toNat a)) - 1))) : Nat) : Int) ≤ IntKind.i64.max)] ⟨(by (rw [bs_size, repS_size]; have hmx : IntKind.i64.max = 9223372036854775807 := rfl; omega)), trivial⟩ fun ac hS => ?_
         refine hS.ordC 14 112 #[.agg #[pt b 0, vi o_, vi z], vi i, .string ((bs (fun _ => u8 0) 1) ++ (repS (bs (fun _ => u8 0) 1) (Int.toNat ((1 * (2 ^ Int.toNat a)) - 1))))] (vw_Put b F m o_ z i ((bs (fun _ => u8 0) 1) ++ (repS (bs (fun _ => u8 0) 1) (Int.toNat ((1 * (2 ^ Int.toNat a)) - 1)))) _ (hS.mem.res 0) (by first | assumption | omega | (simp_all; done) | (simp_all; omega))) ?_
         rintro _ wd ⟨F11, rfl, hA, hF⟩
         refine ⟨vi (vptE m o_ z i ((bs (fun _ => u8 0) 1) ++ (repS (bs (fun _ => u8 0) 1) (Int.toNat ((1 * (2 ^ Int.toNat a)) - 1))))), rfl, ?_⟩
         replace hS := (hS.to (hS.mem.stepA 0 rfl hA hF)).put (d := 50) (v := vi (vptE m o_ z i ((bs (fun _ => u8 0) 1) ++ (repS (bs (fun _ => u8 0) 1) (Int.toNat ((1 * (2 ^ Int.toNat a)) - 1)))))) (by decide)
         clear hF
         refine hS.ordV (l := [0]) ?_
         refine St.ordF [0] [15] [] (rest := []) hS hap <| segF [(8, vi (vptE m o_ z i ((bs (fun _ => u8 0) 1) ++ (repS (bs (fun _ => u8 0) 1) (Int.toNat ((1 * (2 ^ Int.toNat a)) - 1))))))] [] trivial fun ac hS => ?_
         refine ord_nil ?_
         refine wp_ret ?_
         refine St.retC 0 hS (vi (vptE m o_ z i ((bs (fun _ => u8 0) 1) ++ (repS (bs (fun _ => u8 0) 1) (Int.toNat ((1 * (2 ^ Int.toNat a)) - 1)))))) [] trivial fun hw => ?_
         refine ⟨F11, retd (vint ?_), (res_eq (r := arR b F11 (vptM m o_ z i ((bs (fun _ => u8 0) 1) ++ (repS (bs (fun _ => u8 0) 1) (Int.toNat ((1 * (2 ^ Int.toNat a)) - 1)))))) (by first | exact congrArg _ hD.2 | exact congrArg _ ((congrArg (vptM m o_ z i) (tagS_0 hs0)).trans hD.2) | exact congrArg _ ((congrArg (vptM m o_ z i) (tagS_1 hs0)).trans hD.2)) (hw.res 0)), hw.frA⟩
         all_goals (first | exact hD.1 | exact (congrArg (vptE m o_ z i) (tagS_0 hs0)).trans hD.1 | exact (congrArg (vptE m o_ z i) (tagS_1 hs0)).trans hD.1)
      ·
       refine Runs1.ord (i := 8) ?_
       refine St.toStr hS (.tmp 43) 75 9 rfl rfl (by decide) Tryz.underlying75 Tryz.underlying5 Tryz.underlying9 (b := (ν17 0)) (off := 0) (k := 1) (cp := 1) (fun _ => u8 0) (Cells8.one (hS.mem.get 1 (ν17 0) (.cells [v8 0] 5)) (by omega)) fun ac hS => ?_
       refine hS.ordV (l := [0]) ?_
       refine ord_nil ?_
       refine wpT_two ?_
       refine ord_nil ?_
       refine ⟨?_, ?_⟩
       ·
        refine St.ord1 4 [0] [37, 38, 44, 47] [0] hS rfl fun ν19 => seg [(40, sc (ν19 0) 0 1 1)] [(0, none), (1, none), (2, some ((ν19 0), .cells [v8 0] 5))] [] trivial ⟨by as_aux_lemma => kernel_rfl, fun ac wd hS => ?_⟩
        refine ord_nil ?_
        refine wpT_two ?_
        refine ord_nil ?_
        refine ⟨?_, ?_⟩
        ·
         refine Runs1.ord (i := 5) ?_
         refine St.toStr hS (.tmp 40) 75 9 rfl rfl (by decide) Tryz.underlying75 Tryz.underlying5 Tryz.underlying9 (b := (ν19 0)) (off := 0) (k := 1) (cp := 1) (fun _ => u8 0) (Cells8.one (hS.mem.get 2 (ν19 0) (.cells [v8 0] 5)) (by omega)) fun ac hS => ?_
         refine hS.ordV (l := [0]) ?_
         refine ord_nil ?_
         refine wpT_lin ?_
         refine hS.ordC 12 113 #[.string (bs (fun _ => u8 0) 1), vi ((1 * (2 ^ Int.toNat a)) - 1)] (str_Repeat (bs (fun _ => u8 0) 1) ((1 * (2 ^ Int.toNat a)) - 1) _  (by (rw [bs_size]; omega))) ?_
         rintro _ wd ⟨rfl, hF⟩
         refine ⟨.string (repS (bs (fun _ => u8 0) 1) (Int.toNat ((1 * (2 ^ Int.toNat a)) - 1))), rfl, ?_⟩
         replace hS := (hS.to (hS.mem.keep0 hF)).put (d := 48) (v := .string (repS (bs (fun _ => u8 0) 1) (Int.toNat ((1 * (2 ^ Int.toNat a)) - 1)))) (by decide)
         clear hF
         refine hS.ordV (l := [0]) ?_
         refine St.ordF [10] [13] [37, 38] (rest := [(14, 0), (15, 1)]) hS hap <| segF [(49, .string ((bs (fun _ => u8 0) 1) ++ (repS (bs (fun _ => u8 0) 1) (Int.toNat ((1 * (2 ^ Int.toNat a)) - 1)))))] [.p (((ByteArray.size (bs (fun _ => u8 0) 1) + ByteArray.size (repS (bs (fun _ => u8 0) 1) (Int.toNat ((1 * (2 ^ Int.toNat a)) - 1))) : Nat) : Int) ≤ IntKind.i64.max)] ⟨(by (rw [bs_size, repS_size]; have hmx : IntKind.i64.max = 9223372036854775807 := rfl; omega)), trivial⟩ fun ac hS => ?_
         refine hS.ordC 14 112 #[.agg #[pt b 0, vi o_, vi z], vi i, .string ((bs (fun _ => u8 0) 1) ++ (repS (bs (fun _ => u8 0) 1) (Int.toNat ((1 * (2 ^ Int.toNat a)) - 1))))] (vw_Put b F m o_ z i ((bs (fun _ => u8 0) 1) ++ (repS (bs (fun _ => u8 0) 1) (Int.toNat ((1 * (2 ^ Int.toNat a)) - 1)))) _ (hS.mem.res 0) (by first | assumption | omega | (simp_all; done) | (simp_all; omega))) ?_
         rintro _ wd ⟨F12, rfl, hA, hF⟩
         refine ⟨vi (vptE m o_ z i ((bs (fun _ => u8 0) 1) ++ (repS (bs (fun _ => u8 0) 1) (Int.toNat ((1 * (2 ^ Int.toNat a)) - 1))))), rfl, ?_⟩
         replace hS := (hS.to (hS.mem.stepA 0 rfl hA hF)).put (d := 50) (v := vi (vptE m o_ z i ((bs (fun _ => u8 0) 1) ++ (repS (bs (fun _ => u8 0) 1) (Int.toNat ((1 * (2 ^ Int.toNat a)) - 1)))))) (by decide)
         clear hF
         refine hS.ordV (l := [0]) ?_
         refine St.ordF [0] [15] [] (rest := []) hS hap <| segF [(8, vi (vptE m o_ z i ((bs (fun _ => u8 0) 1) ++ (repS (bs (fun _ => u8 0) 1) (Int.toNat ((1 * (2 ^ Int.toNat a)) - 1))))))] [] trivial fun ac hS => ?_
         refine ord_nil ?_
         refine wp_ret ?_
         refine St.retC 0 hS (vi (vptE m o_ z i ((bs (fun _ => u8 0) 1) ++ (repS (bs (fun _ => u8 0) 1) (Int.toNat ((1 * (2 ^ Int.toNat a)) - 1)))))) [] trivial fun hw => ?_
         refine ⟨F12, retd (vint ?_), (res_eq (r := arR b F12 (vptM m o_ z i ((bs (fun _ => u8 0) 1) ++ (repS (bs (fun _ => u8 0) 1) (Int.toNat ((1 * (2 ^ Int.toNat a)) - 1)))))) (by first | exact congrArg _ hD.2 | exact congrArg _ ((congrArg (vptM m o_ z i) (tagS_0 hs0)).trans hD.2) | exact congrArg _ ((congrArg (vptM m o_ z i) (tagS_1 hs0)).trans hD.2)) (hw.res 0)), hw.frA⟩
         all_goals (first | exact hD.1 | exact (congrArg (vptE m o_ z i) (tagS_0 hs0)).trans hD.1 | exact (congrArg (vptE m o_ z i) (tagS_1 hs0)).trans hD.1)
        ·
         refine hS.ordC 12 113 #[.string (bs (fun _ => u8 0) 1), vi ((1 * (2 ^ Int.toNat a)) - 1)] (str_Repeat (bs (fun _ => u8 0) 1) ((1 * (2 ^ Int.toNat a)) - 1) _  (by (rw [bs_size]; omega))) ?_
         rintro _ wd ⟨rfl, hF⟩
         refine ⟨.string (repS (bs (fun _ => u8 0) 1) (Int.toNat ((1 * (2 ^ Int.toNat a)) - 1))), rfl, ?_⟩
         replace hS := (hS.to (hS.mem.keep0 hF)).put (d := 48) (v := .string (repS (bs (fun _ => u8 0) 1) (Int.toNat ((1 * (2 ^ Int.toNat a)) - 1)))) (by decide)
         clear hF
         refine hS.ordV (l := [0]) ?_
         refine ord_nil ?_
         refine wpT_lin ?_
         refine Runs1.ord (i := 5) ?_
         refine St.toStr hS (.tmp 40) 75 9 rfl rfl (by decide) Tryz.underlying75 Tryz.underlying5 Tryz.underlying9 (b := (ν19 0)) (off := 0) (k := 1) (cp := 1) (fun _ => u8 0) (Cells8.one (hS.mem.get 2 (ν19 0) (.cells [v8 0] 5)) (by omega)) fun ac hS => ?_
         refine hS.ordV (l := [0]) ?_
         refine St.ordF [10] [13] [37, 38] (rest := [(14, 0), (15, 1)]) hS hap <| segF [(49, .string ((bs (fun _ => u8 0) 1) ++ (repS (bs (fun _ => u8 0) 1) (Int.toNat ((1 * (2 ^ Int.toNat a)) - 1)))))] [.p (((ByteArray.size (bs (fun _ => u8 0) 1) + ByteArray.size (repS (bs (fun _ => u8 0) 1) (Int.toNat ((1 * (2 ^ Int.toNat a)) - 1))) : Nat) : Int) ≤ IntKind.i64.max)] ⟨(by (rw [bs_size, repS_size]; have hmx : IntKind.i64.max = 9223372036854775807 := rfl; omega)), trivial⟩ fun ac hS => ?_
         refine hS.ordC 14 112 #[.agg #[pt b 0, vi o_, vi z], vi i, .string ((bs (fun _ => u8 0) 1) ++ (repS (bs (fun _ => u8 0) 1) (Int.toNat ((1 * (2 ^ Int.toNat a)) - 1))))] (vw_Put b F m o_ z i ((bs (fun _ => u8 0) 1) ++ (repS (bs (fun _ => u8 0) 1) (Int.toNat ((1 * (2 ^ Int.toNat a)) - 1)))) _ (hS.mem.res 0) (by first | assumption | omega | (simp_all; done) | (simp_all; omega))) ?_
         rintro _ wd ⟨F13, rfl, hA, hF⟩
         refine ⟨vi (vptE m o_ z i ((bs (fun _ => u8 0) 1) ++ (repS (bs (fun _ => u8 0) 1) (Int.toNat ((1 * (2 ^ Int.toNat a)) - 1))))), rfl, ?_⟩
         replace hS := (hS.to (hS.mem.stepA 0 rfl hA hF)).put (d := 50) (v := vi (vptE m o_ z i ((bs (fun _ => u8 0) 1) ++ (repS (bs (fun _ => u8 0) 1) (Int.toNat ((1 * (2 ^ Int.toNat a)) - 1)))))) (by decide)
         clear hF
         refine hS.ordV (l := [0]) ?_
         refine St.ordF [0] [15] [] (rest := []) hS hap <| segF [(8, vi (vptE m o_ z i ((bs (fun _ => u8 0) 1) ++ (repS (bs (fun _ => u8 0) 1) (Int.toNat ((1 * (2 ^ Int.toNat a)) - 1))))))] [] trivial fun ac hS => ?_
         refine ord_nil ?_
         refine wp_ret ?_
         refine St.retC 0 hS (vi (vptE m o_ z i ((bs (fun _ => u8 0) 1) ++ (repS (bs (fun _ => u8 0) 1) (Int.toNat ((1 * (2 ^ Int.toNat a)) - 1)))))) [] trivial fun hw => ?_
         refine ⟨F13, retd (vint ?_), (res_eq (r := arR b F13 (vptM m o_ z i ((bs (fun _ => u8 0) 1) ++ (repS (bs (fun _ => u8 0) 1) (Int.toNat ((1 * (2 ^ Int.toNat a)) - 1)))))) (by first | exact congrArg _ hD.2 | exact congrArg _ ((congrArg (vptM m o_ z i) (tagS_0 hs0)).trans hD.2) | exact congrArg _ ((congrArg (vptM m o_ z i) (tagS_1 hs0)).trans hD.2)) (hw.res 0)), hw.frA⟩
         all_goals (first | exact hD.1 | exact (congrArg (vptE m o_ z i) (tagS_0 hs0)).trans hD.1 | exact (congrArg (vptE m o_ z i) (tagS_1 hs0)).trans hD.1)
       ·
        refine hS.ordC 12 113 #[.string (bs (fun _ => u8 0) 1), vi ((1 * (2 ^ Int.toNat a)) - 1)] (str_Repeat (bs (fun _ => u8 0) 1) ((1 * (2 ^ Int.toNat a)) - 1) _  (by (rw [bs_size]; omega))) ?_
        rintro _ wd ⟨rfl, hF⟩
        refine ⟨.string (repS (bs (fun _ => u8 0) 1) (Int.toNat ((1 * (2 ^ Int.toNat a)) - 1))), rfl, ?_⟩
        replace hS := (hS.to (hS.mem.keep0 hF)).put (d := 48) (v := .string (repS (bs (fun _ => u8 0) 1) (Int.toNat ((1 * (2 ^ Int.toNat a)) - 1)))) (by decide)
        clear hF
        refine hS.ordV (l := [0]) ?_
        refine ord_nil ?_
        refine wpT_lin ?_
        refine St.ord1 4 [0] [37, 38, 48] [0] hS rfl fun ν20 => seg [(40, sc (ν20 0) 0 1 1)] [(0, none), (1, none), (2, some ((ν20 0), .cells [v8 0] 5))] [] trivial ⟨by as_aux_lemma => kernel_rfl, fun ac wd hS => ?_⟩
        refine Runs1.ord (i := 5) ?_
        refine St.toStr hS (.tmp 40) 75 9 rfl rfl (by decide) Tryz.underlying75 Tryz.underlying5 Tryz.underlying9 (b := (ν20 0)) (off := 0) (k := 1) (cp := 1) (fun _ => u8 0) (Cells8.one (hS.mem.get 2 (ν20 0) (.cells [v8 0] 5)) (by omega)) fun ac hS => ?_
        refine hS.ordV (l := [0]) ?_
        refine St.ordF [10] [13] [37, 38] (rest := [(14, 0), (15, 1)]) hS hap <| segF [(49, .string ((bs (fun _ => u8 0) 1) ++ (repS (bs (fun _ => u8 0) 1) (Int.toNat ((1 * (2 ^ Int.toNat a)) - 1)))))] [.p (((ByteArray.size (bs (fun _ => u8 0) 1) + ByteArray.size (repS (bs (fun _ => u8 0) 1) (Int.toNat ((1 * (2 ^ Int.toNat a)) - 1))) : Nat) : Int) ≤ IntKind.i64.max)] ⟨(by (rw [bs_size, repS_size]; have hmx : IntKind.i64.max = 9223372036854775807 := rfl; omega)), trivial⟩ fun ac hS => ?_
        refine hS.ordC 14 112 #[.agg #[pt b 0, vi o_, vi z], vi i, .string ((bs (fun _ => u8 0) 1) ++ (repS (bs (fun _ => u8 0) 1) (Int.toNat ((1 * (2 ^ Int.toNat a)) - 1))))] (vw_Put b F m o_ z i ((bs (fun _ => u8 0) 1) ++ (repS (bs (fun _ => u8 0) 1) (Int.toNat ((1 * (2 ^ Int.toNat a)) - 1)))) _ (hS.mem.res 0) (by first | assumption | omega | (simp_all; done) | (simp_all; omega))) ?_
        rintro _ wd ⟨F14, rfl, hA, hF⟩
        refine ⟨vi (vptE m o_ z i ((bs (fun _ => u8 0) 1) ++ (repS (bs (fun _ => u8 0) 1) (Int.toNat ((1 * (2 ^ Int.toNat a)) - 1))))), rfl, ?_⟩
        replace hS := (hS.to (hS.mem.stepA 0 rfl hA hF)).put (d := 50) (v := vi (vptE m o_ z i ((bs (fun _ => u8 0) 1) ++ (repS (bs (fun _ => u8 0) 1) (Int.toNat ((1 * (2 ^ Int.toNat a)) - 1)))))) (by decide)
        clear hF
        refine hS.ordV (l := [0]) ?_
        refine St.ordF [0] [15] [] (rest := []) hS hap <| segF [(8, vi (vptE m o_ z i ((bs (fun _ => u8 0) 1) ++ (repS (bs (fun _ => u8 0) 1) (Int.toNat ((1 * (2 ^ Int.toNat a)) - 1))))))] [] trivial fun ac hS => ?_
        refine ord_nil ?_
        refine wp_ret ?_
        refine St.retC 0 hS (vi (vptE m o_ z i ((bs (fun _ => u8 0) 1) ++ (repS (bs (fun _ => u8 0) 1) (Int.toNat ((1 * (2 ^ Int.toNat a)) - 1)))))) [] trivial fun hw => ?_
        refine ⟨F14, retd (vint ?_), (res_eq (r := arR b F14 (vptM m o_ z i ((bs (fun _ => u8 0) 1) ++ (repS (bs (fun _ => u8 0) 1) (Int.toNat ((1 * (2 ^ Int.toNat a)) - 1)))))) (by first | exact congrArg _ hD.2 | exact congrArg _ ((congrArg (vptM m o_ z i) (tagS_0 hs0)).trans hD.2) | exact congrArg _ ((congrArg (vptM m o_ z i) (tagS_1 hs0)).trans hD.2)) (hw.res 0)), hw.frA⟩
        all_goals (first | exact hD.1 | exact (congrArg (vptE m o_ z i) (tagS_0 hs0)).trans hD.1 | exact (congrArg (vptE m o_ z i) (tagS_1 hs0)).trans hD.1)
    ·
     have hs0 : s_ ≠ 0 := hb4
     replace hS := hS.fix 35 (vb false) (congrArg Value.bool hb4o)
     refine wp_skip ?_
     refine pop_then ?_
     refine St.ordBeginTS [(0, 1), (1, 1), (2, 1), (3, 1), (6, 1), (9, 1), (10, 1), (11, 1), (4, 0), (5, 0), (7, 0), (8, 0), (12, 0), (13, 1), (14, 0), (15, 1)] (.two [(0, 1), (1, 1), (2, 1), (3, 1), (6, 1), (9, 1), (10, 1), (11, 1)] 4 (.two [] 5 (.lin [(7, 0), (8, 0), (12, 0), (13, 1), (14, 0), (15, 1)]) 7 (.two [] 5 (.lin [(8, 0), (12, 0), (13, 1), (14, 0), (15, 1)]) 8 (.two [] 5 (.lin [(12, 0), (13, 1), (14, 0), (15, 1)]) 12 (.lin [(5, 0), (13, 1), (14, 0), (15, 1)])))) 7 (.two [] 4 (.two [] 5 (.lin [(8, 0), (12, 0), (13, 1), (14, 0), (15, 1)]) 8 (.two [] 5 (.lin [(12, 0), (13, 1), (14, 0), (15, 1)]) 12 (.lin [(5, 0), (13, 1), (14, 0), (15, 1)]))) 8 (.two [] 4 (.two [] 5 (.lin [(12, 0), (13, 1), (14, 0), (15, 1)]) 12 (.lin [(5, 0), (13, 1), (14, 0), (15, 1)])) 12 (.lin [(4, 0), (5, 0), (13, 1), (14, 0), (15, 1)])))) [((ν1 0), .cells [pt b 0, vi o_, vi z] 52)] [0] hS fun wd hS => ?_
     have hap := hS.mem.pairs (Hf := [((ν1 0), .cells [pt b 0, vi o_, vi z] 52)]) (l := [0])
     refine wpT_two ?_
     refine St.ordF [0, 0, 0, 0, 0, 0, 20, 20] [0, 1, 2, 3, 6, 9, 10, 11] [] (rest := []) hS hap <| segF [(37, .agg #[pt b 0, vi o_, vi z]), (38, vi i), (39, v8 (s_ + 4 * a)), (42, v8 (1 + 4 * 0)), (47, vi ((1 * (2 ^ Int.toNat a)) - 1))] [.p (fit .i64 ((1 * (2 ^ Int.toNat a)) - 1)), .p ((0 : Int) ≤ a ∧ IntKind.i64.wrap (1 * 2 ^ (min (Int.toNat a) 64)) = (1 * (2 ^ Int.toNat a))), .e (ν1 0), .e (ν1 0), .e (ν1 0)] ⟨fit_i64 (by omega), shl2_i64 (by omega) (by omega) (by exact pgsN_sh hy2), trivial⟩ fun ac hS => ?_
     refine ord_nil ?_
     refine ⟨?_, ?_⟩
     ·
      refine St.ord1 4 [0] [37, 38, 42, 47] [0] hS rfl fun ν21 => seg [(40, sc (ν21 0) 0 1 1)] [(0, none), (1, some ((ν21 0), .cells [v8 (s_ + 4 * a)] 5))] [] trivial ⟨by as_aux_lemma => kernel_rfl, fun ac wd hS => ?_⟩
      refine ord_nil ?_
      refine wpT_two ?_
      refine ord_nil ?_
      refine ⟨?_, ?_⟩
      ·
       refine Runs1.ord (i := 5) ?_
       refine St.toStr hS (.tmp 40) 75 9 rfl rfl (by decide) Tryz.underlying75 Tryz.underlying5 Tryz.underlying9 (b := (ν21 0)) (off := 0) (k := 1) (cp := 1) (fun _ => u8 (s_ + 4 * a)) (Cells8.one (hS.mem.get 1 (ν21 0) (.cells [v8 (s_ + 4 * a)] 5)) (by omega)) fun ac hS => ?_
       refine hS.ordV (l := [0]) ?_
       refine ord_nil ?_
       refine wpT_lin ?_
       refine St.ord1 7 [0] [37, 38, 41, 47] [0] hS rfl fun ν22 => seg [(43, sc (ν22 0) 0 1 1)] [(0, none), (1, none), (2, some ((ν22 0), .cells [v8 (1 + 4 * 0)] 5))] [] trivial ⟨by as_aux_lemma => kernel_rfl, fun ac wd hS => ?_⟩
       refine Runs1.ord (i := 8) ?_
       refine St.toStr hS (.tmp 43) 75 9 rfl rfl (by decide) Tryz.underlying75 Tryz.underlying5 Tryz.underlying9 (b := (ν22 0)) (off := 0) (k := 1) (cp := 1) (fun _ => u8 (1 + 4 * 0)) (Cells8.one (hS.mem.get 2 (ν22 0) (.cells [v8 (1 + 4 * 0)] 5)) (by omega)) fun ac hS => ?_
       refine hS.ordV (l := [0]) ?_
       refine hS.ordC 12 113 #[.string (bs (fun _ => u8 (1 + 4 * 0)) 1), vi ((1 * (2 ^ Int.toNat a)) - 1)] (str_Repeat (bs (fun _ => u8 (1 + 4 * 0)) 1) ((1 * (2 ^ Int.toNat a)) - 1) _  (by (rw [bs_size]; omega))) ?_
       rintro _ wd ⟨rfl, hF⟩
       refine ⟨.string (repS (bs (fun _ => u8 (1 + 4 * 0)) 1) (Int.toNat ((1 * (2 ^ Int.toNat a)) - 1))), rfl, ?_⟩
       replace hS := (hS.to (hS.mem.keep0 hF)).put (d := 48) (v := .string (repS (bs (fun _ => u8 (1 + 4 * 0)) 1) (Int.toNat ((1 * (2 ^ Int.toNat a)) - 1)))) (by decide)
       clear hF
       refine hS.ordV (l := [0]) ?_
       refine St.ordF [10] [13] [37, 38] (rest := [(14, 0), (15, 1)]) hS hap <| segF [(49, .string ((bs (fun _ => u8 (s_ + 4 * a)) 1) ++ (repS (bs (fun _ => u8 (1 + 4 * 0)) 1) (Int.toNat ((1 * (2 ^ Int.toNat a)) - 1)))))] [.p (((ByteArray.size (bs (fun _ => u8 (s_ + 4 * a)) 1) + ByteArray.size (repS (bs (fun _ => u8 (1 + 4 * 0)) 1) (Int.toNat ((1 * (2 ^ Int.toNat a)) - 1))) : Nat) : Int) ≤ IntKind.i64.max)] ⟨(by (rw [bs_size, repS_size]; have hmx : IntKind.i64.max = 9223372036854775807 := rfl; omega)), trivial⟩ fun ac hS => ?_
       refine hS.ordC 14 112 #[.agg #[pt b 0, vi o_, vi z], vi i, .string ((bs (fun _ => u8 (s_ + 4 * a)) 1) ++ (repS (bs (fun _ => u8 (1 + 4 * 0)) 1) (Int.toNat ((1 * (2 ^ Int.toNat a)) - 1))))] (vw_Put b F m o_ z i ((bs (fun _ => u8 (s_ + 4 * a)) 1) ++ (repS (bs (fun _ => u8 (1 + 4 * 0)) 1) (Int.toNat ((1 * (2 ^ Int.toNat a)) - 1)))) _ (hS.mem.res 0) (by first | assumption | omega | (simp_all; done) | (simp_all; omega))) ?_
       rintro _ wd ⟨F15, rfl, hA, hF⟩
       refine ⟨vi (vptE m o_ z i ((bs (fun _ => u8 (s_ + 4 * a)) 1) ++ (repS (bs (fun _ => u8 (1 + 4 * 0)) 1) (Int.toNat ((1 * (2 ^ Int.toNat a)) - 1))))), rfl, ?_⟩
       replace hS := (hS.to (hS.mem.stepA 0 rfl hA hF)).put (d := 50) (v := vi (vptE m o_ z i ((bs (fun _ => u8 (s_ + 4 * a)) 1) ++ (repS (bs (fun _ => u8 (1 + 4 * 0)) 1) (Int.toNat ((1 * (2 ^ Int.toNat a)) - 1)))))) (by decide)
       clear hF
       refine hS.ordV (l := [0]) ?_
       refine St.ordF [0] [15] [] (rest := []) hS hap <| segF [(8, vi (vptE m o_ z i ((bs (fun _ => u8 (s_ + 4 * a)) 1) ++ (repS (bs (fun _ => u8 (1 + 4 * 0)) 1) (Int.toNat ((1 * (2 ^ Int.toNat a)) - 1))))))] [] trivial fun ac hS => ?_
       refine ord_nil ?_
       refine wp_ret ?_
       refine St.retC 0 hS (vi (vptE m o_ z i ((bs (fun _ => u8 (s_ + 4 * a)) 1) ++ (repS (bs (fun _ => u8 (1 + 4 * 0)) 1) (Int.toNat ((1 * (2 ^ Int.toNat a)) - 1)))))) [] trivial fun hw => ?_
       refine ⟨F15, retd (vint ?_), (res_eq (r := arR b F15 (vptM m o_ z i ((bs (fun _ => u8 (s_ + 4 * a)) 1) ++ (repS (bs (fun _ => u8 (1 + 4 * 0)) 1) (Int.toNat ((1 * (2 ^ Int.toNat a)) - 1)))))) (by first | exact congrArg _ hD.2 | exact congrArg _ ((congrArg (vptM m o_ z i) (tagS_0 hs0)).trans hD.2) | exact congrArg _ ((congrArg (vptM m o_ z i) (tagS_1 hs0)).trans hD.2)) (hw.res 0)), hw.frA⟩
       all_goals (first | exact hD.1 | exact (congrArg (vptE m o_ z i) (tagS_0 hs0)).trans hD.1 | exact (congrArg (vptE m o_ z i) (tagS_1 hs0)).trans hD.1)
      ·
       refine St.ord1 7 [0] [37, 38, 40, 47] [0] hS rfl fun ν23 => seg [(43, sc (ν23 0) 0 1 1)] [(0, none), (1, none), (2, some ((ν23 0), .cells [v8 (1 + 4 * 0)] 5))] [] trivial ⟨by as_aux_lemma => kernel_rfl, fun ac wd hS => ?_⟩
       refine ord_nil ?_
       refine wpT_two ?_
       refine ord_nil ?_
       refine ⟨?_, ?_⟩
       ·
        refine Runs1.ord (i := 5) ?_
        refine St.toStr hS (.tmp 40) 75 9 rfl rfl (by decide) Tryz.underlying75 Tryz.underlying5 Tryz.underlying9 (b := (ν21 0)) (off := 0) (k := 1) (cp := 1) (fun _ => u8 (s_ + 4 * a)) (Cells8.one (hS.mem.get 1 (ν21 0) (.cells [v8 (s_ + 4 * a)] 5)) (by omega)) fun ac hS => ?_
        refine hS.ordV (l := [0]) ?_
        refine ord_nil ?_
        refine wpT_lin ?_
        refine Runs1.ord (i := 8) ?_
        refine St.toStr hS (.tmp 43) 75 9 rfl rfl (by decide) Tryz.underlying75 Tryz.underlying5 Tryz.underlying9 (b := (ν23 0)) (off := 0) (k := 1) (cp := 1) (fun _ => u8 (1 + 4 * 0)) (Cells8.one (hS.mem.get 2 (ν23 0) (.cells [v8 (1 + 4 * 0)] 5)) (by omega)) fun ac hS => ?_
        refine hS.ordV (l := [0]) ?_
        refine hS.ordC 12 113 #[.string (bs (fun _ => u8 (1 + 4 * 0)) 1), vi ((1 * (2 ^ Int.toNat a)) - 1)] (str_Repeat (bs (fun _ => u8 (1 + 4 * 0)) 1) ((1 * (2 ^ Int.toNat a)) - 1) _  (by (rw [bs_size]; omega))) ?_
        rintro _ wd ⟨rfl, hF⟩
        refine ⟨.string (repS (bs (fun _ => u8 (1 + 4 * 0)) 1) (Int.toNat ((1 * (2 ^ Int.toNat a)) - 1))), rfl, ?_⟩
        replace hS := (hS.to (hS.mem.keep0 hF)).put (d := 48) (v := .string (repS (bs (fun _ => u8 (1 + 4 * 0)) 1) (Int.toNat ((1 * (2 ^ Int.toNat a)) - 1)))) (by decide)
        clear hF
        refine hS.ordV (l := [0]) ?_
        refine St.ordF [10] [13] [37, 38] (rest := [(14, 0), (15, 1)]) hS hap <| segF [(49, .string ((bs (fun _ => u8 (s_ + 4 * a)) 1) ++ (repS (bs (fun _ => u8 (1 + 4 * 0)) 1) (Int.toNat ((1 * (2 ^ Int.toNat a)) - 1)))))] [.p (((ByteArray.size (bs (fun _ => u8 (s_ + 4 * a)) 1) + ByteArray.size (repS (bs (fun _ => u8 (1 + 4 * 0)) 1) (Int.toNat ((1 * (2 ^ Int.toNat a)) - 1))) : Nat) : Int) ≤ IntKind.i64.max)] ⟨(by (rw [bs_size, repS_size]; have hmx : IntKind.i64.max = 9223372036854775807 := rfl; omega)), trivial⟩ fun ac hS => ?_
        refine hS.ordC 14 112 #[.agg #[pt b 0, vi o_, vi z], vi i, .string ((bs (fun _ => u8 (s_ + 4 * a)) 1) ++ (repS (bs (fun _ => u8 (1 + 4 * 0)) 1) (Int.toNat ((1 * (2 ^ Int.toNat a)) - 1))))] (vw_Put b F m o_ z i ((bs (fun _ => u8 (s_ + 4 * a)) 1) ++ (repS (bs (fun _ => u8 (1 + 4 * 0)) 1) (Int.toNat ((1 * (2 ^ Int.toNat a)) - 1)))) _ (hS.mem.res 0) (by first | assumption | omega | (simp_all; done) | (simp_all; omega))) ?_
        rintro _ wd ⟨F16, rfl, hA, hF⟩
        refine ⟨vi (vptE m o_ z i ((bs (fun _ => u8 (s_ + 4 * a)) 1) ++ (repS (bs (fun _ => u8 (1 + 4 * 0)) 1) (Int.toNat ((1 * (2 ^ Int.toNat a)) - 1))))), rfl, ?_⟩
        replace hS := (hS.to (hS.mem.stepA 0 rfl hA hF)).put (d := 50) (v := vi (vptE m o_ z i ((bs (fun _ => u8 (s_ + 4 * a)) 1) ++ (repS (bs (fun _ => u8 (1 + 4 * 0)) 1) (Int.toNat ((1 * (2 ^ Int.toNat a)) - 1)))))) (by decide)
        clear hF
        refine hS.ordV (l := [0]) ?_
        refine St.ordF [0] [15] [] (rest := []) hS hap <| segF [(8, vi (vptE m o_ z i ((bs (fun _ => u8 (s_ + 4 * a)) 1) ++ (repS (bs (fun _ => u8 (1 + 4 * 0)) 1) (Int.toNat ((1 * (2 ^ Int.toNat a)) - 1))))))] [] trivial fun ac hS => ?_
        refine ord_nil ?_
        refine wp_ret ?_
        refine St.retC 0 hS (vi (vptE m o_ z i ((bs (fun _ => u8 (s_ + 4 * a)) 1) ++ (repS (bs (fun _ => u8 (1 + 4 * 0)) 1) (Int.toNat ((1 * (2 ^ Int.toNat a)) - 1)))))) [] trivial fun hw => ?_
        refine ⟨F16, retd (vint ?_), (res_eq (r := arR b F16 (vptM m o_ z i ((bs (fun _ => u8 (s_ + 4 * a)) 1) ++ (repS (bs (fun _ => u8 (1 + 4 * 0)) 1) (Int.toNat ((1 * (2 ^ Int.toNat a)) - 1)))))) (by first | exact congrArg _ hD.2 | exact congrArg _ ((congrArg (vptM m o_ z i) (tagS_0 hs0)).trans hD.2) | exact congrArg _ ((congrArg (vptM m o_ z i) (tagS_1 hs0)).trans hD.2)) (hw.res 0)), hw.frA⟩
        all_goals (first | exact hD.1 | exact (congrArg (vptE m o_ z i) (tagS_0 hs0)).trans hD.1 | exact (congrArg (vptE m o_ z i) (tagS_1 hs0)).trans hD.1)
       ·
        refine Runs1.ord (i := 8) ?_
        refine St.toStr hS (.tmp 43) 75 9 rfl rfl (by decide) Tryz.underlying75 Tryz.underlying5 Tryz.underlying9 (b := (ν23 0)) (off := 0) (k := 1) (cp := 1) (fun _ => u8 (1 + 4 * 0)) (Cells8.one (hS.mem.get 2 (ν23 0) (.cells [v8 (1 + 4 * 0)] 5)) (by omega)) fun ac hS => ?_
        refine hS.ordV (l := [0]) ?_
        refine ord_nil ?_
        refine wpT_two ?_
        refine ord_nil ?_
        refine ⟨?_, ?_⟩
        ·
         refine Runs1.ord (i := 5) ?_
         refine St.toStr hS (.tmp 40) 75 9 rfl rfl (by decide) Tryz.underlying75 Tryz.underlying5 Tryz.underlying9 (b := (ν21 0)) (off := 0) (k := 1) (cp := 1) (fun _ => u8 (s_ + 4 * a)) (Cells8.one (hS.mem.get 1 (ν21 0) (.cells [v8 (s_ + 4 * a)] 5)) (by omega)) fun ac hS => ?_
         refine hS.ordV (l := [0]) ?_
         refine ord_nil ?_
         refine wpT_lin ?_
         refine hS.ordC 12 113 #[.string (bs (fun _ => u8 (1 + 4 * 0)) 1), vi ((1 * (2 ^ Int.toNat a)) - 1)] (str_Repeat (bs (fun _ => u8 (1 + 4 * 0)) 1) ((1 * (2 ^ Int.toNat a)) - 1) _  (by (rw [bs_size]; omega))) ?_
         rintro _ wd ⟨rfl, hF⟩
         refine ⟨.string (repS (bs (fun _ => u8 (1 + 4 * 0)) 1) (Int.toNat ((1 * (2 ^ Int.toNat a)) - 1))), rfl, ?_⟩
         replace hS := (hS.to (hS.mem.keep0 hF)).put (d := 48) (v := .string (repS (bs (fun _ => u8 (1 + 4 * 0)) 1) (Int.toNat ((1 * (2 ^ Int.toNat a)) - 1)))) (by decide)
         clear hF
         refine hS.ordV (l := [0]) ?_
         refine St.ordF [10] [13] [37, 38] (rest := [(14, 0), (15, 1)]) hS hap <| segF [(49, .string ((bs (fun _ => u8 (s_ + 4 * a)) 1) ++ (repS (bs (fun _ => u8 (1 + 4 * 0)) 1) (Int.toNat ((1 * (2 ^ Int.toNat a)) - 1)))))] [.p (((ByteArray.size (bs (fun _ => u8 (s_ + 4 * a)) 1) + ByteArray.size (repS (bs (fun _ => u8 (1 + 4 * 0)) 1) (Int.toNat ((1 * (2 ^ Int.toNat a)) - 1))) : Nat) : Int) ≤ IntKind.i64.max)] ⟨(by (rw [bs_size, repS_size]; have hmx : IntKind.i64.max = 9223372036854775807 := rfl; omega)), trivial⟩ fun ac hS => ?_
         refine hS.ordC 14 112 #[.agg #[pt b 0, vi o_, vi z], vi i, .string ((bs (fun _ => u8 (s_ + 4 * a)) 1) ++ (repS (bs (fun _ => u8 (1 + 4 * 0)) 1) (Int.toNat ((1 * (2 ^ Int.toNat a)) - 1))))] (vw_Put b F m o_ z i ((bs (fun _ => u8 (s_ + 4 * a)) 1) ++ (repS (bs (fun _ => u8 (1 + 4 * 0)) 1) (Int.toNat ((1 * (2 ^ Int.toNat a)) - 1)))) _ (hS.mem.res 0) (by first | assumption | omega | (simp_all; done) | (simp_all; omega))) ?_
         rintro _ wd ⟨F17, rfl, hA, hF⟩
         refine ⟨vi (vptE m o_ z i ((bs (fun _ => u8 (s_ + 4 * a)) 1) ++ (repS (bs (fun _ => u8 (1 + 4 * 0)) 1) (Int.toNat ((1 * (2 ^ Int.toNat a)) - 1))))), rfl, ?_⟩
         replace hS := (hS.to (hS.mem.stepA 0 rfl hA hF)).put (d := 50) (v := vi (vptE m o_ z i ((bs (fun _ => u8 (s_ + 4 * a)) 1) ++ (repS (bs (fun _ => u8 (1 + 4 * 0)) 1) (Int.toNat ((1 * (2 ^ Int.toNat a)) - 1)))))) (by decide)
         clear hF
         refine hS.ordV (l := [0]) ?_
         refine St.ordF [0] [15] [] (rest := []) hS hap <| segF [(8, vi (vptE m o_ z i ((bs (fun _ => u8 (s_ + 4 * a)) 1) ++ (repS (bs (fun _ => u8 (1 + 4 * 0)) 1) (Int.toNat ((1 * (2 ^ Int.toNat a)) - 1))))))] [] trivial fun ac hS => ?_
         refine ord_nil ?_
         refine wp_ret ?_
         refine St.retC 0 hS (vi (vptE m o_ z i ((bs (fun _ => u8 (s_ + 4 * a)) 1) ++ (repS (bs (fun _ => u8 (1 + 4 * 0)) 1) (Int.toNat ((1 * (2 ^ Int.toNat a)) - 1)))))) [] trivial fun hw => ?_
         refine ⟨F17, retd (vint ?_), (res_eq (r := arR b F17 (vptM m o_ z i ((bs (fun _ => u8 (s_ + 4 * a)) 1) ++ (repS (bs (fun _ => u8 (1 + 4 * 0)) 1) (Int.toNat ((1 * (2 ^ Int.toNat a)) - 1)))))) (by first | exact congrArg _ hD.2 | exact congrArg _ ((congrArg (vptM m o_ z i) (tagS_0 hs0)).trans hD.2) | exact congrArg _ ((congrArg (vptM m o_ z i) (tagS_1 hs0)).trans hD.2)) (hw.res 0)), hw.frA⟩
         all_goals (first | exact hD.1 | exact (congrArg (vptE m o_ z i) (tagS_0 hs0)).trans hD.1 | exact (congrArg (vptE m o_ z i) (tagS_1 hs0)).trans hD.1)
        ·
         refine hS.ordC 12 113 #[.string (bs (fun _ => u8 (1 + 4 * 0)) 1), vi ((1 * (2 ^ Int.toNat a)) - 1)] (str_Repeat (bs (fun _ => u8 (1 + 4 * 0)) 1) ((1 * (2 ^ Int.toNat a)) - 1) _  (by (rw [bs_size]; omega))) ?_
         rintro _ wd ⟨rfl, hF⟩
         refine ⟨.string (repS (bs (fun _ => u8 (1 + 4 * 0)) 1) (Int.toNat ((1 * (2 ^ Int.toNat a)) - 1))), rfl, ?_⟩
         replace hS := (hS.to (hS.mem.keep0 hF)).put (d := 48) (v := .string (repS (bs (fun _ => u8 (1 + 4 * 0)) 1) (Int.toNat ((1 * (2 ^ Int.toNat a)) - 1)))) (by decide)
         clear hF
         refine hS.ordV (l := [0]) ?_
         refine ord_nil ?_
         refine wpT_lin ?_
         refine Runs1.ord (i := 5) ?_
         refine St.toStr hS (.tmp 40) 75 9 rfl rfl (by decide) Tryz.underlying75 Tryz.underlying5 Tryz.underlying9 (b := (ν21 0)) (off := 0) (k := 1) (cp := 1) (fun _ => u8 (s_ + 4 * a)) (Cells8.one (hS.mem.get 1 (ν21 0) (.cells [v8 (s_ + 4 * a)] 5)) (by omega)) fun ac hS => ?_
         refine hS.ordV (l := [0]) ?_
         refine St.ordF [10] [13] [37, 38] (rest := [(14, 0), (15, 1)]) hS hap <| segF [(49, .string ((bs (fun _ => u8 (s_ + 4 * a)) 1) ++ (repS (bs (fun _ => u8 (1 + 4 * 0)) 1) (Int.toNat ((1 * (2 ^ Int.toNat a)) - 1)))))] [.p (((ByteArray.size (bs (fun _ => u8 (s_ + 4 * a)) 1) + ByteArray.size (repS (bs (fun _ => u8 (1 + 4 * 0)) 1) (Int.toNat ((1 * (2 ^ Int.toNat a)) - 1))) : Nat) : Int) ≤ IntKind.i64.max)] ⟨(by (rw [bs_size, repS_size]; have hmx : IntKind.i64.max = 9223372036854775807 := rfl; omega)), trivial⟩ fun ac hS => ?_
         refine hS.ordC 14 112 #[.agg #[pt b 0, vi o_, vi z], vi i, .string ((bs (fun _ => u8 (s_ + 4 * a)) 1) ++ (repS (bs (fun _ => u8 (1 + 4 * 0)) 1) (Int.toNat ((1 * (2 ^ Int.toNat a)) - 1))))] (vw_Put b F m o_ z i ((bs (fun _ => u8 (s_ + 4 * a)) 1) ++ (repS (bs (fun _ => u8 (1 + 4 * 0)) 1) (Int.toNat ((1 * (2 ^ Int.toNat a)) - 1)))) _ (hS.mem.res 0) (by first | assumption | omega | (simp_all; done) | (simp_all; omega))) ?_
         rintro _ wd ⟨F18, rfl, hA, hF⟩
         refine ⟨vi (vptE m o_ z i ((bs (fun _ => u8 (s_ + 4 * a)) 1) ++ (repS (bs (fun _ => u8 (1 + 4 * 0)) 1) (Int.toNat ((1 * (2 ^ Int.toNat a)) - 1))))), rfl, ?_⟩
         replace hS := (hS.to (hS.mem.stepA 0 rfl hA hF)).put (d := 50) (v := vi (vptE m o_ z i ((bs (fun _ => u8 (s_ + 4 * a)) 1) ++ (repS (bs (fun _ => u8 (1 + 4 * 0)) 1) (Int.toNat ((1 * (2 ^ Int.toNat a)) - 1)))))) (by decide)
         clear hF
         refine hS.ordV (l := [0]) ?_
         refine St.ordF [0] [15] [] (rest := []) hS hap <| segF [(8, vi (vptE m o_ z i ((bs (fun _ => u8 (s_ + 4 * a)) 1) ++ (repS (bs (fun _ => u8 (1 + 4 * 0)) 1) (Int.toNat ((1 * (2 ^ Int.toNat a)) - 1))))))] [] trivial fun ac hS => ?_
         refine ord_nil ?_
         refine wp_ret ?_
         refine St.retC 0 hS (vi (vptE m o_ z i ((bs (fun _ => u8 (s_ + 4 * a)) 1) ++ (repS (bs (fun _ => u8 (1 + 4 * 0)) 1) (Int.toNat ((1 * (2 ^ Int.toNat a)) - 1)))))) [] trivial fun hw => ?_
         refine ⟨F18, retd (vint ?_), (res_eq (r := arR b F18 (vptM m o_ z i ((bs (fun _ => u8 (s_ + 4 * a)) 1) ++ (repS (bs (fun _ => u8 (1 + 4 * 0)) 1) (Int.toNat ((1 * (2 ^ Int.toNat a)) - 1)))))) (by first | exact congrArg _ hD.2 | exact congrArg _ ((congrArg (vptM m o_ z i) (tagS_0 hs0)).trans hD.2) | exact congrArg _ ((congrArg (vptM m o_ z i) (tagS_1 hs0)).trans hD.2)) (hw.res 0)), hw.frA⟩
         all_goals (first | exact hD.1 | exact (congrArg (vptE m o_ z i) (tagS_0 hs0)).trans hD.1 | exact (congrArg (vptE m o_ z i) (tagS_1 hs0)).trans hD.1)
     ·
      refine St.ord1 7 [0] [37, 38, 39, 47] [0] hS rfl fun ν24 => seg [(43, sc (ν24 0) 0 1 1)] [(0, none), (1, some ((ν24 0), .cells [v8 (1 + 4 * 0)] 5))] [] trivial ⟨by as_aux_lemma => kernel_rfl, fun ac wd hS => ?_⟩
      refine ord_nil ?_
      refine wpT_two ?_
      refine ord_nil ?_
      refine ⟨?_, ?_⟩
      ·
       refine St.ord1 4 [0] [37, 38, 43, 47] [0] hS rfl fun ν25 => seg [(40, sc (ν25 0) 0 1 1)] [(0, none), (1, none), (2, some ((ν25 0), .cells [v8 (s_ + 4 * a)] 5))] [] trivial ⟨by as_aux_lemma => kernel_rfl, fun ac wd hS => ?_⟩
       refine ord_nil ?_
       refine wpT_two ?_
       refine ord_nil ?_
       refine ⟨?_, ?_⟩
       ·
        refine Runs1.ord (i := 5) ?_
        refine St.toStr hS (.tmp 40) 75 9 rfl rfl (by decide) Tryz.underlying75 Tryz.underlying5 Tryz.underlying9 (b := (ν25 0)) (off := 0) (k := 1) (cp := 1) (fun _ => u8 (s_ + 4 * a)) (Cells8.one (hS.mem.get 2 (ν25 0) (.cells [v8 (s_ + 4 * a)] 5)) (by omega)) fun ac hS => ?_
        refine hS.ordV (l := [0]) ?_
        refine ord_nil ?_
        refine wpT_lin ?_
        refine Runs1.ord (i := 8) ?_
        refine St.toStr hS (.tmp 43) 75 9 rfl rfl (by decide) Tryz.underlying75 Tryz.underlying5 Tryz.underlying9 (b := (ν24 0)) (off := 0) (k := 1) (cp := 1) (fun _ => u8 (1 + 4 * 0)) (Cells8.one (hS.mem.get 1 (ν24 0) (.cells [v8 (1 + 4 * 0)] 5)) (by omega)) fun ac hS => ?_
        refine hS.ordV (l := [0]) ?_
        refine hS.ordC 12 113 #[.string (bs (fun _ => u8 (1 + 4 * 0)) 1), vi ((1 * (2 ^ Int.toNat a)) - 1)] (str_Repeat (bs (fun _ => u8 (1 + 4 * 0)) 1) ((1 * (2 ^ Int.toNat a)) - 1) _  (by (rw [bs_size]; omega))) ?_
        rintro _ wd ⟨rfl, hF⟩
        refine ⟨.string (repS (bs (fun _ => u8 (1 + 4 * 0)) 1) (Int.toNat ((1 * (2 ^ Int.toNat a)) - 1))), rfl, ?_⟩
        replace hS := (hS.to (hS.mem.keep0 hF)).put (d := 48) (v := .string (repS (bs (fun _ => u8 (1 + 4 * 0)) 1) (Int.toNat ((1 * (2 ^ Int.toNat a)) - 1)))) (by decide)
        clear hF
        refine hS.ordV (l := [0]) ?_
        refine St.ordF [10] [13] [37, 38] (rest := [(14, 0), (15, 1)]) hS hap <| segF [(49, .string ((bs (fun _ => u8 (s_ + 4 * a)) 1) ++ (repS (bs (fun _ => u8 (1 + 4 * 0)) 1) (Int.toNat ((1 * (2 ^ Int.toNat a)) - 1)))))] [.p (((ByteArray.size (bs (fun _ => u8 (s_ + 4 * a)) 1) + ByteArray.size (repS (bs (fun _ => u8 (1 + 4 * 0)) 1) (Int.toNat ((1 * (2 ^ Int.toNat a)) - 1))) : Nat) : Int) ≤ IntKind.i64.max)] ⟨(by (rw [bs_size, repS_size]; have hmx : IntKind.i64.max = 9223372036854775807 := rfl; omega)), trivial⟩ fun ac hS => ?_
        refine hS.ordC 14 112 #[.agg #[pt b 0, vi o_, vi z], vi i, .string ((bs (fun _ => u8 (s_ + 4 * a)) 1) ++ (repS (bs (fun _ => u8 (1 + 4 * 0)) 1) (Int.toNat ((1 * (2 ^ Int.toNat a)) - 1))))] (vw_Put b F m o_ z i ((bs (fun _ => u8 (s_ + 4 * a)) 1) ++ (repS (bs (fun _ => u8 (1 + 4 * 0)) 1) (Int.toNat ((1 * (2 ^ Int.toNat a)) - 1)))) _ (hS.mem.res 0) (by first | assumption | omega | (simp_all; done) | (simp_all; omega))) ?_
        rintro _ wd ⟨F19, rfl, hA, hF⟩
        refine ⟨vi (vptE m o_ z i ((bs (fun _ => u8 (s_ + 4 * a)) 1) ++ (repS (bs (fun _ => u8 (1 + 4 * 0)) 1) (Int.toNat ((1 * (2 ^ Int.toNat a)) - 1))))), rfl, ?_⟩
        replace hS := (hS.to (hS.mem.stepA 0 rfl hA hF)).put (d := 50) (v := vi (vptE m o_ z i ((bs (fun _ => u8 (s_ + 4 * a)) 1) ++ (repS (bs (fun _ => u8 (1 + 4 * 0)) 1) (Int.toNat ((1 * (2 ^ Int.toNat a)) - 1)))))) (by decide)
        clear hF
        refine hS.ordV (l := [0]) ?_
        refine St.ordF [0] [15] [] (rest := []) hS hap <| segF [(8, vi (vptE m o_ z i ((bs (fun _ => u8 (s_ + 4 * a)) 1) ++ (repS (bs (fun _ => u8 (1 + 4 * 0)) 1) (Int.toNat ((1 * (2 ^ Int.toNat a)) - 1))))))] [] trivial fun ac hS => ?_
        refine ord_nil ?_
        refine wp_ret ?_
        refine St.retC 0 hS (vi (vptE m o_ z i ((bs (fun _ => u8 (s_ + 4 * a)) 1) ++ (repS (bs (fun _ => u8 (1 + 4 * 0)) 1) (Int.toNat ((1 * (2 ^ Int.toNat a)) - 1)))))) [] trivial fun hw => ?_
        refine ⟨F19, retd (vint ?_), (res_eq (r := arR b F19 (vptM m o_ z i ((bs (fun _ => u8 (s_ + 4 * a)) 1) ++ (repS (bs (fun _ => u8 (1 + 4 * 0)) 1) (Int.toNat ((1 * (2 ^ Int.toNat a)) - 1)))))) (by first | exact congrArg _ hD.2 | exact congrArg _ ((congrArg (vptM m o_ z i) (tagS_0 hs0)).trans hD.2) | exact congrArg _ ((congrArg (vptM m o_ z i) (tagS_1 hs0)).trans hD.2)) (hw.res 0)), hw.frA⟩
        all_goals (first | exact hD.1 | exact (congrArg (vptE m o_ z i) (tagS_0 hs0)).trans hD.1 | exact (congrArg (vptE m o_ z i) (tagS_1 hs0)).trans hD.1)
       ·
        refine Runs1.ord (i := 8) ?_
        refine St.toStr hS (.tmp 43) 75 9 rfl rfl (by decide) Tryz.underlying75 Tryz.underlying5 Tryz.underlying9 (b := (ν24 0)) (off := 0) (k := 1) (cp := 1) (fun _ => u8 (1 + 4 * 0)) (Cells8.one (hS.mem.get 1 (ν24 0) (.cells [v8 (1 + 4 * 0)] 5)) (by omega)) fun ac hS => ?_
        refine hS.ordV (l := [0]) ?_
        refine ord_nil ?_
        refine wpT_two ?_
        refine ord_nil ?_
        refine ⟨?_, ?_⟩
        ·
         refine Runs1.ord (i := 5) ?_
         refine St.toStr hS (.tmp 40) 75 9 rfl rfl (by decide) Tryz.underlying75 Tryz.underlying5 Tryz.underlying9 (b := (ν25 0)) (off := 0) (k := 1) (cp := 1) (fun _ => u8 (s_ + 4 * a)) (Cells8.one (hS.mem.get 2 (ν25 0) (.cells [v8 (s_ + 4 * a)] 5)) (by omega)) fun ac hS => ?_
         refine hS.ordV (l := [0]) ?_
         refine ord_nil ?_
         refine wpT_lin ?_
         refine hS.ordC 12 113 #[.string (bs (fun _ => u8 (1 + 4 * 0)) 1), vi ((1 * (2 ^ Int.toNat a)) - 1)] (str_Repeat (bs (fun _ => u8 (1 + 4 * 0)) 1) ((1 * (2 ^ Int.toNat a)) - 1) _  (by (rw [bs_size]; omega))) ?_
         rintro _ wd ⟨rfl, hF⟩
         refine ⟨.string (repS (bs (fun _ => u8 (1 + 4 * 0)) 1) (Int.toNat ((1 * (2 ^ Int.toNat a)) - 1))), rfl, ?_⟩
         replace hS := (hS.to (hS.mem.keep0 hF)).put (d := 48) (v := .string (repS (bs (fun _ => u8 (1 + 4 * 0)) 1) (Int.toNat ((1 * (2 ^ Int.toNat a)) - 1)))) (by decide)
         clear hF
         refine hS.ordV (l := [0]) ?_
         refine St.ordF [10] [13] [37, 38] (rest := [(14, 0), (15, 1)]) hS hap <| segF [(49, .string ((bs (fun _ => u8 (s_ + 4 * a)) 1) ++ (repS (bs (fun _ => u8 (1 + 4 * 0)) 1) (Int.toNat ((1 * (2 ^ Int.toNat a)) - 1)))))] [.p (((ByteArray.size (bs (fun _ => u8 (s_ + 4 * a)) 1) + ByteArray.size (repS (bs (fun _ => u8 (1 + 4 * 0)) 1) (Int.toNat ((1 * (2 ^ Int.toNat a)) - 1))) : Nat) : Int) ≤ IntKind.i64.max)] ⟨(by (rw [bs_size, repS_size]; have hmx : IntKind.i64.max = 9223372036854775807 := rfl; omega)), trivial⟩ fun ac hS => ?_
         refine hS.ordC 14 112 #[.agg #[pt b 0, vi o_, vi z], vi i, .string ((bs (fun _ => u8 (s_ + 4 * a)) 1) ++ (repS (bs (fun _ => u8 (1 + 4 * 0)) 1) (Int.toNat ((1 * (2 ^ Int.toNat a)) - 1))))] (vw_Put b F m o_ z i ((bs (fun _ => u8 (s_ + 4 * a)) 1) ++ (repS (bs (fun _ => u8 (1 + 4 * 0)) 1) (Int.toNat ((1 * (2 ^ Int.toNat a)) - 1)))) _ (hS.mem.res 0) (by first | assumption | omega | (simp_all; done) | (simp_all; omega))) ?_
         rintro _ wd ⟨F20, rfl, hA, hF⟩
         refine ⟨vi (vptE m o_ z i ((bs (fun _ => u8 (s_ + 4 * a)) 1) ++ (repS (bs (fun _ => u8 (1 + 4 * 0)) 1) (Int.toNat ((1 * (2 ^ Int.toNat a)) - 1))))), rfl, ?_⟩
         replace hS := (hS.to (hS.mem.stepA 0 rfl hA hF)).put (d := 50) (v := vi (vptE m o_ z i ((bs (fun _ => u8 (s_ + 4 * a)) 1) ++ (repS (bs (fun _ => u8 (1 + 4 * 0)) 1) (Int.toNat ((1 * (2 ^ Int.toNat a)) - 1)))))) (by decide)
         clear hF
         refine hS.ordV (l := [0]) ?_
         refine St.ordF [0] [15] [] (rest := []) hS hap <| segF [(8, vi (vptE m o_ z i ((bs (fun _ => u8 (s_ + 4 * a)) 1) ++ (repS (bs (fun _ => u8 (1 + 4 * 0)) 1) (Int.toNat ((1 * (2 ^ Int.toNat a)) - 1))))))] [] trivial fun ac hS => ?_
         refine ord_nil ?_
         refine wp_ret ?_
         refine St.retC 0 hS (vi (vptE m o_ z i ((bs (fun _ => u8 (s_ + 4 * a)) 1) ++ (repS (bs (fun _ => u8 (1 + 4 * 0)) 1) (Int.toNat ((1 * (2 ^ Int.toNat a)) - 1)))))) [] trivial fun hw => ?_
         refine ⟨F20, retd (vint ?_), (res_eq (r := arR b F20 (vptM m o_ z i ((bs (fun _ => u8 (s_ + 4 * a)) 1) ++ (repS (bs (fun _ => u8 (1 + 4 * 0)) 1) (Int.toNat ((1 * (2 ^ Int.toNat a)) - 1)))))) (by first | exact congrArg _ hD.2 | exact congrArg _ ((congrArg (vptM m o_ z i) (tagS_0 hs0)).trans hD.2) | exact congrArg _ ((congrArg (vptM m o_ z i) (tagS_1 hs0)).trans hD.2)) (hw.res 0)), hw.frA⟩
         all_goals (first | exact hD.1 | exact (congrArg (vptE m o_ z i) (tagS_0 hs0)).trans hD.1 | exact (congrArg (vptE m o_ z i) (tagS_1 hs0)).trans hD.1)
        ·
         refine hS.ordC 12 113 #[.string (bs (fun _ => u8 (1 + 4 * 0)) 1), vi ((1 * (2 ^ Int.toNat a)) - 1)] (str_Repeat (bs (fun _ => u8 (1 + 4 * 0)) 1) ((1 * (2 ^ Int.toNat a)) - 1) _  (by (rw [bs_size]; omega))) ?_
         rintro _ wd ⟨rfl, hF⟩
         refine ⟨.string (repS (bs (fun _ => u8 (1 + 4 * 0)) 1) (Int.toNat ((1 * (2 ^ Int.toNat a)) - 1))), rfl, ?_⟩
         replace hS := (hS.to (hS.mem.keep0 hF)).put (d := 48) (v := .string (repS (bs (fun _ => u8 (1 + 4 * 0)) 1) (Int.toNat ((1 * (2 ^ Int.toNat a)) - 1)))) (by decide)
         clear hF
         refine hS.ordV (l := [0]) ?_
         refine ord_nil ?_
         refine wpT_lin ?_
         refine Runs1.ord (i := 5) ?_
         refine St.toStr hS (.tmp 40) 75 9 rfl rfl (by decide) Tryz.underlying75 Tryz.underlying5 Tryz.underlying9 (b := (ν25 0)) (off := 0) (k := 1) (cp := 1) (fun _ => u8 (s_ + 4 * a)) (Cells8.one (hS.mem.get 2 (ν25 0) (.cells [v8 (s_ + 4 * a)] 5)) (by omega)) fun ac hS => ?_
         refine hS.ordV (l := [0]) ?_
         refine St.ordF [10] [13] [37, 38] (rest := [(14, 0), (15, 1)]) hS hap <| segF [(49, .string ((bs (fun _ => u8 (s_ + 4 * a)) 1) ++ (repS (bs (fun _ => u8 (1 + 4 * 0)) 1) (Int.toNat ((1 * (2 ^ Int.toNat a)) - 1)))))] [.p (((ByteArray.size (bs (fun _ => u8 (s_ + 4 * a)) 1) + ByteArray.size (repS (bs (fun _ => u8 (1 + 4 * 0)) 1) (Int.toNat ((1 * (2 ^ Int.toNat a)) - 1))) : Nat) : Int) ≤ IntKind.i64.max)] ⟨(by (rw [bs_size, repS_size]; have hmx : IntKind.i64.max = 9223372036854775807 := rfl; omega)), trivial⟩ fun ac hS => ?_
         refine hS.ordC 14 112 #[.agg #[pt b 0, vi o_, vi z], vi i, .string ((bs (fun _ => u8 (s_ + 4 * a)) 1) ++ (repS (bs (fun _ => u8 (1 + 4 * 0)) 1) (Int.toNat ((1 * (2 ^ Int.toNat a)) - 1))))] (vw_Put b F m o_ z i ((bs (fun _ => u8 (s_ + 4 * a)) 1) ++ (repS (bs (fun _ => u8 (1 + 4 * 0)) 1) (Int.toNat ((1 * (2 ^ Int.toNat a)) - 1)))) _ (hS.mem.res 0) (by first | assumption | omega | (simp_all; done) | (simp_all; omega))) ?_
         rintro _ wd ⟨F21, rfl, hA, hF⟩
         refine ⟨vi (vptE m o_ z i ((bs (fun _ => u8 (s_ + 4 * a)) 1) ++ (repS (bs (fun _ => u8 (1 + 4 * 0)) 1) (Int.toNat ((1 * (2 ^ Int.toNat a)) - 1))))), rfl, ?_⟩
         replace hS := (hS.to (hS.mem.stepA 0 rfl hA hF)).put (d := 50) (v := vi (vptE m o_ z i ((bs (fun _ => u8 (s_ + 4 * a)) 1) ++ (repS (bs (fun _ => u8 (1 + 4 * 0)) 1) (Int.toNat ((1 * (2 ^ Int.toNat a)) - 1)))))) (by decide)
         clear hF
         refine hS.ordV (l := [0]) ?_
         refine St.ordF [0] [15] [] (rest := []) hS hap <| segF [(8, vi (vptE m o_ z i ((bs (fun _ => u8 (s_ + 4 * a)) 1) ++ (repS (bs (fun _ => u8 (1 + 4 * 0)) 1) (Int.toNat ((1 * (2 ^ Int.toNat a)) - 1))))))] [] trivial fun ac hS => ?_
         refine ord_nil ?_
         refine wp_ret ?_
         refine St.retC 0 hS (vi (vptE m o_ z i ((bs (fun _ => u8 (s_ + 4 * a)) 1) ++ (repS (bs (fun _ => u8 (1 + 4 * 0)) 1) (Int.toNat ((1 * (2 ^ Int.toNat a)) - 1)))))) [] trivial fun hw => ?_
         refine ⟨F21, retd (vint ?_), (res_eq (r := arR b F21 (vptM m o_ z i ((bs (fun _ => u8 (s_ + 4 * a)) 1) ++ (repS (bs (fun _ => u8 (1 + 4 * 0)) 1) (Int.toNat ((1 * (2 ^ Int.toNat a)) - 1)))))) (by first | exact congrArg _ hD.2 | exact congrArg _ ((congrArg (vptM m o_ z i) (tagS_0 hs0)).trans hD.2) | exact congrArg _ ((congrArg (vptM m o_ z i) (tagS_1 hs0)).trans hD.2)) (hw.res 0)), hw.frA⟩
         all_goals (first | exact hD.1 | exact (congrArg (vptE m o_ z i) (tagS_0 hs0)).trans hD.1 | exact (congrArg (vptE m o_ z i) (tagS_1 hs0)).trans hD.1)
      ·
       refine Runs1.ord (i := 8) ?_
       refine St.toStr hS (.tmp 43) 75 9 rfl rfl (by decide) Tryz.underlying75 Tryz.underlying5 Tryz.underlying9 (b := (ν24 0)) (off := 0) (k := 1) (cp := 1) (fun _ => u8 (1 + 4 * 0)) (Cells8.one (hS.mem.get 1 (ν24 0) (.cells [v8 (1 + 4 * 0)] 5)) (by omega)) fun ac hS => ?_
       refine hS.ordV (l := [0]) ?_
       refine ord_nil ?_
       refine wpT_two ?_
       refine ord_nil ?_
       refine ⟨?_, ?_⟩
       ·
        refine St.ord1 4 [0] [37, 38, 44, 47] [0] hS rfl fun ν26 => seg [(40, sc (ν26 0) 0 1 1)] [(0, none), (1, none), (2, some ((ν26 0), .cells [v8 (s_ + 4 * a)] 5))] [] trivial ⟨by as_aux_lemma => kernel_rfl, fun ac wd hS => ?_⟩
        refine ord_nil ?_
        refine wpT_two ?_
        refine ord_nil ?_
        refine ⟨?_, ?_⟩
        ·
         refine Runs1.ord (i := 5) ?_
         refine St.toStr hS (.tmp 40) 75 9 rfl rfl (by decide) Tryz.underlying75 Tryz.underlying5 Tryz.underlying9 (b := (ν26 0)) (off := 0) (k := 1) (cp := 1) (fun _ => u8 (s_ + 4 * a)) (Cells8.one (hS.mem.get 2 (ν26 0) (.cells [v8 (s_ + 4 * a)] 5)) (by omega)) fun ac hS => ?_
         refine hS.ordV (l := [0]) ?_
         refine ord_nil ?_
         refine wpT_lin ?_
         refine hS.ordC 12 113 #[.string (bs (fun _ => u8 (1 + 4 * 0)) 1), vi ((1 * (2 ^ Int.toNat a)) - 1)] (str_Repeat (bs (fun _ => u8 (1 + 4 * 0)) 1) ((1 * (2 ^ Int.toNat a)) - 1) _  (by (rw [bs_size]; omega))) ?_
         rintro _ wd ⟨rfl, hF⟩
         refine ⟨.string (repS (bs (fun _ => u8 (1 + 4 * 0)) 1) (Int.toNat ((1 * (2 ^ Int.toNat a)) - 1))), rfl, ?_⟩
         replace hS := (hS.to (hS.mem.keep0 hF)).put (d := 48) (v := .string (repS (bs (fun _ => u8 (1 + 4 * 0)) 1) (Int.toNat ((1 * (2 ^ Int.toNat a)) - 1)))) (by decide)
         clear hF
         refine hS.ordV (l := [0]) ?_
         refine St.ordF [10] [13] [37, 38] (rest := [(14, 0), (15, 1)]) hS hap <| segF [(49, .string ((bs (fun _ => u8 (s_ + 4 * a)) 1) ++ (repS (bs (fun _ => u8 (1 + 4 * 0)) 1) (Int.toNat ((1 * (2 ^ Int.toNat a)) - 1)))))] [.p (((ByteArray.size (bs (fun _ => u8 (s_ + 4 * a)) 1) + ByteArray.size (repS (bs (fun _ => u8 (1 + 4 * 0)) 1) (Int.toNat ((1 * (2 ^ Int.toNat a)) - 1))) : Nat) : Int) ≤ IntKind.i64.max)] ⟨(by (rw [bs_size, repS_size]; have hmx : IntKind.i64.max = 9223372036854775807 := rfl; omega)), trivial⟩ fun ac hS => ?_
         refine hS.ordC 14 112 #[.agg #[pt b 0, vi o_, vi z], vi i, .string ((bs (fun _ => u8 (s_ + 4 * a)) 1) ++ (repS (bs (fun _ => u8 (1 + 4 * 0)) 1) (Int.toNat ((1 * (2 ^ Int.toNat a)) - 1))))] (vw_Put b F m o_ z i ((bs (fun _ => u8 (s_ + 4 * a)) 1) ++ (repS (bs (fun _ => u8 (1 + 4 * 0)) 1) (Int.toNat ((1 * (2 ^ Int.toNat a)) - 1)))) _ (hS.mem.res 0) (by first | assumption | omega | (simp_all; done) | (simp_all; omega))) ?_
         rintro _ wd ⟨F22, rfl, hA, hF⟩
         refine ⟨vi (vptE m o_ z i ((bs (fun _ => u8 (s_ + 4 * a)) 1) ++ (repS (bs (fun _ => u8 (1 + 4 * 0)) 1) (Int.toNat ((1 * (2 ^ Int.toNat a)) - 1))))), rfl, ?_⟩
         replace hS := (hS.to (hS.mem.stepA 0 rfl hA hF)).put (d := 50) (v := vi (vptE m o_ z i ((bs (fun _ => u8 (s_ + 4 * a)) 1) ++ (repS (bs (fun _ => u8 (1 + 4 * 0)) 1) (Int.toNat ((1 * (2 ^ Int.toNat a)) - 1)))))) (by decide)
         clear hF
         refine hS.ordV (l := [0]) ?_
         refine St.ordF [0] [15] [] (rest := []) hS hap <| segF [(8, vi (vptE m o_ z i ((bs (fun _ => u8 (s_ + 4 * a)) 1) ++ (repS (bs (fun _ => u8 (1 + 4 * 0)) 1) (Int.toNat ((1 * (2 ^ Int.toNat a)) - 1))))))] [] trivial fun ac hS => ?_
         refine ord_nil ?_
         refine wp_ret ?_
         refine St.retC 0 hS (vi (vptE m o_ z i ((bs (fun _ => u8 (s_ + 4 * a)) 1) ++ (repS (bs (fun _ => u8 (1 + 4 * 0)) 1) (Int.toNat ((1 * (2 ^ Int.toNat a)) - 1)))))) [] trivial fun hw => ?_
         refine ⟨F22, retd (vint ?_), (res_eq (r := arR b F22 (vptM m o_ z i ((bs (fun _ => u8 (s_ + 4 * a)) 1) ++ (repS (bs (fun _ => u8 (1 + 4 * 0)) 1) (Int.toNat ((1 * (2 ^ Int.toNat a)) - 1)))))) (by first | exact congrArg _ hD.2 | exact congrArg _ ((congrArg (vptM m o_ z i) (tagS_0 hs0)).trans hD.2) | exact congrArg _ ((congrArg (vptM m o_ z i) (tagS_1 hs0)).trans hD.2)) (hw.res 0)), hw.frA⟩
         all_goals (first | exact hD.1 | exact (congrArg (vptE m o_ z i) (tagS_0 hs0)).trans hD.1 | exact (congrArg (vptE m o_ z i) (tagS_1 hs0)).trans hD.1)
        ·
         refine hS.ordC 12 113 #[.string (bs (fun _ => u8 (1 + 4 * 0)) 1), vi ((1 * (2 ^ Int.toNat a)) - 1)] (str_Repeat (bs (fun _ => u8 (1 + 4 * 0)) 1) ((1 * (2 ^ Int.toNat a)) - 1) _  (by (rw [bs_size]; omega))) ?_
         rintro _ wd ⟨rfl, hF⟩
         refine ⟨.string (repS (bs (fun _ => u8 (1 + 4 * 0)) 1) (Int.toNat ((1 * (2 ^ Int.toNat a)) - 1))), rfl, ?_⟩
         replace hS := (hS.to (hS.mem.keep0 hF)).put (d := 48) (v := .string (repS (bs (fun _ => u8 (1 + 4 * 0)) 1) (Int.toNat ((1 * (2 ^ Int.toNat a)) - 1)))) (by decide)
         clear hF
         refine hS.ordV (l := [0]) ?_
         refine ord_nil ?_
         refine wpT_lin ?_
         refine Runs1.ord (i := 5) ?_
         refine St.toStr hS (.tmp 40) 75 9 rfl rfl (by decide) Tryz.underlying75 Tryz.underlying5 Tryz.underlying9 (b := (ν26 0)) (off := 0) (k := 1) (cp := 1) (fun _ => u8 (s_ + 4 * a)) (Cells8.one (hS.mem.get 2 (ν26 0) (.cells [v8 (s_ + 4 * a)] 5)) (by omega)) fun ac hS => ?_
         refine hS.ordV (l := [0]) ?_
         refine St.ordF [10] [13] [37, 38] (rest := [(14, 0), (15, 1)]) hS hap <| segF [(49, .string ((bs (fun _ => u8 (s_ + 4 * a)) 1) ++ (repS (bs (fun _ => u8 (1 + 4 * 0)) 1) (Int.toNat ((1 * (2 ^ Int.toNat a)) - 1)))))] [.p (((ByteArray.size (bs (fun _ => u8 (s_ + 4 * a)) 1) + ByteArray.size (repS (bs (fun _ => u8 (1 + 4 * 0)) 1) (Int.toNat ((1 * (2 ^ Int.toNat a)) - 1))) : Nat) : Int) ≤ IntKind.i64.max)] ⟨(by (rw [bs_size, repS_size]; have hmx : IntKind.i64.max = 9223372036854775807 := rfl; omega)), trivial⟩ fun ac hS => ?_
         refine hS.ordC 14 112 #[.agg #[pt b 0, vi o_, vi z], vi i, .string ((bs (fun _ => u8 (s_ + 4 * a)) 1) ++ (repS (bs (fun _ => u8 (1 + 4 * 0)) 1) (Int.toNat ((1 * (2 ^ Int.toNat a)) - 1))))] (vw_Put b F m o_ z i ((bs (fun _ => u8 (s_ + 4 * a)) 1) ++ (repS (bs (fun _ => u8 (1 + 4 * 0)) 1) (Int.toNat ((1 * (2 ^ Int.toNat a)) - 1)))) _ (hS.mem.res 0) (by first | assumption | omega | (simp_all; done) | (simp_all; omega))) ?_
         rintro _ wd ⟨F23, rfl, hA, hF⟩
         refine ⟨vi (vptE m o_ z i ((bs (fun _ => u8 (s_ + 4 * a)) 1) ++ (repS (bs (fun _ => u8 (1 + 4 * 0)) 1) (Int.toNat ((1 * (2 ^ Int.toNat a)) - 1))))), rfl, ?_⟩
         replace hS := (hS.to (hS.mem.stepA 0 rfl hA hF)).put (d := 50) (v := vi (vptE m o_ z i ((bs (fun _ => u8 (s_ + 4 * a)) 1) ++ (repS (bs (fun _ => u8 (1 + 4 * 0)) 1) (Int.toNat ((1 * (2 ^ Int.toNat a)) - 1)))))) (by decide)
         clear hF
         refine hS.ordV (l := [0]) ?_
         refine St.ordF [0] [15] [] (rest := []) hS hap <| segF [(8, vi (vptE m o_ z i ((bs (fun _ => u8 (s_ + 4 * a)) 1) ++ (repS (bs (fun _ => u8 (1 + 4 * 0)) 1) (Int.toNat ((1 * (2 ^ Int.toNat a)) - 1))))))] [] trivial fun ac hS => ?_
         refine ord_nil ?_
         refine wp_ret ?_
         refine St.retC 0 hS (vi (vptE m o_ z i ((bs (fun _ => u8 (s_ + 4 * a)) 1) ++ (repS (bs (fun _ => u8 (1 + 4 * 0)) 1) (Int.toNat ((1 * (2 ^ Int.toNat a)) - 1)))))) [] trivial fun hw => ?_
         refine ⟨F23, retd (vint ?_), (res_eq (r := arR b F23 (vptM m o_ z i ((bs (fun _ => u8 (s_ + 4 * a)) 1) ++ (repS (bs (fun _ => u8 (1 + 4 * 0)) 1) (Int.toNat ((1 * (2 ^ Int.toNat a)) - 1)))))) (by first | exact congrArg _ hD.2 | exact congrArg _ ((congrArg (vptM m o_ z i) (tagS_0 hs0)).trans hD.2) | exact congrArg _ ((congrArg (vptM m o_ z i) (tagS_1 hs0)).trans hD.2)) (hw.res 0)), hw.frA⟩
         all_goals (first | exact hD.1 | exact (congrArg (vptE m o_ z i) (tagS_0 hs0)).trans hD.1 | exact (congrArg (vptE m o_ z i) (tagS_1 hs0)).trans hD.1)
       ·
        refine hS.ordC 12 113 #[.string (bs (fun _ => u8 (1 + 4 * 0)) 1), vi ((1 * (2 ^ Int.toNat a)) - 1)] (str_Repeat (bs (fun _ => u8 (1 + 4 * 0)) 1) ((1 * (2 ^ Int.toNat a)) - 1) _  (by (rw [bs_size]; omega))) ?_
        rintro _ wd ⟨rfl, hF⟩
        refine ⟨.string (repS (bs (fun _ => u8 (1 + 4 * 0)) 1) (Int.toNat ((1 * (2 ^ Int.toNat a)) - 1))), rfl, ?_⟩
        replace hS := (hS.to (hS.mem.keep0 hF)).put (d := 48) (v := .string (repS (bs (fun _ => u8 (1 + 4 * 0)) 1) (Int.toNat ((1 * (2 ^ Int.toNat a)) - 1)))) (by decide)
        clear hF
        refine hS.ordV (l := [0]) ?_
        refine ord_nil ?_
        refine wpT_lin ?_
        refine St.ord1 4 [0] [37, 38, 48] [0] hS rfl fun ν27 => seg [(40, sc (ν27 0) 0 1 1)] [(0, none), (1, none), (2, some ((ν27 0), .cells [v8 (s_ + 4 * a)] 5))] [] trivial ⟨by as_aux_lemma => kernel_rfl, fun ac wd hS => ?_⟩
        refine Runs1.ord (i := 5) ?_
        refine St.toStr hS (.tmp 40) 75 9 rfl rfl (by decide) Tryz.underlying75 Tryz.underlying5 Tryz.underlying9 (b := (ν27 0)) (off := 0) (k := 1) (cp := 1) (fun _ => u8 (s_ + 4 * a)) (Cells8.one (hS.mem.get 2 (ν27 0) (.cells [v8 (s_ + 4 * a)] 5)) (by omega)) fun ac hS => ?_
        refine hS.ordV (l := [0]) ?_
        refine St.ordF [10] [13] [37, 38] (rest := [(14, 0), (15, 1)]) hS hap <| segF [(49, .string ((bs (fun _ => u8 (s_ + 4 * a)) 1) ++ (repS (bs (fun _ => u8 (1 + 4 * 0)) 1) (Int.toNat ((1 * (2 ^ Int.toNat a)) - 1)))))] [.p (((ByteArray.size (bs (fun _ => u8 (s_ + 4 * a)) 1) + ByteArray.size (repS (bs (fun _ => u8 (1 + 4 * 0)) 1) (Int.toNat ((1 * (2 ^ Int.toNat a)) - 1))) : Nat) : Int) ≤ IntKind.i64.max)] ⟨(by (rw [bs_size, repS_size]; have hmx : IntKind.i64.max = 9223372036854775807 := rfl; omega)), trivial⟩ fun ac hS => ?_
        refine hS.ordC 14 112 #[.agg #[pt b 0, vi o_, vi z], vi i, .string ((bs (fun _ => u8 (s_ + 4 * a)) 1) ++ (repS (bs (fun _ => u8 (1 + 4 * 0)) 1) (Int.toNat ((1 * (2 ^ Int.toNat a)) - 1))))] (vw_Put b F m o_ z i ((bs (fun _ => u8 (s_ + 4 * a)) 1) ++ (repS (bs (fun _ => u8 (1 + 4 * 0)) 1) (Int.toNat ((1 * (2 ^ Int.toNat a)) - 1)))) _ (hS.mem.res 0) (by first | assumption | omega | (simp_all; done) | (simp_all; omega))) ?_
        rintro _ wd ⟨F24, rfl, hA, hF⟩
        refine ⟨vi (vptE m o_ z i ((bs (fun _ => u8 (s_ + 4 * a)) 1) ++ (repS (bs (fun _ => u8 (1 + 4 * 0)) 1) (Int.toNat ((1 * (2 ^ Int.toNat a)) - 1))))), rfl, ?_⟩
        replace hS := (hS.to (hS.mem.stepA 0 rfl hA hF)).put (d := 50) (v := vi (vptE m o_ z i ((bs (fun _ => u8 (s_ + 4 * a)) 1) ++ (repS (bs (fun _ => u8 (1 + 4 * 0)) 1) (Int.toNat ((1 * (2 ^ Int.toNat a)) - 1)))))) (by decide)
        clear hF
        refine hS.ordV (l := [0]) ?_
        refine St.ordF [0] [15] [] (rest := []) hS hap <| segF [(8, vi (vptE m o_ z i ((bs (fun _ => u8 (s_ + 4 * a)) 1) ++ (repS (bs (fun _ => u8 (1 + 4 * 0)) 1) (Int.toNat ((1 * (2 ^ Int.toNat a)) - 1))))))] [] trivial fun ac hS => ?_
        refine ord_nil ?_
        refine wp_ret ?_
        refine St.retC 0 hS (vi (vptE m o_ z i ((bs (fun _ => u8 (s_ + 4 * a)) 1) ++ (repS (bs (fun _ => u8 (1 + 4 * 0)) 1) (Int.toNat ((1 * (2 ^ Int.toNat a)) - 1)))))) [] trivial fun hw => ?_
        refine ⟨F24, retd (vint ?_), (res_eq (r := arR b F24 (vptM m o_ z i ((bs (fun _ => u8 (s_ + 4 * a)) 1) ++ (repS (bs (fun _ => u8 (1 + 4 * 0)) 1) (Int.toNat ((1 * (2 ^ Int.toNat a)) - 1)))))) (by first | exact congrArg _ hD.2 | exact congrArg _ ((congrArg (vptM m o_ z i) (tagS_0 hs0)).trans hD.2) | exact congrArg _ ((congrArg (vptM m o_ z i) (tagS_1 hs0)).trans hD.2)) (hw.res 0)), hw.frA⟩
        all_goals (first | exact hD.1 | exact (congrArg (vptE m o_ z i) (tagS_0 hs0)).trans hD.1 | exact (congrArg (vptE m o_ z i) (tagS_1 hs0)).trans hD.1)

theorem tags_Get_r (b : Nat) (F : Nat → Prop) (m : AM) (o_ : Int) (z : Int) (i : Int) (t : List (Int × Int)) (w : World) (hr : (arR b F m).R w) (hR : TgR m o_ z t) :
    Calls Tryz.prog 66 #[.agg #[pt b 0, vi o_, vi z], vi i] w fun e w' => e = .returned (.tuple #[.agg #[v8 (((rgV t i)).1), v8 (((rgV t i)).2)], vi (rgE t i)]) ∧ Fr w w' no no := by
 have hb : 0 ≤ o_ ∧ 0 ≤ z ∧ o_ + z ≤ 4294967296 := ⟨hR.o0, by have := hR.len; omega, by have h5 := inB_facts (thr_in hR.there); have h4 : m.cap ≤ 1048576 := (by obtain ⟨d, hd⟩ := id hr; exact hd.capLe); omega⟩
 have h_ := tags_Get b F m o_ z i w hr hb
 obtain ⟨e1, e2⟩ := hR.get i
 rw [← e1, ← e2]
 exact h_

theorem tags_Run_r (b : Nat) (F : Nat → Prop) (m : AM) (o_ : Int) (z : Int) (i : Int) (t : List (Int × Int)) (w : World) (hr : (arR b F m).R w) (hR : TgR m o_ z t) (hi : i ≤ 4611686018427387904) :
    Calls Tryz.prog 77 #[.agg #[pt b 0, vi o_, vi z], vi i] w fun e w' => e = .returned (.tuple #[vi (rrV t i), .agg #[v8 (((rrT t i)).1), v8 (((rrT t i)).2)], vi (rrE t i)]) ∧ Fr w w' no no := by
 have hb : 0 ≤ o_ ∧ 0 ≤ z ∧ o_ + z ≤ 4294967296 := ⟨hR.o0, by have := hR.len; omega, by have h5 := inB_facts (thr_in hR.there); have h4 : m.cap ≤ 1048576 := (by obtain ⟨d, hd⟩ := id hr; exact hd.capLe); omega⟩
 have h_ := tags_Run b F m o_ z i w hr hb hi
 obtain ⟨e1, e2, e3⟩ := hR.run i
 rw [← e1, ← e2, ← e3]
 exact h_

theorem tags_Lay_r (b : Nat) (F : Nat → Prop) (m : AM) (o_ : Int) (z : Int) (i : Int) (a : Int) (s_ : Int) (t : List (Int × Int)) (w : World) (hr : (arR b F m).R w) (hR : TgR m o_ z t) (hs : 0 ≤ s_ ∧ s_ ≤ 255) :
    Calls Tryz.prog 69 #[.agg #[pt b 0, vi o_, vi z], vi i, vi a, v8 s_] w fun e w' => ∃ (F' : Nat → Prop), e = .returned (vi (rlE t i a s_)) ∧ (arR b F' (tgLM m o_ z i a s_)).R w' ∧ Fr w w' F F' := by
 have hb : 0 ≤ o_ ∧ 0 ≤ z ∧ o_ + z ≤ 4294967296 := ⟨hR.o0, by have := hR.len; omega, by have h5 := inB_facts (thr_in hR.there); have h4 : m.cap ≤ 1048576 := (by obtain ⟨d, hd⟩ := id hr; exact hd.capLe); omega⟩
 have h_ := tags_Lay b F m o_ z i a s_ w hr hb hs
 rw [(hR.lay (i := i) (a := a) hs.1).1] at h_
 exact h_

end Go.Proofs.YtojjkjedcafpeaaGreatDoor.K
