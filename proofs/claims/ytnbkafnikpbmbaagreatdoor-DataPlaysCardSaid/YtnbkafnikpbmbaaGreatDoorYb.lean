/-
  Walks, printed by w2.py.
-/
import Derived.Test.YtnbkafnikpbmbaaGreatDoorM5
import Derived.Test.YtnbkafnikpbmbaaGreatDoorVa
import Derived.Test.YtnbkafnikpbmbaaGreatDoorQz
import Derived.Test.YtnbkafnikpbmbaaGreatDoorSh
import Derived.Test.YtnbkafnikpbmbaaGreatDoorYa
import Derived.Test.YtnbkafnikpbmbaaGreatDoorProg
namespace Go.Proofs.YtnbkafnikpbmbaaGreatDoor.K
set_option linter.unusedVariables false
set_option linter.unusedSimpArgs false

set_option maxRecDepth 100000 in
set_option maxHeartbeats 1000000 in
theorem fd_right (k : Int) (w : World) :
    Calls Tryz.prog 44 #[vi k] w fun e w' => e = .returned (vb ((decide ((0 : Int) ≤ k)) && (decide (k ≤ 255)))) ∧ Fr w w' no no := by
 refine enter (args := [vi k]) (D := no) (A := []) Tryz.func44 rfl 9 rfl [] (WS.startL trivial) fun ac hS => ?_
 refine hS.regS [0] [0] fun _ => seg [] [] [] trivial fun ac wd hS => ?_
 refine hS.regS [0, 0, 0, 3, 3, 80, 0] [] fun _ => seg [(2, vb ((decide ((0 : Int) ≤ k)) && (decide ((k : Int) ≤ 255))))] [] [] trivial fun ac wd hS => ?_
 refine wp_ret ?_
 refine St.retC 0 hS (vb ((decide ((0 : Int) ≤ k)) && (decide ((k : Int) ≤ 255)))) [] trivial fun hw => ?_
 refine ⟨retd (vbool ?_), hw.fr0⟩
 all_goals (rfl)

set_option maxRecDepth 100000 in
set_option maxHeartbeats 1000000 in
theorem fd_room (b : Nat) (F : Nat → Prop) (m : AM) (o_ : Int) (z : Int) (a : Int) (k : Int) (w : World) (hr : (arR b F m).R w) (ho : 0 ≤ o_ ∧ 0 ≤ z ∧ o_ + z ≤ 4294967296) (hk : -1 ≤ k ∧ k ≤ 255) :
    Calls Tryz.prog 45 #[.agg #[pt b 0, vi o_, vi z], vi a, vi k] w fun e w' => e = .returned (vi (vbyE m o_ z a (k + 1))) ∧ Fr w w' no no := by
 refine enter (args := [.agg #[pt b 0, vi o_, vi z], vi a, vi k]) (D := no) (A := []) Tryz.func45 rfl 18 rfl [] (WS.startL trivial) fun ac hS => ?_
 refine hS.regS [0, 0] [1, 2] fun ν1 => seg [(3, pt (ν1 0) 0)] [(0, some ((ν1 0), .cells [pt b 0, vi o_, vi z] 28))] [] trivial fun ac wd hS => ?_
 refine wp_region_seq ?_
 refine hS.opsC 4 [0, 0, 0, 20] [] fun _ => seg [(10, .agg #[pt b 0, vi o_, vi z]), (11, vi a), (13, vi (k + 1))] [] [.p (fit .i64 (k + 1)), .e (ν1 0), .e (ν1 0), .e (ν1 0)] ⟨fit_i64 (by omega), trivial⟩ fun ac wd hS => ?_
 refine hS.call0 46 #[.agg #[pt b 0, vi o_, vi z], vi a, vi (k + 1)] 14 (vw_Bytes b F m o_ z a (k + 1) _ (Res.keep hr hS.mem.fr) (by first | assumption | omega | (simp_all; done) | (simp_all; omega))) fun ac wd hS => ?_
 refine hS.opsC 5 [0, 0, 0, 0, 0] [] fun _ => seg [(8, vi (vbyE m o_ z a (k + 1)))] [] [] trivial fun ac wd hS => ?_
 refine list_nil_seq ?_
 refine hS.regS [0, 0] [] fun _ => seg [(6, vi (vbyE m o_ z a (k + 1)))] [] [] trivial fun ac wd hS => ?_
 refine wp_ret ?_
 refine St.retC 0 hS (vi (vbyE m o_ z a (k + 1))) [] trivial fun hw => ?_
 refine ⟨retd rfl, hw.fr0⟩

set_option maxRecDepth 100000 in
set_option maxHeartbeats 1000000 in
theorem fd_Text (b : Nat) (F : Nat → Prop) (m : AM) (o_ : Int) (z : Int) (a : Int) (k : Int) (w : World) (hr : (arR b F m).R w) (ho : 0 ≤ o_ ∧ 0 ≤ z ∧ o_ + z ≤ 4294967296) :
    Calls Tryz.prog 30 #[.agg #[pt b 0, vi o_, vi z], vi a, vi k] w fun e w' => e = .returned (.tuple #[.string (ftV m o_ z a k), vi (ftE m o_ z a k)]) ∧ Fr w w' no no := by
 refine enter (args := [.agg #[pt b 0, vi o_, vi z], vi a, vi k]) (D := no) (A := []) Tryz.func30 rfl 39 rfl [] (WS.startL trivial) fun ac hS => ?_
 refine hS.regS [0, 0, 0] [1, 2] fun ν1 => seg [(3, pt (ν1 0) 0)] [(0, some ((ν1 0), .cells [pt b 0, vi o_, vi z] 28))] [] trivial fun ac wd hS => ?_
 refine wp_seq ?_
 refine wp_region_seq ?_
 refine hS.opsC 1 [0] [1, 2, 3] fun _ => seg [(11, vi k)] [(0, none)] [] trivial fun ac wd hS => ?_
 refine hS.call0 44 #[vi k] 12 (fd_right k _  ) fun ac wd hS => ?_
 refine hS.opsC 1 [0] [1, 2, 3] fun _ => seg [(13, vb (!((decide ((0 : Int) ≤ k)) && (decide (k ≤ 255)))))] [(0, none)] [] trivial fun ac wd hS => ?_
 refine list_nil_seq ?_
 refine hS.condC (!((decide ((0 : Int) ≤ k)) && (decide (k ≤ 255)))) (fun hb1o hb1 => ?_) (fun hb1o hb1 => ?_)
 ·
  have hD := ft_1 (m := m) (o := o_) (z := z) (a := a) (k := k) (by have h9_ := hb1; omega)
  refine hS.regS [0, 0] [] fun _ => seg [(6, .string (⟨#[]⟩ : ByteArray)), (7, vi 2)] [] [] trivial fun ac wd hS => ?_
  refine wp_ret ?_
  refine pop_then_ret ?_
  refine St.retC 0 hS (.tuple #[.string (⟨#[]⟩ : ByteArray), vi 2]) [] trivial fun hw => ?_
  refine ⟨retd (tuple2 (vstr ?_) (vint ?_)), hw.fr0⟩
  all_goals (first | exact hD.1 | exact hD.2)
 ·
  have hn : ¬ (k < 0 ∨ 255 < k) := by have h9_ := hb1; omega
  refine wp_skip ?_
  refine pop_then ?_
  refine wp_seq ?_
  refine wp_region_seq ?_
  refine hS.opsC 3 [0, 0, 0] [1, 2, 3] fun _ => seg [(14, .agg #[pt b 0, vi o_, vi z]), (15, vi a), (16, vi k)] [(0, none)] [.e (ν1 0), .e (ν1 0), .e (ν1 0)] trivial fun ac wd hS => ?_
  refine hS.call0 45 #[.agg #[pt b 0, vi o_, vi z], vi a, vi k] 17 (fd_room b F m o_ z a k _ (Res.keep hr hS.mem.fr) (by first | assumption | omega | (simp_all; done) | (simp_all; omega)) (by first | assumption | omega | (simp_all; done) | (simp_all; omega))) fun ac wd hS => ?_
  refine hS.opsC 1 [0] [1, 2, 3] fun _ => seg [(8, vi (vbyE m o_ z a (k + 1)))] [(0, none)] [] trivial fun ac wd hS => ?_
  refine list_nil_seq ?_
  refine hS.regS [0, 0] [1, 2, 3, 8] fun _ => seg [(19, vb (((vbyE m o_ z a (k + 1)) : Int) != 0))] [(0, none)] [] trivial fun ac wd hS => ?_
  refine hS.condC (((vbyE m o_ z a (k + 1)) : Int) != 0) (fun hb2o hb2 => ?_) (fun hb2o hb2 => ?_)
  ·
   have hD := ft_2 hn hb2
   refine hS.regS [0, 0, 0] [] fun _ => seg [(6, .string (⟨#[]⟩ : ByteArray)), (7, vi (vbyE m o_ z a (k + 1)))] [] [] trivial fun ac wd hS => ?_
   refine wp_ret ?_
   refine pop_then_ret ?_
   refine St.retC 0 hS (.tuple #[.string (⟨#[]⟩ : ByteArray), vi (vbyE m o_ z a (k + 1))]) [] trivial fun hw => ?_
   refine ⟨retd (tuple2 (vstr ?_) (vint ?_)), hw.fr0⟩
   all_goals (first | exact hD.1 | exact hD.2)
  ·
   have hv0 : vbyE m o_ z a (k + 1) = 0 := hb2
   obtain ⟨hvi, _⟩ := vby_in hv0
   have hvr := vld1_rng hv0 (by omega)
   refine wp_skip ?_
   refine pop_then ?_
   refine wp_region_seq ?_
   refine hS.opsC 2 [0, 0] [1, 2, 3] fun _ => seg [(22, .agg #[pt b 0, vi o_, vi z]), (23, vi a)] [(0, none)] [.e (ν1 0), .e (ν1 0), .e (ν1 0)] trivial fun ac wd hS => ?_
   refine hS.call0 31 #[.agg #[pt b 0, vi o_, vi z], vi a, vi 1] 24 (vw_Load b F m o_ z a 1 _ (Res.keep hr hS.mem.fr) (by first | assumption | omega | (simp_all; done) | (simp_all; omega))) fun ac wd hS => ?_
   refine hS.opsC 5 [0, 0, 0, 0, 0] [1, 2, 3] fun _ => seg [(9, vu (vldV m o_ z a 1))] [(0, none)] [] trivial fun ac wd hS => ?_
   refine list_nil_seq ?_
   refine wp_seq ?_
   refine hS.regS [0, 20, 0, 0] [1, 3, 9] fun _ => seg [(30, vb (decide ((k : Int) < (vldV m o_ z a 1))))] [(0, none)] [.p (fit .i64 (vldV m o_ z a 1))] ⟨fit_i64 (by omega), trivial⟩ fun ac wd hS => ?_
   refine hS.condC (decide ((k : Int) < (vldV m o_ z a 1))) (fun hb3o hb3 => ?_) (fun hb3o hb3 => ?_)
   ·
    have hD := ft_3 hn hv0 hb3
    refine hS.regS [0, 0] [] fun _ => seg [(6, .string (⟨#[]⟩ : ByteArray)), (7, vi 14)] [] [] trivial fun ac wd hS => ?_
    refine wp_ret ?_
    refine pop_then_ret ?_
    refine St.retC 0 hS (.tuple #[.string (⟨#[]⟩ : ByteArray), vi 14]) [] trivial fun hw => ?_
    refine ⟨retd (tuple2 (vstr ?_) (vint ?_)), hw.fr0⟩
    all_goals (first | exact hD.1 | exact hD.2)
   ·
    have hD := ft_4 hn hv0 (by have h9_ := hb3; omega)
    refine wp_skip ?_
    refine pop_then ?_
    refine wp_region_seq ?_
    refine hS.opsC 5 [0, 0, 20, 0, 20] [] fun _ => seg [(31, .agg #[pt b 0, vi o_, vi z]), (33, vi (a + 1)), (35, vi (vldV m o_ z a 1))] [] [.p (fit .i64 (vldV m o_ z a 1)), .p (fit .i64 (a + 1)), .e (ν1 0), .e (ν1 0), .e (ν1 0)] ⟨fit_i64 (by omega), fit_i64 (by omega), trivial⟩ fun ac wd hS => ?_
    refine hS.call0 46 #[.agg #[pt b 0, vi o_, vi z], vi (a + 1), vi (vldV m o_ z a 1)] 36 (vw_Bytes b F m o_ z (a + 1) (vldV m o_ z a 1) _ (Res.keep hr hS.mem.fr) (by first | assumption | omega | (simp_all; done) | (simp_all; omega))) fun ac wd hS => ?_
    refine hS.opsC 4 [0, 0, 0, 0] [] fun _ => seg [(6, .string (vbyS m o_ z (a + 1) (vldV m o_ z a 1))), (7, vi (vbyE m o_ z (a + 1) (vldV m o_ z a 1)))] [] [] trivial fun ac wd hS => ?_
    refine list_nil_seq ?_
    refine wp_ret ?_
    refine St.retC 0 hS (.tuple #[.string (vbyS m o_ z (a + 1) (vldV m o_ z a 1)), vi (vbyE m o_ z (a + 1) (vldV m o_ z a 1))]) [] trivial fun hw => ?_
    refine ⟨retd (tuple2 (vstr ?_) (vint ?_)), hw.fr0⟩
    all_goals (first | exact hD.1 | exact hD.2)

set_option maxRecDepth 100000 in
set_option maxHeartbeats 1000000 in
theorem fd_PutText (b : Nat) (F : Nat → Prop) (m : AM) (o_ : Int) (z : Int) (a : Int) (k : Int) (s : ByteArray) (w : World) (hr : (arR b F m).R w) (ho : 0 ≤ o_ ∧ 0 ≤ z ∧ o_ + z ≤ 4294967296) :
    Calls Tryz.prog 39 #[.agg #[pt b 0, vi o_, vi z], vi a, vi k, .string s] w fun e w' => ∃ (F' : Nat → Prop), e = .returned (vi (fpE m o_ z a k s)) ∧ (arR b F' (fpM m o_ z a k s)).R w' ∧ Fr w w' F F' := by
 refine enter (args := [.agg #[pt b 0, vi o_, vi z], vi a, vi k, .string s]) (D := F) (A := [arR b F m]) Tryz.func39 rfl 36 rfl [] (WS.startA (r := arR b F m) hr trivial trivial) fun ac hS => ?_
 refine hS.regS [0, 0] [1, 2, 3] fun ν1 => seg [(4, pt (ν1 0) 0)] [(0, some ((ν1 0), .cells [pt b 0, vi o_, vi z] 28))] [] trivial fun ac wd hS => ?_
 refine wp_seq ?_
 refine wp_block ?_
 refine wp_region_seq ?_
 refine hS.opsC 1 [0] [1, 2, 3, 4] fun _ => seg [(11, vi k)] [(0, none)] [] trivial fun ac wd hS => ?_
 refine hS.call0 44 #[vi k] 12 (fd_right k _  ) fun ac wd hS => ?_
 refine hS.opsC 2 [0, 0] [1, 2, 3, 4] fun _ => seg [(10, vb (!((decide ((0 : Int) ≤ k)) && (decide (k ≤ 255)))))] [(0, none)] [] trivial fun ac wd hS => ?_
 refine list_nil_seq ?_
 refine hS.condC (!((decide ((0 : Int) ≤ k)) && (decide (k ≤ 255)))) (fun hb1o hb1 => ?_) (fun hb1o hb1 => ?_)
 ·
  have hD := fp_1 (m := m) (o := o_) (z := z) (a := a) (k := k) (s := s) (by have h9_ := hb1; omega)
  replace hS := hS.fix 10 (vb true) (congrArg Value.bool hb1o)
  refine hS.regS [0] [] fun _ => seg [(8, vi 2)] [] [] trivial fun ac wd hS => ?_
  refine wp_ret ?_
  refine pop_block_ret ?_
  refine pop_then_ret ?_
  refine St.retC 0 hS (vi 2) [] trivial fun hw => ?_
  refine ⟨F, retd (vint ?_), (res_eq (r := arR b F m) (by exact congrArg _ hD.1) (hw.res 0)), hw.frA⟩
  all_goals (exact hD.2)
 ·
  have hn : ¬ (k < 0 ∨ 255 < k) := by have h9_ := hb1; omega
  replace hS := hS.fix 10 (vb false) (congrArg Value.bool hb1o)
  refine hS.regS [0, 0, 0, 0, 0] [1, 2, 3, 4] fun _ => seg [(14, vb (decide ((k : Int) < ((ByteArray.size s : Nat) : Int))))] [(0, none)] [] trivial fun ac wd hS => ?_
  refine hS.condC (decide ((k : Int) < ((ByteArray.size s : Nat) : Int))) (fun hb2o hb2 => ?_) (fun hb2o hb2 => ?_)
  ·
   have hD := fp_2 (m := m) (o := o_) (z := z) (a := a) hn hb2
   replace hS := hS.fix 14 (vb true) (congrArg Value.bool hb2o)
   refine hS.regS [0] [] fun _ => seg [(8, vi 16)] [] [] trivial fun ac wd hS => ?_
   refine wp_ret ?_
   refine pop_block_ret ?_
   refine pop_then_ret ?_
   refine St.retC 0 hS (vi 16) [] trivial fun hw => ?_
   refine ⟨F, retd (vint ?_), (res_eq (r := arR b F m) (by exact congrArg _ hD.1) (hw.res 0)), hw.frA⟩
   all_goals (exact hD.2)
  ·
   have hs9 : ¬ k < ((s.size : Nat) : Int) := by have h9_ := hb2; omega
   replace hS := hS.fix 14 (vb false) (congrArg Value.bool hb2o)
   refine wp_skip ?_
   refine pop_block ?_
   refine pop_then ?_
   refine wp_seq ?_
   refine wp_region_seq ?_
   refine hS.opsC 3 [0, 0, 0] [1, 3, 4] fun _ => seg [(19, .agg #[pt b 0, vi o_, vi z]), (20, vi a), (21, vi k)] [(0, none)] [.e (ν1 0), .e (ν1 0), .e (ν1 0)] trivial fun ac wd hS => ?_
   refine hS.call0 45 #[.agg #[pt b 0, vi o_, vi z], vi a, vi k] 22 (fd_room b F m o_ z a k _ (hS.mem.res 0) (by first | assumption | omega | (simp_all; done) | (simp_all; omega)) (by first | assumption | omega | (simp_all; done) | (simp_all; omega))) fun ac wd hS => ?_
   refine hS.opsC 1 [0] [1, 3, 4] fun _ => seg [(9, vi (vbyE m o_ z a (k + 1)))] [(0, none)] [] trivial fun ac wd hS => ?_
   refine list_nil_seq ?_
   refine hS.regS [0, 0] [1, 3, 4, 9] fun _ => seg [(24, vb (((vbyE m o_ z a (k + 1)) : Int) != 0))] [(0, none)] [] trivial fun ac wd hS => ?_
   refine hS.condC (((vbyE m o_ z a (k + 1)) : Int) != 0) (fun hb3o hb3 => ?_) (fun hb3o hb3 => ?_)
   ·
    have hD := fp_3 hn hs9 hb3
    replace hS := hS.fix 24 (vb true) (congrArg Value.bool hb3o)
    refine hS.regS [0, 0] [] fun _ => seg [(8, vi (vbyE m o_ z a (k + 1)))] [] [] trivial fun ac wd hS => ?_
    refine wp_ret ?_
    refine pop_then_ret ?_
    refine St.retC 0 hS (vi (vbyE m o_ z a (k + 1))) [] trivial fun hw => ?_
    refine ⟨F, retd (vint ?_), (res_eq (r := arR b F m) (by exact congrArg _ hD.1) (hw.res 0)), hw.frA⟩
    all_goals (exact hD.2)
   ·
    have hv0 : vbyE m o_ z a (k + 1) = 0 := hb3
    obtain ⟨hvi, _⟩ := vby_in hv0
    have hD := fp_4 hn hs9 hv0
    replace hS := hS.fix 24 (vb false) (congrArg Value.bool hb3o)
    refine wp_skip ?_
    refine pop_then ?_
    refine wp_region_seq ?_
    refine hS.opsC 6 [0, 0, 0, 0, 20, 0] [3] fun ν11 => seg [(26, .agg #[pt b 0, vi o_, vi z]), (27, vi a), (31, sc (ν11 0) 0 1 1)] [(1, some ((ν11 0), .cells [v8 ((ByteArray.size s : Nat) : Int)] 5))] [.p (fit .u8 ((ByteArray.size s : Nat) : Int)), .e (ν1 0), .e (ν1 0), .e (ν1 0)] ⟨fit_u8 (by omega), trivial⟩ fun ac wd hS => ?_
    refine Runs1.list ?_
    refine St.toStr hS (.tmp 31) 96 9 rfl rfl (by decide) Tryz.underlying96 Tryz.underlying5 Tryz.underlying9 (b := (ν11 0)) (off := 0) (k := 1) (cp := 1) (fun _ => u8 ((ByteArray.size s : Nat) : Int)) (Cells8.one (hS.mem.get 0 (ν11 0) (.cells [v8 ((ByteArray.size s : Nat) : Int)] 5)) (by omega)) fun ac hS => ?_
    refine hS.opsC 2 [0, 10] [26, 27] fun _ => seg [(34, .string ((bs (fun _ => u8 ((ByteArray.size s : Nat) : Int)) 1) ++ s))] [] [.p (((ByteArray.size (bs (fun _ => u8 ((ByteArray.size s : Nat) : Int)) 1) + ByteArray.size s : Nat) : Int) ≤ IntKind.i64.max)] ⟨(by (rw [bs_size]; have hmx : IntKind.i64.max = 9223372036854775807 := rfl; omega)), trivial⟩ fun ac wd hS => ?_
    refine hS.callC 64 #[.agg #[pt b 0, vi o_, vi z], vi a, .string ((bs (fun _ => u8 ((ByteArray.size s : Nat) : Int)) 1) ++ s)] (vw_Put b F m o_ z a ((bs (fun _ => u8 ((ByteArray.size s : Nat) : Int)) 1) ++ s) _ (hS.mem.res 0) (by first | assumption | omega | (simp_all; done) | (simp_all; omega))) ?_
    rintro _ wd ⟨F4, rfl, hA, hF⟩
    refine ⟨vi (vptE m o_ z a ((bs (fun _ => u8 ((ByteArray.size s : Nat) : Int)) 1) ++ s)), rfl, ?_⟩
    replace hS := (hS.to (hS.mem.stepA 0 rfl hA hF)).put (d := 35) (v := vi (vptE m o_ z a ((bs (fun _ => u8 ((ByteArray.size s : Nat) : Int)) 1) ++ s))) (by decide)
    clear hF
    refine hS.opsC 1 [0] [] fun _ => seg [(8, vi (vptE m o_ z a ((bs (fun _ => u8 ((ByteArray.size s : Nat) : Int)) 1) ++ s)))] [] [] trivial fun ac wd hS => ?_
    refine list_nil_seq ?_
    refine wp_ret ?_
    refine St.retC 0 hS (vi (vptE m o_ z a ((bs (fun _ => u8 ((ByteArray.size s : Nat) : Int)) 1) ++ s))) [] trivial fun hw => ?_
    refine ⟨F4, retd (vint ?_), (res_eq (r := arR b F4 (vptM m o_ z a ((bs (fun _ => u8 ((ByteArray.size s : Nat) : Int)) 1) ++ s))) (by exact congrArg _ hD.1) (hw.res 0)), hw.frA⟩
    all_goals (exact hD.2)

end Go.Proofs.YtnbkafnikpbmbaaGreatDoor.K
