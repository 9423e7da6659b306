/-
  Walks, printed by w2.py.
-/
import Derived.Test.YthgkiieenojcpaaDoorHa
import Derived.Test.YthgkiieenojcpaaDoorProg
namespace Go.Proofs.YthgkiieenojcpaaDoor.K
set_option linter.unusedVariables false
set_option linter.unusedSimpArgs false

set_option maxRecDepth 100000 in
set_option maxHeartbeats 1000000 in
theorem vw_Put (b : Nat) (F : Nat → Prop) (m : AM) (o_ : Int) (z : Int) (a : Int) (s : ByteArray) (w : World) (hr : (arR b F m).R w) (ho : 0 ≤ o_ ∧ 0 ≤ z ∧ o_ + z ≤ 4294967296) :
    Calls Tryd.prog 107 #[.agg #[pt b 0, vi o_, vi z], vi a, .string s] w fun e w' => ∃ (F' : Nat → Prop), e = .returned (vi (vptE m o_ z a s)) ∧ (arR b F' (vptM m o_ z a s)).R w' ∧ Fr w w' F F' := by
 refine enter (args := [.agg #[pt b 0, vi o_, vi z], vi a, .string s]) (D := F) (A := [arR b F m]) Tryd.func107 rfl 24 rfl [] (WS.startA (r := arR b F m) hr trivial trivial) fun ac hS => ?_
 refine hS.regS [0, 0] [1, 2] fun ν1 => seg [(3, pt (ν1 0) 0)] [(0, some ((ν1 0), .cells [pt b 0, vi o_, vi z] 72))] [] trivial fun ac wd hS => ?_
 refine wp_seq ?_
 refine wp_region_seq ?_
 refine hS.opsC 4 [0, 0, 0, 0] [1, 2, 3] fun _ => seg [(8, .agg #[pt b 0, vi o_, vi z]), (9, vi a), (11, vi ((ByteArray.size s : Nat) : Int))] [(0, none)] [.e (ν1 0), .e (ν1 0), .e (ν1 0)] trivial fun ac wd hS => ?_
 refine hS.call0 123 #[.agg #[pt b 0, vi o_, vi z], vi a, vi ((ByteArray.size s : Nat) : Int)] 12 (vw_check b a ((ByteArray.size s : Nat) : Int) o_ z _  (by first | assumption | omega | (simp_all; done) | (simp_all; omega))) fun ac wd hS => ?_
 refine hS.opsC 1 [0] [1, 2, 3] fun _ => seg [(7, vi (vchE z a ((ByteArray.size s : Nat) : Int)))] [(0, none)] [] trivial fun ac wd hS => ?_
 refine list_nil_seq ?_
 refine hS.regS [0, 0] [1, 2, 3, 7] fun _ => seg [(14, vb (((vchE z a ((ByteArray.size s : Nat) : Int)) : Int) != 0))] [(0, none)] [] trivial fun ac wd hS => ?_
 refine hS.condC (((vchE z a ((ByteArray.size s : Nat) : Int)) : Int) != 0) (fun hb1o hb1 => ?_) (fun hb1o hb1 => ?_)
 ·
  have hP := vpt_1 (m := m) (o := o_) hb1
  refine hS.regS [0, 0] [] fun _ => seg [(6, vi (vchE z a ((ByteArray.size s : Nat) : Int)))] [] [] trivial fun ac wd hS => ?_
  refine wp_ret ?_
  refine pop_then_ret ?_
  refine St.retC 0 hS (vi (vchE z a ((ByteArray.size s : Nat) : Int))) [] trivial fun hw => ?_
  refine ⟨F, retd (vint ?_), (res_eq (r := arR b F m) (by exact congrArg _ hP.2) (hw.res 0)), hw.frA⟩
  all_goals (exact hP.1)
 ·
  have hc0 := hb1
  obtain ⟨hc1, hc2, hc3, hc4⟩ := vch_in hc0
  have hP := vpt_2 (m := m) (o := o_) hc0
  refine wp_skip ?_
  refine pop_then ?_
  refine wp_region_seq ?_
  refine hS.opsC 7 [0, 0, 0, 0, 0, 20, 0] [] fun _ => seg [(17, pt b 0), (21, vi (o_ + a)), (22, .string s)] [] [.p (fit .i64 (o_ + a)), .e (ν1 0), .e (ν1 0)] ⟨fit_i64 (by omega), trivial⟩ fun ac wd hS => ?_
  refine hS.callC 44 #[pt b 0, vi (o_ + a), .string s] (ar_Put b F m (o_ + a) s _ (hS.mem.res 0) ) ?_
  rintro _ wd ⟨F2, rfl, hA, hF⟩
  refine ⟨vi (chkE m (o_ + a) (((ByteArray.size s) : Nat) : Int)), rfl, ?_⟩
  replace hS := (hS.to (hS.mem.stepA 0 rfl hA hF)).put (d := 23) (v := vi (chkE m (o_ + a) (((ByteArray.size s) : Nat) : Int))) (by decide)
  clear hF
  refine hS.opsC 1 [0] [] fun _ => seg [(6, vi (chkE m (o_ + a) (((ByteArray.size s) : Nat) : Int)))] [] [] trivial fun ac wd hS => ?_
  refine list_nil_seq ?_
  refine wp_ret ?_
  refine St.retC 0 hS (vi (chkE m (o_ + a) (((ByteArray.size s) : Nat) : Int))) [] trivial fun hw => ?_
  refine ⟨F2, retd (vint ?_), (res_eq (r := arR b F2 (putM m (o_ + a) s)) (by exact congrArg _ hP.2) (hw.res 0)), hw.frA⟩
  all_goals (exact hP.1)

set_option maxRecDepth 100000 in
set_option maxHeartbeats 1000000 in
theorem tags_Open (b : Nat) (o_ : Int) (z : Int) (w : World) :
    Calls Tryd.prog 134 #[.agg #[pt b 0, vi o_, vi z]] w fun e w' => e = .returned (.agg #[pt b 0, vi o_, vi z]) ∧ Fr w w' no no := by
 refine enter (args := [.agg #[pt b 0, vi o_, vi z]]) (D := no) (A := []) Tryd.func134 rfl 5 rfl [] (WS.startL trivial) fun ac hS => ?_
 refine hS.regS [0, 0] [] fun ν1 => seg [(1, pt (ν1 0) 0), (2, pt (ν1 1) 0)] [(0, some ((ν1 0), .cells [pt b 0, vi o_, vi z] 72)), (1, some ((ν1 1), .cells [pnil, vi 0, vi 0] 102))] [] trivial fun ac wd hS => ?_
 refine hS.regS [0, 0, 100] [2] fun _ => seg [] [(1, some ((ν1 1), .cells [pt b 0, vi o_, vi z] 102))] [.e (ν1 1), .e (ν1 1), .e (ν1 1), .e (ν1 0), .e (ν1 0), .e (ν1 0)] trivial fun ac wd hS => ?_
 refine wp_ret ?_
 refine St.retC 0 hS (.agg #[pt b 0, vi o_, vi z]) [.e (ν1 1), .e (ν1 1), .e (ν1 1)] trivial fun hw => ?_
 refine ⟨retd rfl, hw.fr0⟩

set_option maxRecDepth 100000 in
set_option maxHeartbeats 1000000 in
theorem tags_laid (s_ : Int) (r_ : Int) (w : World) :
    Calls Tryd.prog 135 #[.agg #[v8 s_, v8 r_]] w fun e w' => e = .returned (v8 (IntKind.wrap .u8 (s_ + (IntKind.wrap .u8 (4 * r_))))) ∧ Fr w w' no no := by
 refine enter (args := [.agg #[v8 s_, v8 r_]]) (D := no) (A := []) Tryd.func135 rfl 9 rfl [] (WS.startL trivial) fun ac hS => ?_
 refine hS.regS [0, 0] [] fun ν1 => seg [(1, pt (ν1 0) 0)] [(0, some ((ν1 0), .cells [v8 s_, v8 r_] 106))] [] trivial fun ac wd hS => ?_
 refine hS.regS [0, 0, 0, 0, 0, 0, 0] [] fun _ => seg [(2, v8 (IntKind.wrap .u8 (s_ + (IntKind.wrap .u8 (4 * r_)))))] [] [.e (ν1 0), .e (ν1 0)] trivial fun ac wd hS => ?_
 refine wp_ret ?_
 refine St.retC 0 hS (v8 (IntKind.wrap .u8 (s_ + (IntKind.wrap .u8 (4 * r_))))) [] trivial fun hw => ?_
 refine ⟨retd rfl, hw.fr0⟩

set_option maxRecDepth 100000 in
set_option maxHeartbeats 1000000 in
theorem Repeat1 (s : ByteArray) (w : World) :
    Calls Tryd.prog 53 #[.string s, vi 1] w fun e w' => e = .returned (.string s) ∧ Fr w w' no no := by
 refine enter (args := [.string s, vi 1]) (D := no) (A := []) Tryd.func53 rfl 125 rfl [] (WS.startL trivial) fun ac hS => ?_
 refine hS.regS [0] [0, 1] fun _ => seg [] [] [] trivial fun ac wd hS => ?_
 refine wp_seq ?_
 refine hS.regS [0] [0, 1] fun _ => seg [(11, vi 1)] [] [] trivial fun ac wd hS => ?_
 refine wp_block ?_
 refine hS.regS [0, 0] [0, 1, 11] fun _ => seg [(12, vb false)] [] [] trivial fun ac wd hS => ?_
 refine hS.condF ?_
 refine hS.regS [0, 0] [0, 1] fun _ => seg [(14, vb true)] [] [] trivial fun ac wd hS => ?_
 refine hS.condT ?_
 refine hS.regS [0, 0] [] fun _ => seg [(4, .string s)] [] [] trivial fun ac wd hS => ?_
 refine wp_ret ?_
 refine pop_block_ret ?_
 refine pop_then_ret ?_
 refine St.retC 0 hS (.string s) [] trivial fun hw => ?_
 refine ⟨retd rfl, hw.fr0⟩

set_option maxRecDepth 100000 in
set_option maxHeartbeats 1000000 in
theorem tags_Lay1 (b : Nat) (F : Nat → Prop) (m : AM) (o_ : Int) (z : Int) (i : Int) (w : World) (hr : (arR b F m).R w) (ho : 0 ≤ o_ ∧ 0 ≤ z ∧ o_ + z ≤ 4294967296) :
    Calls Tryd.prog 61 #[.agg #[pt b 0, vi o_, vi z], vi i, vi 1, v8 3] w fun e w' => ∃ (F' : Nat → Prop), e = .returned (vi (vptE m o_ z i ((bs (fun _ => u8 7) 1) ++ (bs (fun _ => u8 1) 1)))) ∧ (arR b F' (vptM m o_ z i ((bs (fun _ => u8 7) 1) ++ (bs (fun _ => u8 1) 1)))).R w' ∧ Fr w w' F F' := by
 refine enter (args := [.agg #[pt b 0, vi o_, vi z], vi i, vi 1, v8 3]) (D := F) (A := [arR b F m]) Tryd.func61 rfl 51 rfl [] (WS.startA (r := arR b F m) hr trivial trivial) fun ac hS => ?_
 refine hS.regS [0, 0] [1, 2, 3] fun ν1 => seg [(4, pt (ν1 0) 0)] [(0, some ((ν1 0), .cells [pt b 0, vi o_, vi z] 102))] [] trivial fun ac wd hS => ?_
 refine wp_seq ?_
 refine wp_block ?_
 refine hS.regS [0, 0, 0, 0, 0] [1, 2, 3, 4] fun _ => seg [(11, vb false)] [(0, none)] [.e (ν1 0)] trivial fun ac wd hS => ?_
 refine hS.condF ?_
 refine wp_seq ?_
 refine hS.regS [0, 0, 0, 1, 1, 60, 0] [1, 2, 3, 4] fun _ => seg [(16, vb false)] [(0, none)] [.t false, .t false, .t false] trivial fun ac wd hS => ?_
 refine hS.condF ?_
 refine hS.regS [0, 0, 0] [1, 2, 3, 4] fun _ => seg [(16, vb false)] [(0, none)] [] trivial fun ac wd hS => ?_
 refine hS.condF ?_
 refine hS.regC [0, 0, 0] [1, 2, 3, 4] fun _ => seg [(16, vb false)] [(0, none)] [] trivial fun ac wd hS => ?_
 refine pop_then ?_
 refine hS.condF ?_
 refine wp_skip ?_
 refine pop_block ?_
 refine pop_then ?_
 refine wp_region_seq ?_
 refine hS.opsC 4 [0, 0, 0, 0] [1, 2, 3, 4] fun _ => seg [(30, .agg #[v8 3, v8 1])] [(0, none)] [] trivial fun ac wd hS => ?_
 refine hS.call0 135 #[.agg #[v8 3, v8 1]] 31 (tags_laid 3 1 _  ) fun ac wd hS => ?_
 replace hS := hS.fix 31 (v8 7) (show (v8 (IntKind.wrap .u8 (3 + (IntKind.wrap .u8 (4 * 1)))) : Value) = v8 7 from (vint (by decide +kernel)))
 refine hS.opsC 1 [0] [1, 2, 3, 4, 31] fun _ => seg [(32, .agg #[v8 1, v8 0])] [(0, none)] [] trivial fun ac wd hS => ?_
 refine hS.call0 135 #[.agg #[v8 1, v8 0]] 33 (tags_laid 1 0 _  ) fun ac wd hS => ?_
 replace hS := hS.fix 33 (v8 1) (show (v8 (IntKind.wrap .u8 (1 + (IntKind.wrap .u8 (4 * 0)))) : Value) = v8 1 from (vint (by decide +kernel)))
 refine hS.opsC 2 [0, 0] [1, 2, 3, 4] fun _ => seg [(9, v8 7), (10, v8 1)] [(0, none)] [] trivial fun ac wd hS => ?_
 refine list_nil_seq ?_
 refine wp_seq ?_
 refine hS.regS [0, 0] [1, 2, 4, 9, 10] fun _ => seg [(35, vb false)] [(0, none)] [] trivial fun ac wd hS => ?_
 refine hS.condF ?_
 refine wp_skip ?_
 refine pop_then ?_
 refine St.ordBeginTS [(0, 1), (1, 1), (2, 1), (3, 1), (6, 1), (9, 1), (10, 1), (11, 1), (4, 0), (5, 0), (7, 0), (8, 0), (12, 0), (13, 1), (14, 0), (15, 1)] (.two [(0, 1), (1, 1), (2, 1), (3, 1), (6, 1), (9, 1), (10, 1), (11, 1)] 4 (.two [] 5 (.lin [(7, 0), (8, 0), (12, 0), (13, 1), (14, 0), (15, 1)]) 7 (.two [] 5 (.lin [(8, 0), (12, 0), (13, 1), (14, 0), (15, 1)]) 8 (.two [] 5 (.lin [(12, 0), (13, 1), (14, 0), (15, 1)]) 12 (.lin [(5, 0), (13, 1), (14, 0), (15, 1)])))) 7 (.two [] 4 (.two [] 5 (.lin [(8, 0), (12, 0), (13, 1), (14, 0), (15, 1)]) 8 (.two [] 5 (.lin [(12, 0), (13, 1), (14, 0), (15, 1)]) 12 (.lin [(5, 0), (13, 1), (14, 0), (15, 1)]))) 8 (.two [] 4 (.two [] 5 (.lin [(12, 0), (13, 1), (14, 0), (15, 1)]) 12 (.lin [(5, 0), (13, 1), (14, 0), (15, 1)])) 12 (.lin [(4, 0), (5, 0), (13, 1), (14, 0), (15, 1)])))) [((ν1 0), .cells [pt b 0, vi o_, vi z] 102)] [0] hS fun wd hS => ?_
 have hap := hS.mem.pairs (Hf := [((ν1 0), .cells [pt b 0, vi o_, vi z] 102)]) (l := [0])
 refine wpT_two ?_
 refine St.ordF [0, 0, 0, 0, 0, 0, 0, 0] [0, 1, 2, 3, 6, 9, 10, 11] [] (rest := []) hS hap <| segF [(37, .agg #[pt b 0, vi o_, vi z]), (38, vi i), (39, v8 7), (42, v8 1), (47, vi 1)] [.e (ν1 0), .e (ν1 0), .e (ν1 0)] trivial fun ac hS => ?_
 refine ord_nil ?_
 refine ⟨?_, ?_⟩
 ·
  refine St.ord1 4 [0] [37, 38, 42, 47] [0] hS rfl fun ν10 => seg [(40, sc (ν10 0) 0 1 1)] [(0, none), (1, some ((ν10 0), .cells [v8 7] 5))] [] trivial ⟨by as_aux_lemma => kernel_rfl, fun ac wd hS => ?_⟩
  refine ord_nil ?_
  refine wpT_two ?_
  refine ord_nil ?_
  refine ⟨?_, ?_⟩
  ·
   refine Runs1.ord (i := 5) ?_
   refine St.toStr hS (.tmp 40) 164 9 rfl rfl (by decide) Tryd.underlying164 Tryd.underlying5 Tryd.underlying9 (b := (ν10 0)) (off := 0) (k := 1) (cp := 1) (fun _ => u8 7) (Cells8.one (hS.mem.get 1 (ν10 0) (.cells [v8 7] 5)) (by omega)) fun ac hS => ?_
   refine hS.ordV (l := [0]) ?_
   refine ord_nil ?_
   refine wpT_lin ?_
   refine St.ord1 7 [0] [37, 38, 41, 47] [0] hS rfl fun ν11 => seg [(43, sc (ν11 0) 0 1 1)] [(0, none), (1, none), (2, some ((ν11 0), .cells [v8 1] 5))] [] trivial ⟨by as_aux_lemma => kernel_rfl, fun ac wd hS => ?_⟩
   refine Runs1.ord (i := 8) ?_
   refine St.toStr hS (.tmp 43) 164 9 rfl rfl (by decide) Tryd.underlying164 Tryd.underlying5 Tryd.underlying9 (b := (ν11 0)) (off := 0) (k := 1) (cp := 1) (fun _ => u8 1) (Cells8.one (hS.mem.get 2 (ν11 0) (.cells [v8 1] 5)) (by omega)) fun ac hS => ?_
   refine hS.ordV (l := [0]) ?_
   refine hS.ordC 12 53 #[.string (bs (fun _ => u8 1) 1), vi 1] (Repeat1 (bs (fun _ => u8 1) 1) _  ) ?_
   rintro _ wd ⟨rfl, hF⟩
   refine ⟨.string (bs (fun _ => u8 1) 1), rfl, ?_⟩
   replace hS := (hS.to (hS.mem.keep0 hF)).put (d := 48) (v := .string (bs (fun _ => u8 1) 1)) (by decide)
   clear hF
   refine hS.ordV (l := [0]) ?_
   refine St.ordF [10] [13] [37, 38] (rest := [(14, 0), (15, 1)]) hS hap <| segF [(49, .string ((bs (fun _ => u8 7) 1) ++ (bs (fun _ => u8 1) 1)))] [.p (((ByteArray.size (bs (fun _ => u8 7) 1) + ByteArray.size (bs (fun _ => u8 1) 1) : Nat) : Int) ≤ IntKind.i64.max)] ⟨(by (rw [bs_size, bs_size]; decide)), trivial⟩ fun ac hS => ?_
   refine hS.ordC 14 107 #[.agg #[pt b 0, vi o_, vi z], vi i, .string ((bs (fun _ => u8 7) 1) ++ (bs (fun _ => u8 1) 1))] (vw_Put b F m o_ z i ((bs (fun _ => u8 7) 1) ++ (bs (fun _ => u8 1) 1)) _ (hS.mem.res 0) (by first | assumption | omega | (simp_all; done) | (simp_all; omega))) ?_
   rintro _ wd ⟨F1, rfl, hA, hF⟩
   refine ⟨vi (vptE m o_ z i ((bs (fun _ => u8 7) 1) ++ (bs (fun _ => u8 1) 1))), rfl, ?_⟩
   replace hS := (hS.to (hS.mem.stepA 0 rfl hA hF)).put (d := 50) (v := vi (vptE m o_ z i ((bs (fun _ => u8 7) 1) ++ (bs (fun _ => u8 1) 1)))) (by decide)
   clear hF
   refine hS.ordV (l := [0]) ?_
   refine St.ordF [0] [15] [] (rest := []) hS hap <| segF [(8, vi (vptE m o_ z i ((bs (fun _ => u8 7) 1) ++ (bs (fun _ => u8 1) 1))))] [] trivial fun ac hS => ?_
   refine ord_nil ?_
   refine wp_ret ?_
   refine St.retC 0 hS (vi (vptE m o_ z i ((bs (fun _ => u8 7) 1) ++ (bs (fun _ => u8 1) 1)))) [] trivial fun hw => ?_
   refine ⟨F1, retd rfl, (hw.res 0), hw.frA⟩
  ·
   refine St.ord1 7 [0] [37, 38, 40, 47] [0] hS rfl fun ν12 => seg [(43, sc (ν12 0) 0 1 1)] [(0, none), (1, none), (2, some ((ν12 0), .cells [v8 1] 5))] [] trivial ⟨by as_aux_lemma => kernel_rfl, fun ac wd hS => ?_⟩
   refine ord_nil ?_
   refine wpT_two ?_
   refine ord_nil ?_
   refine ⟨?_, ?_⟩
   ·
    refine Runs1.ord (i := 5) ?_
    refine St.toStr hS (.tmp 40) 164 9 rfl rfl (by decide) Tryd.underlying164 Tryd.underlying5 Tryd.underlying9 (b := (ν10 0)) (off := 0) (k := 1) (cp := 1) (fun _ => u8 7) (Cells8.one (hS.mem.get 1 (ν10 0) (.cells [v8 7] 5)) (by omega)) fun ac hS => ?_
    refine hS.ordV (l := [0]) ?_
    refine ord_nil ?_
    refine wpT_lin ?_
    refine Runs1.ord (i := 8) ?_
    refine St.toStr hS (.tmp 43) 164 9 rfl rfl (by decide) Tryd.underlying164 Tryd.underlying5 Tryd.underlying9 (b := (ν12 0)) (off := 0) (k := 1) (cp := 1) (fun _ => u8 1) (Cells8.one (hS.mem.get 2 (ν12 0) (.cells [v8 1] 5)) (by omega)) fun ac hS => ?_
    refine hS.ordV (l := [0]) ?_
    refine hS.ordC 12 53 #[.string (bs (fun _ => u8 1) 1), vi 1] (Repeat1 (bs (fun _ => u8 1) 1) _  ) ?_
    rintro _ wd ⟨rfl, hF⟩
    refine ⟨.string (bs (fun _ => u8 1) 1), rfl, ?_⟩
    replace hS := (hS.to (hS.mem.keep0 hF)).put (d := 48) (v := .string (bs (fun _ => u8 1) 1)) (by decide)
    clear hF
    refine hS.ordV (l := [0]) ?_
    refine St.ordF [10] [13] [37, 38] (rest := [(14, 0), (15, 1)]) hS hap <| segF [(49, .string ((bs (fun _ => u8 7) 1) ++ (bs (fun _ => u8 1) 1)))] [.p (((ByteArray.size (bs (fun _ => u8 7) 1) + ByteArray.size (bs (fun _ => u8 1) 1) : Nat) : Int) ≤ IntKind.i64.max)] ⟨(by (rw [bs_size, bs_size]; decide)), trivial⟩ fun ac hS => ?_
    refine hS.ordC 14 107 #[.agg #[pt b 0, vi o_, vi z], vi i, .string ((bs (fun _ => u8 7) 1) ++ (bs (fun _ => u8 1) 1))] (vw_Put b F m o_ z i ((bs (fun _ => u8 7) 1) ++ (bs (fun _ => u8 1) 1)) _ (hS.mem.res 0) (by first | assumption | omega | (simp_all; done) | (simp_all; omega))) ?_
    rintro _ wd ⟨F2, rfl, hA, hF⟩
    refine ⟨vi (vptE m o_ z i ((bs (fun _ => u8 7) 1) ++ (bs (fun _ => u8 1) 1))), rfl, ?_⟩
    replace hS := (hS.to (hS.mem.stepA 0 rfl hA hF)).put (d := 50) (v := vi (vptE m o_ z i ((bs (fun _ => u8 7) 1) ++ (bs (fun _ => u8 1) 1)))) (by decide)
    clear hF
    refine hS.ordV (l := [0]) ?_
    refine St.ordF [0] [15] [] (rest := []) hS hap <| segF [(8, vi (vptE m o_ z i ((bs (fun _ => u8 7) 1) ++ (bs (fun _ => u8 1) 1))))] [] trivial fun ac hS => ?_
    refine ord_nil ?_
    refine wp_ret ?_
    refine St.retC 0 hS (vi (vptE m o_ z i ((bs (fun _ => u8 7) 1) ++ (bs (fun _ => u8 1) 1)))) [] trivial fun hw => ?_
    refine ⟨F2, retd rfl, (hw.res 0), hw.frA⟩
   ·
    refine Runs1.ord (i := 8) ?_
    refine St.toStr hS (.tmp 43) 164 9 rfl rfl (by decide) Tryd.underlying164 Tryd.underlying5 Tryd.underlying9 (b := (ν12 0)) (off := 0) (k := 1) (cp := 1) (fun _ => u8 1) (Cells8.one (hS.mem.get 2 (ν12 0) (.cells [v8 1] 5)) (by omega)) fun ac hS => ?_
    refine hS.ordV (l := [0]) ?_
    refine ord_nil ?_
    refine wpT_two ?_
    refine ord_nil ?_
    refine ⟨?_, ?_⟩
    ·
     refine Runs1.ord (i := 5) ?_
     refine St.toStr hS (.tmp 40) 164 9 rfl rfl (by decide) Tryd.underlying164 Tryd.underlying5 Tryd.underlying9 (b := (ν10 0)) (off := 0) (k := 1) (cp := 1) (fun _ => u8 7) (Cells8.one (hS.mem.get 1 (ν10 0) (.cells [v8 7] 5)) (by omega)) fun ac hS => ?_
     refine hS.ordV (l := [0]) ?_
     refine ord_nil ?_
     refine wpT_lin ?_
     refine hS.ordC 12 53 #[.string (bs (fun _ => u8 1) 1), vi 1] (Repeat1 (bs (fun _ => u8 1) 1) _  ) ?_
     rintro _ wd ⟨rfl, hF⟩
     refine ⟨.string (bs (fun _ => u8 1) 1), rfl, ?_⟩
     replace hS := (hS.to (hS.mem.keep0 hF)).put (d := 48) (v := .string (bs (fun _ => u8 1) 1)) (by decide)
     clear hF
     refine hS.ordV (l := [0]) ?_
     refine St.ordF [10] [13] [37, 38] (rest := [(14, 0), (15, 1)]) hS hap <| segF [(49, .string ((bs (fun _ => u8 7) 1) ++ (bs (fun _ => u8 1) 1)))] [.p (((ByteArray.size (bs (fun _ => u8 7) 1) + ByteArray.size (bs (fun _ => u8 1) 1) : Nat) : Int) ≤ IntKind.i64.max)] ⟨(by (rw [bs_size, bs_size]; decide)), trivial⟩ fun ac hS => ?_
     refine hS.ordC 14 107 #[.agg #[pt b 0, vi o_, vi z], vi i, .string ((bs (fun _ => u8 7) 1) ++ (bs (fun _ => u8 1) 1))] (vw_Put b F m o_ z i ((bs (fun _ => u8 7) 1) ++ (bs (fun _ => u8 1) 1)) _ (hS.mem.res 0) (by first | assumption | omega | (simp_all; done) | (simp_all; omega))) ?_
     rintro _ wd ⟨F3, rfl, hA, hF⟩
     refine ⟨vi (vptE m o_ z i ((bs (fun _ => u8 7) 1) ++ (bs (fun _ => u8 1) 1))), rfl, ?_⟩
     replace hS := (hS.to (hS.mem.stepA 0 rfl hA hF)).put (d := 50) (v := vi (vptE m o_ z i ((bs (fun _ => u8 7) 1) ++ (bs (fun _ => u8 1) 1)))) (by decide)
     clear hF
     refine hS.ordV (l := [0]) ?_
     refine St.ordF [0] [15] [] (rest := []) hS hap <| segF [(8, vi (vptE m o_ z i ((bs (fun _ => u8 7) 1) ++ (bs (fun _ => u8 1) 1))))] [] trivial fun ac hS => ?_
     refine ord_nil ?_
     refine wp_ret ?_
     refine St.retC 0 hS (vi (vptE m o_ z i ((bs (fun _ => u8 7) 1) ++ (bs (fun _ => u8 1) 1)))) [] trivial fun hw => ?_
     refine ⟨F3, retd rfl, (hw.res 0), hw.frA⟩
    ·
     refine hS.ordC 12 53 #[.string (bs (fun _ => u8 1) 1), vi 1] (Repeat1 (bs (fun _ => u8 1) 1) _  ) ?_
     rintro _ wd ⟨rfl, hF⟩
     refine ⟨.string (bs (fun _ => u8 1) 1), rfl, ?_⟩
     replace hS := (hS.to (hS.mem.keep0 hF)).put (d := 48) (v := .string (bs (fun _ => u8 1) 1)) (by decide)
     clear hF
     refine hS.ordV (l := [0]) ?_
     refine ord_nil ?_
     refine wpT_lin ?_
     refine Runs1.ord (i := 5) ?_
     refine St.toStr hS (.tmp 40) 164 9 rfl rfl (by decide) Tryd.underlying164 Tryd.underlying5 Tryd.underlying9 (b := (ν10 0)) (off := 0) (k := 1) (cp := 1) (fun _ => u8 7) (Cells8.one (hS.mem.get 1 (ν10 0) (.cells [v8 7] 5)) (by omega)) fun ac hS => ?_
     refine hS.ordV (l := [0]) ?_
     refine St.ordF [10] [13] [37, 38] (rest := [(14, 0), (15, 1)]) hS hap <| segF [(49, .string ((bs (fun _ => u8 7) 1) ++ (bs (fun _ => u8 1) 1)))] [.p (((ByteArray.size (bs (fun _ => u8 7) 1) + ByteArray.size (bs (fun _ => u8 1) 1) : Nat) : Int) ≤ IntKind.i64.max)] ⟨(by (rw [bs_size, bs_size]; decide)), trivial⟩ fun ac hS => ?_
     refine hS.ordC 14 107 #[.agg #[pt b 0, vi o_, vi z], vi i, .string ((bs (fun _ => u8 7) 1) ++ (bs (fun _ => u8 1) 1))] (vw_Put b F m o_ z i ((bs (fun _ => u8 7) 1) ++ (bs (fun _ => u8 1) 1)) _ (hS.mem.res 0) (by first | assumption | omega | (simp_all; done) | (simp_all; omega))) ?_
     rintro _ wd ⟨F4, rfl, hA, hF⟩
     refine ⟨vi (vptE m o_ z i ((bs (fun _ => u8 7) 1) ++ (bs (fun _ => u8 1) 1))), rfl, ?_⟩
     replace hS := (hS.to (hS.mem.stepA 0 rfl hA hF)).put (d := 50) (v := vi (vptE m o_ z i ((bs (fun _ => u8 7) 1) ++ (bs (fun _ => u8 1) 1)))) (by decide)
     clear hF
     refine hS.ordV (l := [0]) ?_
     refine St.ordF [0] [15] [] (rest := []) hS hap <| segF [(8, vi (vptE m o_ z i ((bs (fun _ => u8 7) 1) ++ (bs (fun _ => u8 1) 1))))] [] trivial fun ac hS => ?_
     refine ord_nil ?_
     refine wp_ret ?_
     refine St.retC 0 hS (vi (vptE m o_ z i ((bs (fun _ => u8 7) 1) ++ (bs (fun _ => u8 1) 1)))) [] trivial fun hw => ?_
     refine ⟨F4, retd rfl, (hw.res 0), hw.frA⟩
 ·
  refine St.ord1 7 [0] [37, 38, 39, 47] [0] hS rfl fun ν13 => seg [(43, sc (ν13 0) 0 1 1)] [(0, none), (1, some ((ν13 0), .cells [v8 1] 5))] [] trivial ⟨by as_aux_lemma => kernel_rfl, fun ac wd hS => ?_⟩
  refine ord_nil ?_
  refine wpT_two ?_
  refine ord_nil ?_
  refine ⟨?_, ?_⟩
  ·
   refine St.ord1 4 [0] [37, 38, 43, 47] [0] hS rfl fun ν14 => seg [(40, sc (ν14 0) 0 1 1)] [(0, none), (1, none), (2, some ((ν14 0), .cells [v8 7] 5))] [] trivial ⟨by as_aux_lemma => kernel_rfl, fun ac wd hS => ?_⟩
   refine ord_nil ?_
   refine wpT_two ?_
   refine ord_nil ?_
   refine ⟨?_, ?_⟩
   ·
    refine Runs1.ord (i := 5) ?_
    refine St.toStr hS (.tmp 40) 164 9 rfl rfl (by decide) Tryd.underlying164 Tryd.underlying5 Tryd.underlying9 (b := (ν14 0)) (off := 0) (k := 1) (cp := 1) (fun _ => u8 7) (Cells8.one (hS.mem.get 2 (ν14 0) (.cells [v8 7] 5)) (by omega)) fun ac hS => ?_
    refine hS.ordV (l := [0]) ?_
    refine ord_nil ?_
    refine wpT_lin ?_
    refine Runs1.ord (i := 8) ?_
    refine St.toStr hS (.tmp 43) 164 9 rfl rfl (by decide) Tryd.underlying164 Tryd.underlying5 Tryd.underlying9 (b := (ν13 0)) (off := 0) (k := 1) (cp := 1) (fun _ => u8 1) (Cells8.one (hS.mem.get 1 (ν13 0) (.cells [v8 1] 5)) (by omega)) fun ac hS => ?_
    refine hS.ordV (l := [0]) ?_
    refine hS.ordC 12 53 #[.string (bs (fun _ => u8 1) 1), vi 1] (Repeat1 (bs (fun _ => u8 1) 1) _  ) ?_
    rintro _ wd ⟨rfl, hF⟩
    refine ⟨.string (bs (fun _ => u8 1) 1), rfl, ?_⟩
    replace hS := (hS.to (hS.mem.keep0 hF)).put (d := 48) (v := .string (bs (fun _ => u8 1) 1)) (by decide)
    clear hF
    refine hS.ordV (l := [0]) ?_
    refine St.ordF [10] [13] [37, 38] (rest := [(14, 0), (15, 1)]) hS hap <| segF [(49, .string ((bs (fun _ => u8 7) 1) ++ (bs (fun _ => u8 1) 1)))] [.p (((ByteArray.size (bs (fun _ => u8 7) 1) + ByteArray.size (bs (fun _ => u8 1) 1) : Nat) : Int) ≤ IntKind.i64.max)] ⟨(by (rw [bs_size, bs_size]; decide)), trivial⟩ fun ac hS => ?_
    refine hS.ordC 14 107 #[.agg #[pt b 0, vi o_, vi z], vi i, .string ((bs (fun _ => u8 7) 1) ++ (bs (fun _ => u8 1) 1))] (vw_Put b F m o_ z i ((bs (fun _ => u8 7) 1) ++ (bs (fun _ => u8 1) 1)) _ (hS.mem.res 0) (by first | assumption | omega | (simp_all; done) | (simp_all; omega))) ?_
    rintro _ wd ⟨F5, rfl, hA, hF⟩
    refine ⟨vi (vptE m o_ z i ((bs (fun _ => u8 7) 1) ++ (bs (fun _ => u8 1) 1))), rfl, ?_⟩
    replace hS := (hS.to (hS.mem.stepA 0 rfl hA hF)).put (d := 50) (v := vi (vptE m o_ z i ((bs (fun _ => u8 7) 1) ++ (bs (fun _ => u8 1) 1)))) (by decide)
    clear hF
    refine hS.ordV (l := [0]) ?_
    refine St.ordF [0] [15] [] (rest := []) hS hap <| segF [(8, vi (vptE m o_ z i ((bs (fun _ => u8 7) 1) ++ (bs (fun _ => u8 1) 1))))] [] trivial fun ac hS => ?_
    refine ord_nil ?_
    refine wp_ret ?_
    refine St.retC 0 hS (vi (vptE m o_ z i ((bs (fun _ => u8 7) 1) ++ (bs (fun _ => u8 1) 1)))) [] trivial fun hw => ?_
    refine ⟨F5, retd rfl, (hw.res 0), hw.frA⟩
   ·
    refine Runs1.ord (i := 8) ?_
    refine St.toStr hS (.tmp 43) 164 9 rfl rfl (by decide) Tryd.underlying164 Tryd.underlying5 Tryd.underlying9 (b := (ν13 0)) (off := 0) (k := 1) (cp := 1) (fun _ => u8 1) (Cells8.one (hS.mem.get 1 (ν13 0) (.cells [v8 1] 5)) (by omega)) fun ac hS => ?_
    refine hS.ordV (l := [0]) ?_
    refine ord_nil ?_
    refine wpT_two ?_
    refine ord_nil ?_
    refine ⟨?_, ?_⟩
    ·
     refine Runs1.ord (i := 5) ?_
     refine St.toStr hS (.tmp 40) 164 9 rfl rfl (by decide) Tryd.underlying164 Tryd.underlying5 Tryd.underlying9 (b := (ν14 0)) (off := 0) (k := 1) (cp := 1) (fun _ => u8 7) (Cells8.one (hS.mem.get 2 (ν14 0) (.cells [v8 7] 5)) (by omega)) fun ac hS => ?_
     refine hS.ordV (l := [0]) ?_
     refine ord_nil ?_
     refine wpT_lin ?_
     refine hS.ordC 12 53 #[.string (bs (fun _ => u8 1) 1), vi 1] (Repeat1 (bs (fun _ => u8 1) 1) _  ) ?_
     rintro _ wd ⟨rfl, hF⟩
     refine ⟨.string (bs (fun _ => u8 1) 1), rfl, ?_⟩
     replace hS := (hS.to (hS.mem.keep0 hF)).put (d := 48) (v := .string (bs (fun _ => u8 1) 1)) (by decide)
     clear hF
     refine hS.ordV (l := [0]) ?_
     refine St.ordF [10] [13] [37, 38] (rest := [(14, 0), (15, 1)]) hS hap <| segF [(49, .string ((bs (fun _ => u8 7) 1) ++ (bs (fun _ => u8 1) 1)))] [.p (((ByteArray.size (bs (fun _ => u8 7) 1) + ByteArray.size (bs (fun _ => u8 1) 1) : Nat) : Int) ≤ IntKind.i64.max)] ⟨(by (rw [bs_size, bs_size]; decide)), trivial⟩ fun ac hS => ?_
     refine hS.ordC 14 107 #[.agg #[pt b 0, vi o_, vi z], vi i, .string ((bs (fun _ => u8 7) 1) ++ (bs (fun _ => u8 1) 1))] (vw_Put b F m o_ z i ((bs (fun _ => u8 7) 1) ++ (bs (fun _ => u8 1) 1)) _ (hS.mem.res 0) (by first | assumption | omega | (simp_all; done) | (simp_all; omega))) ?_
     rintro _ wd ⟨F6, rfl, hA, hF⟩
     refine ⟨vi (vptE m o_ z i ((bs (fun _ => u8 7) 1) ++ (bs (fun _ => u8 1) 1))), rfl, ?_⟩
     replace hS := (hS.to (hS.mem.stepA 0 rfl hA hF)).put (d := 50) (v := vi (vptE m o_ z i ((bs (fun _ => u8 7) 1) ++ (bs (fun _ => u8 1) 1)))) (by decide)
     clear hF
     refine hS.ordV (l := [0]) ?_
     refine St.ordF [0] [15] [] (rest := []) hS hap <| segF [(8, vi (vptE m o_ z i ((bs (fun _ => u8 7) 1) ++ (bs (fun _ => u8 1) 1))))] [] trivial fun ac hS => ?_
     refine ord_nil ?_
     refine wp_ret ?_
     refine St.retC 0 hS (vi (vptE m o_ z i ((bs (fun _ => u8 7) 1) ++ (bs (fun _ => u8 1) 1)))) [] trivial fun hw => ?_
     refine ⟨F6, retd rfl, (hw.res 0), hw.frA⟩
    ·
     refine hS.ordC 12 53 #[.string (bs (fun _ => u8 1) 1), vi 1] (Repeat1 (bs (fun _ => u8 1) 1) _  ) ?_
     rintro _ wd ⟨rfl, hF⟩
     refine ⟨.string (bs (fun _ => u8 1) 1), rfl, ?_⟩
     replace hS := (hS.to (hS.mem.keep0 hF)).put (d := 48) (v := .string (bs (fun _ => u8 1) 1)) (by decide)
     clear hF
     refine hS.ordV (l := [0]) ?_
     refine ord_nil ?_
     refine wpT_lin ?_
     refine Runs1.ord (i := 5) ?_
     refine St.toStr hS (.tmp 40) 164 9 rfl rfl (by decide) Tryd.underlying164 Tryd.underlying5 Tryd.underlying9 (b := (ν14 0)) (off := 0) (k := 1) (cp := 1) (fun _ => u8 7) (Cells8.one (hS.mem.get 2 (ν14 0) (.cells [v8 7] 5)) (by omega)) fun ac hS => ?_
     refine hS.ordV (l := [0]) ?_
     refine St.ordF [10] [13] [37, 38] (rest := [(14, 0), (15, 1)]) hS hap <| segF [(49, .string ((bs (fun _ => u8 7) 1) ++ (bs (fun _ => u8 1) 1)))] [.p (((ByteArray.size (bs (fun _ => u8 7) 1) + ByteArray.size (bs (fun _ => u8 1) 1) : Nat) : Int) ≤ IntKind.i64.max)] ⟨(by (rw [bs_size, bs_size]; decide)), trivial⟩ fun ac hS => ?_
     refine hS.ordC 14 107 #[.agg #[pt b 0, vi o_, vi z], vi i, .string ((bs (fun _ => u8 7) 1) ++ (bs (fun _ => u8 1) 1))] (vw_Put b F m o_ z i ((bs (fun _ => u8 7) 1) ++ (bs (fun _ => u8 1) 1)) _ (hS.mem.res 0) (by first | assumption | omega | (simp_all; done) | (simp_all; omega))) ?_
     rintro _ wd ⟨F7, rfl, hA, hF⟩
     refine ⟨vi (vptE m o_ z i ((bs (fun _ => u8 7) 1) ++ (bs (fun _ => u8 1) 1))), rfl, ?_⟩
     replace hS := (hS.to (hS.mem.stepA 0 rfl hA hF)).put (d := 50) (v := vi (vptE m o_ z i ((bs (fun _ => u8 7) 1) ++ (bs (fun _ => u8 1) 1)))) (by decide)
     clear hF
     refine hS.ordV (l := [0]) ?_
     refine St.ordF [0] [15] [] (rest := []) hS hap <| segF [(8, vi (vptE m o_ z i ((bs (fun _ => u8 7) 1) ++ (bs (fun _ => u8 1) 1))))] [] trivial fun ac hS => ?_
     refine ord_nil ?_
     refine wp_ret ?_
     refine St.retC 0 hS (vi (vptE m o_ z i ((bs (fun _ => u8 7) 1) ++ (bs (fun _ => u8 1) 1)))) [] trivial fun hw => ?_
     refine ⟨F7, retd rfl, (hw.res 0), hw.frA⟩
  ·
   refine Runs1.ord (i := 8) ?_
   refine St.toStr hS (.tmp 43) 164 9 rfl rfl (by decide) Tryd.underlying164 Tryd.underlying5 Tryd.underlying9 (b := (ν13 0)) (off := 0) (k := 1) (cp := 1) (fun _ => u8 1) (Cells8.one (hS.mem.get 1 (ν13 0) (.cells [v8 1] 5)) (by omega)) fun ac hS => ?_
   refine hS.ordV (l := [0]) ?_
   refine ord_nil ?_
   refine wpT_two ?_
   refine ord_nil ?_
   refine ⟨?_, ?_⟩
   ·
    refine St.ord1 4 [0] [37, 38, 44, 47] [0] hS rfl fun ν15 => seg [(40, sc (ν15 0) 0 1 1)] [(0, none), (1, none), (2, some ((ν15 0), .cells [v8 7] 5))] [] trivial ⟨by as_aux_lemma => kernel_rfl, fun ac wd hS => ?_⟩
    refine ord_nil ?_
    refine wpT_two ?_
    refine ord_nil ?_
    refine ⟨?_, ?_⟩
    ·
     refine Runs1.ord (i := 5) ?_
     refine St.toStr hS (.tmp 40) 164 9 rfl rfl (by decide) Tryd.underlying164 Tryd.underlying5 Tryd.underlying9 (b := (ν15 0)) (off := 0) (k := 1) (cp := 1) (fun _ => u8 7) (Cells8.one (hS.mem.get 2 (ν15 0) (.cells [v8 7] 5)) (by omega)) fun ac hS => ?_
     refine hS.ordV (l := [0]) ?_
     refine ord_nil ?_
     refine wpT_lin ?_
     refine hS.ordC 12 53 #[.string (bs (fun _ => u8 1) 1), vi 1] (Repeat1 (bs (fun _ => u8 1) 1) _  ) ?_
     rintro _ wd ⟨rfl, hF⟩
     refine ⟨.string (bs (fun _ => u8 1) 1), rfl, ?_⟩
     replace hS := (hS.to (hS.mem.keep0 hF)).put (d := 48) (v := .string (bs (fun _ => u8 1) 1)) (by decide)
     clear hF
     refine hS.ordV (l := [0]) ?_
     refine St.ordF [10] [13] [37, 38] (rest := [(14, 0), (15, 1)]) hS hap <| segF [(49, .string ((bs (fun _ => u8 7) 1) ++ (bs (fun _ => u8 1) 1)))] [.p (((ByteArray.size (bs (fun _ => u8 7) 1) + ByteArray.size (bs (fun _ => u8 1) 1) : Nat) : Int) ≤ IntKind.i64.max)] ⟨(by (rw [bs_size, bs_size]; decide)), trivial⟩ fun ac hS => ?_
     refine hS.ordC 14 107 #[.agg #[pt b 0, vi o_, vi z], vi i, .string ((bs (fun _ => u8 7) 1) ++ (bs (fun _ => u8 1) 1))] (vw_Put b F m o_ z i ((bs (fun _ => u8 7) 1) ++ (bs (fun _ => u8 1) 1)) _ (hS.mem.res 0) (by first | assumption | omega | (simp_all; done) | (simp_all; omega))) ?_
     rintro _ wd ⟨F8, rfl, hA, hF⟩
     refine ⟨vi (vptE m o_ z i ((bs (fun _ => u8 7) 1) ++ (bs (fun _ => u8 1) 1))), rfl, ?_⟩
     replace hS := (hS.to (hS.mem.stepA 0 rfl hA hF)).put (d := 50) (v := vi (vptE m o_ z i ((bs (fun _ => u8 7) 1) ++ (bs (fun _ => u8 1) 1)))) (by decide)
     clear hF
     refine hS.ordV (l := [0]) ?_
     refine St.ordF [0] [15] [] (rest := []) hS hap <| segF [(8, vi (vptE m o_ z i ((bs (fun _ => u8 7) 1) ++ (bs (fun _ => u8 1) 1))))] [] trivial fun ac hS => ?_
     refine ord_nil ?_
     refine wp_ret ?_
     refine St.retC 0 hS (vi (vptE m o_ z i ((bs (fun _ => u8 7) 1) ++ (bs (fun _ => u8 1) 1)))) [] trivial fun hw => ?_
     refine ⟨F8, retd rfl, (hw.res 0), hw.frA⟩
    ·
     refine hS.ordC 12 53 #[.string (bs (fun _ => u8 1) 1), vi 1] (Repeat1 (bs (fun _ => u8 1) 1) _  ) ?_
     rintro _ wd ⟨rfl, hF⟩
     refine ⟨.string (bs (fun _ => u8 1) 1), rfl, ?_⟩
     replace hS := (hS.to (hS.mem.keep0 hF)).put (d := 48) (v := .string (bs (fun _ => u8 1) 1)) (by decide)
     clear hF
     refine hS.ordV (l := [0]) ?_
     refine ord_nil ?_
     refine wpT_lin ?_
     refine Runs1.ord (i := 5) ?_
     refine St.toStr hS (.tmp 40) 164 9 rfl rfl (by decide) Tryd.underlying164 Tryd.underlying5 Tryd.underlying9 (b := (ν15 0)) (off := 0) (k := 1) (cp := 1) (fun _ => u8 7) (Cells8.one (hS.mem.get 2 (ν15 0) (.cells [v8 7] 5)) (by omega)) fun ac hS => ?_
     refine hS.ordV (l := [0]) ?_
     refine St.ordF [10] [13] [37, 38] (rest := [(14, 0), (15, 1)]) hS hap <| segF [(49, .string ((bs (fun _ => u8 7) 1) ++ (bs (fun _ => u8 1) 1)))] [.p (((ByteArray.size (bs (fun _ => u8 7) 1) + ByteArray.size (bs (fun _ => u8 1) 1) : Nat) : Int) ≤ IntKind.i64.max)] ⟨(by (rw [bs_size, bs_size]; decide)), trivial⟩ fun ac hS => ?_
     refine hS.ordC 14 107 #[.agg #[pt b 0, vi o_, vi z], vi i, .string ((bs (fun _ => u8 7) 1) ++ (bs (fun _ => u8 1) 1))] (vw_Put b F m o_ z i ((bs (fun _ => u8 7) 1) ++ (bs (fun _ => u8 1) 1)) _ (hS.mem.res 0) (by first | assumption | omega | (simp_all; done) | (simp_all; omega))) ?_
     rintro _ wd ⟨F9, rfl, hA, hF⟩
     refine ⟨vi (vptE m o_ z i ((bs (fun _ => u8 7) 1) ++ (bs (fun _ => u8 1) 1))), rfl, ?_⟩
     replace hS := (hS.to (hS.mem.stepA 0 rfl hA hF)).put (d := 50) (v := vi (vptE m o_ z i ((bs (fun _ => u8 7) 1) ++ (bs (fun _ => u8 1) 1)))) (by decide)
     clear hF
     refine hS.ordV (l := [0]) ?_
     refine St.ordF [0] [15] [] (rest := []) hS hap <| segF [(8, vi (vptE m o_ z i ((bs (fun _ => u8 7) 1) ++ (bs (fun _ => u8 1) 1))))] [] trivial fun ac hS => ?_
     refine ord_nil ?_
     refine wp_ret ?_
     refine St.retC 0 hS (vi (vptE m o_ z i ((bs (fun _ => u8 7) 1) ++ (bs (fun _ => u8 1) 1)))) [] trivial fun hw => ?_
     refine ⟨F9, retd rfl, (hw.res 0), hw.frA⟩
   ·
    refine hS.ordC 12 53 #[.string (bs (fun _ => u8 1) 1), vi 1] (Repeat1 (bs (fun _ => u8 1) 1) _  ) ?_
    rintro _ wd ⟨rfl, hF⟩
    refine ⟨.string (bs (fun _ => u8 1) 1), rfl, ?_⟩
    replace hS := (hS.to (hS.mem.keep0 hF)).put (d := 48) (v := .string (bs (fun _ => u8 1) 1)) (by decide)
    clear hF
    refine hS.ordV (l := [0]) ?_
    refine ord_nil ?_
    refine wpT_lin ?_
    refine St.ord1 4 [0] [37, 38, 48] [0] hS rfl fun ν16 => seg [(40, sc (ν16 0) 0 1 1)] [(0, none), (1, none), (2, some ((ν16 0), .cells [v8 7] 5))] [] trivial ⟨by as_aux_lemma => kernel_rfl, fun ac wd hS => ?_⟩
    refine Runs1.ord (i := 5) ?_
    refine St.toStr hS (.tmp 40) 164 9 rfl rfl (by decide) Tryd.underlying164 Tryd.underlying5 Tryd.underlying9 (b := (ν16 0)) (off := 0) (k := 1) (cp := 1) (fun _ => u8 7) (Cells8.one (hS.mem.get 2 (ν16 0) (.cells [v8 7] 5)) (by omega)) fun ac hS => ?_
    refine hS.ordV (l := [0]) ?_
    refine St.ordF [10] [13] [37, 38] (rest := [(14, 0), (15, 1)]) hS hap <| segF [(49, .string ((bs (fun _ => u8 7) 1) ++ (bs (fun _ => u8 1) 1)))] [.p (((ByteArray.size (bs (fun _ => u8 7) 1) + ByteArray.size (bs (fun _ => u8 1) 1) : Nat) : Int) ≤ IntKind.i64.max)] ⟨(by (rw [bs_size, bs_size]; decide)), trivial⟩ fun ac hS => ?_
    refine hS.ordC 14 107 #[.agg #[pt b 0, vi o_, vi z], vi i, .string ((bs (fun _ => u8 7) 1) ++ (bs (fun _ => u8 1) 1))] (vw_Put b F m o_ z i ((bs (fun _ => u8 7) 1) ++ (bs (fun _ => u8 1) 1)) _ (hS.mem.res 0) (by first | assumption | omega | (simp_all; done) | (simp_all; omega))) ?_
    rintro _ wd ⟨F10, rfl, hA, hF⟩
    refine ⟨vi (vptE m o_ z i ((bs (fun _ => u8 7) 1) ++ (bs (fun _ => u8 1) 1))), rfl, ?_⟩
    replace hS := (hS.to (hS.mem.stepA 0 rfl hA hF)).put (d := 50) (v := vi (vptE m o_ z i ((bs (fun _ => u8 7) 1) ++ (bs (fun _ => u8 1) 1)))) (by decide)
    clear hF
    refine hS.ordV (l := [0]) ?_
    refine St.ordF [0] [15] [] (rest := []) hS hap <| segF [(8, vi (vptE m o_ z i ((bs (fun _ => u8 7) 1) ++ (bs (fun _ => u8 1) 1))))] [] trivial fun ac hS => ?_
    refine ord_nil ?_
    refine wp_ret ?_
    refine St.retC 0 hS (vi (vptE m o_ z i ((bs (fun _ => u8 7) 1) ++ (bs (fun _ => u8 1) 1)))) [] trivial fun hw => ?_
    refine ⟨F10, retd rfl, (hw.res 0), hw.frA⟩

set_option maxRecDepth 100000 in
set_option maxHeartbeats 1000000 in
theorem tags_Get (b : Nat) (F : Nat → Prop) (m : AM) (o_ : Int) (z : Int) (i : Int) (w : World) (hr : (arR b F m).R w) (ho : 0 ≤ o_ ∧ 0 ≤ z ∧ o_ + z ≤ 4294967296) :
    Calls Tryd.prog 136 #[.agg #[pt b 0, vi o_, vi z], vi i] w fun e w' => e = .returned (.tuple #[.agg #[v8 (tgS m o_ z i), v8 (tgO m o_ z i)], vi (tgE m o_ z i)]) ∧ Fr w w' no no := by
 have htb := tgB_rng m o_ z i
 refine enter (args := [.agg #[pt b 0, vi o_, vi z], vi i]) (D := no) (A := []) Tryd.func136 rfl 23 rfl [] (WS.startL trivial) fun ac hS => ?_
 refine hS.regS [0, 0, 0] [1] fun ν1 => seg [(2, pt (ν1 0) 0), (4, pt (ν1 1) 0)] [(0, some ((ν1 0), .cells [pt b 0, vi o_, vi z] 102)), (1, some ((ν1 1), .cells [v8 0, v8 0] 106))] [] trivial fun ac wd hS => ?_
 refine wp_region_seq ?_
 refine hS.opsC 3 [0, 0, 0] [4] fun _ => seg [(10, .agg #[pt b 0, vi o_, vi z]), (11, vi i)] [(1, none)] [.e (ν1 0), .e (ν1 0), .e (ν1 0)] trivial fun ac wd hS => ?_
 refine hS.call0 101 #[.agg #[pt b 0, vi o_, vi z], vi i, vi 1] 12 (vw_Load b F m o_ z i 1 _ (Res.keep hr hS.mem.fr) (by first | assumption | omega | (simp_all; done) | (simp_all; omega))) fun ac wd hS => ?_
 refine hS.opsC 5 [0, 0, 0, 0, 0] [4] fun _ => seg [(6, vu (vldV m o_ z i 1)), (7, vi (vldE m o_ z i 1))] [(0, none)] [] trivial fun ac wd hS => ?_
 refine list_nil_seq ?_
 refine hS.regS [0, fx 0 (v8 (tgB m o_ z i)), 20, 0, fx 0 (v8 (tgB m o_ z i)), 20, 0, 0, 0, 0] [4] fun _ => seg [(5, vi (vldE m o_ z i 1))] [(0, some ((ν1 1), .cells [v8 ((tgB m o_ z i) % 4), v8 ((tgB m o_ z i) / 4)] 106))] [.e (ν1 1), .e (ν1 1), .p ((4 : Int) ≠ 0 ∧ IntKind.u8.wrap (Int.tdiv (tgB m o_ z i) 4) = (tgB m o_ z i) / 4), .p ((v8 (IntKind.wrap .u8 (vldV m o_ z i 1)) : Value) = v8 (tgB m o_ z i)), .p ((4 : Int) ≠ 0 ∧ Int.tmod (tgB m o_ z i) 4 = (tgB m o_ z i) % 4), .p ((v8 (IntKind.wrap .u8 (vldV m o_ z i 1)) : Value) = v8 (tgB m o_ z i))] ⟨quo2_u8 (by omega) (by omega) (by omega), (vint (rfl)), rem2 (by omega) (by omega), (vint (rfl)), trivial⟩ fun ac wd hS => ?_
 refine wp_ret ?_
 refine St.retC 0 hS (.tuple #[.agg #[v8 ((tgB m o_ z i) % 4), v8 ((tgB m o_ z i) / 4)], vi (vldE m o_ z i 1)]) [.e (ν1 1), .e (ν1 1)] trivial fun hw => ?_
 refine ⟨retd (tuple2 (agg2 (vint ?_) (vint ?_)) (vint ?_)), hw.fr0⟩
 all_goals (rfl)

set_option maxRecDepth 100000 in
set_option maxHeartbeats 1000000 in
theorem tags_Run (b : Nat) (F : Nat → Prop) (m : AM) (o_ : Int) (z : Int) (i : Int) (w : World) (hr : (arR b F m).R w) (ho : 0 ≤ o_ ∧ 0 ≤ z ∧ o_ + z ≤ 4294967296) (hi : i ≤ 4611686018427387904) :
    Calls Tryd.prog 62 #[.agg #[pt b 0, vi o_, vi z], vi i] w fun e w' => e = .returned (.tuple #[vi (runV m o_ z i), .agg #[v8 (runS m o_ z i), v8 (runO m o_ z i)], vi (runE m o_ z i)]) ∧ Fr w w' no no := by
 refine enter (args := [.agg #[pt b 0, vi o_, vi z], vi i]) (D := no) (A := []) Tryd.func62 rfl 51 rfl [] (WS.startL trivial) fun ac hS => ?_
 refine hS.regS [0, 0, 0, 0] [1] fun ν1 => seg [(2, pt (ν1 0) 0), (5, pt (ν1 1) 0)] [(0, some ((ν1 0), .cells [pt b 0, vi o_, vi z] 102)), (1, some ((ν1 1), .cells [v8 0, v8 0] 106))] [] trivial fun ac wd hS => ?_
 refine wp_region_seq ?_
 refine hS.opsC 2 [0, 0] [1, 2, 5] fun _ => seg [(11, .agg #[pt b 0, vi o_, vi z]), (12, vi i)] [(0, none), (1, none)] [.e (ν1 0), .e (ν1 0), .e (ν1 0)] trivial fun ac wd hS => ?_
 refine hS.call0 136 #[.agg #[pt b 0, vi o_, vi z], vi i] 13 (tags_Get b F m o_ z i _ (Res.keep hr hS.mem.fr) (by first | assumption | omega | (simp_all; done) | (simp_all; omega))) fun ac wd hS => ?_
 refine hS.opsC 6 [0, 0, 0, 0, 200, 0] [1, 2, 5] fun ν3 => seg [(7, pt (ν3 0) 0), (8, vi (tgE m o_ z i))] [(0, none), (1, none), (2, some ((ν3 0), .cells [v8 (tgS m o_ z i), v8 (tgO m o_ z i)] 106))] [.e (ν3 0), .e (ν3 0)] trivial fun ac wd hS => ?_
 refine list_nil_seq ?_
 refine wp_seq ?_
 refine hS.regS [0, 0] [1, 2, 5, 7, 8] fun _ => seg [(17, vb (((tgE m o_ z i) : Int) != 0))] [(0, none), (1, none), (2, none)] [] trivial fun ac wd hS => ?_
 refine hS.condC (((tgE m o_ z i) : Int) != 0) (fun hb1o hb1 => ?_) (fun hb1o hb1 => ?_)
 ·
  have hne : tgE m o_ z i ≠ 0 := hb1
  refine hS.regS [0, 0, 0, 100, 0] [5] fun _ => seg [(4, vi 0), (6, vi (tgE m o_ z i))] [(1, none)] [.e (ν1 1), .e (ν1 1)] trivial fun ac wd hS => ?_
  refine wp_ret ?_
  refine pop_then_ret ?_
  refine St.retC 0 hS (.tuple #[vi 0, .agg #[v8 0, v8 0], vi (tgE m o_ z i)]) [.e (ν1 1), .e (ν1 1)] trivial fun hw => ?_
  refine ⟨retd (tuple3 (vint ?_) (agg2 (vint ?_) (vint ?_)) (vint ?_)), hw.fr0⟩
  all_goals (first | exact (run_1 hne).1 | exact (run_1 hne).2.1 | exact (run_1 hne).2.2.1 | exact (run_1 hne).2.2.2 | exact (hR).1 | exact (hR).2.1 | exact (hR).2.2.1 | exact (hR).2.2.2)
 ·
  have hte : tgE m o_ z i = 0 := hb1
  obtain ⟨hi0, hi1⟩ := tgE_in hte
  refine wp_skip ?_
  refine pop_then ?_
  refine hS.regS [0, 0] [1, 2, 5, 7] fun _ => seg [(9, vi i)] [(0, none), (1, none), (2, none)] [] trivial fun ac wd hS => ?_
  refine wp_seq ?_
  refine wp_block ?_
  refine St.loopC (σ := Int) (fun (x9 : Int) => ⟨[(1, [], vi i), (2, [], pt (ν1 0) 0), (5, [], pt (ν1 1) 0), (7, [], pt (ν3 0) 0), (9, [], vi x9)], [((ν1 0), .cells [pt b 0, vi o_, vi z] 102), ((ν1 1), .cells [v8 0, v8 0] 106), ((ν3 0), .cells [v8 (tgS m o_ z x9), v8 (tgO m o_ z x9)] 106)], [], (0 ≤ x9 ∧ x9 ≤ i) ∧ (runAt m o_ z (Int.toNat i) = runAt m o_ z (Int.toNat x9)) ∧ True, Int.toNat x9⟩) i ⟨(by first | omega | rfl), (by first | omega | rfl), trivial⟩ hS ?_
  clear hS
  rintro x9 ⟨i0, i1, -⟩ ac wd hS
  replace i0 : 0 ≤ x9 ∧ x9 ≤ i := i0
  replace i1 : runAt m o_ z (Int.toNat i) = runAt m o_ z (Int.toNat x9) := i1
  have hto := tgO_rng m o_ z x9
  refine wp_seq ?_
  refine hS.regS [0, 0, 0, 3, 203, 3, 80] [1, 2, 5, 7, 9] fun _ => seg [(27, vb ((decide ((0 : Int) < x9)) && (((tgS m o_ z x9) : Int) == 1)))] [(0, none), (1, none), (2, none)] [.p ((((decide ((0 : Int) < x9)) = true) ∧ True) → AllP [((ν3 0) : Nat) = (ν3 0)])] ⟨(fun ⟨hc0, _⟩ => by replace hc0 := nrm hc0; exact ⟨rfl, trivial⟩), trivial⟩ fun ac wd hS => ?_
  refine hS.condC ((decide ((0 : Int) < x9)) && (((tgS m o_ z x9) : Int) == 1)) (fun hb2o hb2 => ?_) (fun hb2o hb2 => ?_)
  ·
   have hq := hb2
   refine wp_skip ?_
   refine pop_then ?_
   refine wp_block ?_
   refine hS.regS [0, 20, 0] [1, 2, 5, 7] fun _ => seg [(9, vi (x9 - 1))] [(0, none), (1, none), (2, none)] [.p (fit .i64 (x9 - 1))] ⟨fit_i64 (by omega), trivial⟩ fun ac wd hS => ?_
   refine wp_region_lit ?_
   refine hS.opsC 2 [0, 0] [1, 2, 5, 7, 9] fun _ => seg [(31, .agg #[pt b 0, vi o_, vi z]), (32, vi (x9 - 1))] [(0, none), (1, none), (2, none)] [.e (ν1 0), .e (ν1 0), .e (ν1 0)] trivial fun ac wd hS => ?_
   refine hS.call0 136 #[.agg #[pt b 0, vi o_, vi z], vi (x9 - 1)] 33 (tags_Get b F m o_ z (x9 - 1) _ (Res.keep hr hS.mem.fr) (by first | assumption | omega | (simp_all; done) | (simp_all; omega))) fun ac wd hS => ?_
   refine hS.opsC 4 [0, 0, 0, 200] [1, 2, 5, 7, 9] fun _ => seg [] [(0, none), (1, none), (2, some ((ν3 0), .cells [v8 (tgS m o_ z (x9 - 1)), v8 (tgO m o_ z (x9 - 1))] 106))] [.e (ν3 0), .e (ν3 0)] trivial fun ac wd hS => ?_
   refine list_nil ?_
   refine pop_block ?_
   exact pop_then (hS.next (x9 - 1) ⟨(by first | omega | assumption | (simp; done) | (simp; omega)), (by exact runAt_step i1 hq.1 hq.2), trivial⟩ (by dsimp only; omega))
  ·
   have hrx : runAt m o_ z (Int.toNat i) = x9 := runAt_end i1 i0.1 (fun q => by have := hb2o; simp [q.1, q.2] at this)
   refine wp_exit ?_
   refine pop_then_exit ?_
   refine pop_then_exit ?_
   refine pop_block_hit ?_
   refine pop_then ?_
   refine wp_seq ?_
   refine hS.regS [0, 200, 0, 0, 3, 3, 23, 3, 203, 13, 3, 80] [5, 7, 9] fun _ => seg [(47, vb ((decide (((tgS m o_ z x9) : Int) < 2)) || (decide (((IntKind.wrap .i64 (1 * 2 ^ (min (Int.toNat (tgO m o_ z x9)) 64))) : Int) ≤ (i - x9)))))] [(1, none), (2, none)] [.p ((((decide (((tgS m o_ z x9) : Int) < 2)) = false) ∧ True) → AllP [0 ≤ (tgO m o_ z x9)]), .p ((((decide (((tgS m o_ z x9) : Int) < 2)) = false) ∧ True) → AllP [((ν3 0) : Nat) = (ν3 0)]), .p ((((decide (((tgS m o_ z x9) : Int) < 2)) = false) ∧ True) → AllP [fit .i64 (i - x9)]), .e (ν3 0)] ⟨(fun ⟨hc0, _⟩ => by replace hc0 := nrm hc0; exact ⟨by omega, trivial⟩), (fun ⟨hc0, _⟩ => by replace hc0 := nrm hc0; exact ⟨rfl, trivial⟩), (fun ⟨hc0, _⟩ => by replace hc0 := nrm hc0; exact ⟨fit_i64 (by omega), trivial⟩), trivial⟩ fun ac wd hS => ?_
   refine hS.condC ((decide (((tgS m o_ z x9) : Int) < 2)) || (decide (((IntKind.wrap .i64 (1 * 2 ^ (min (Int.toNat (tgO m o_ z x9)) 64))) : Int) ≤ (i - x9)))) (fun hb3o hb3 => ?_) (fun hb3o hb3 => ?_)
   ·
    have hR := run_2 hte hrx hb3o
    refine hS.regS [0, 0, 0, 0] [5] fun _ => seg [(4, vi 0), (6, vi 8)] [(0, none)] [.e (ν1 1), .e (ν1 1)] trivial fun ac wd hS => ?_
    refine wp_ret ?_
    refine pop_then_ret ?_
    refine St.retC 0 hS (.tuple #[vi 0, .agg #[v8 0, v8 0], vi 8]) [.e (ν1 1), .e (ν1 1)] trivial fun hw => ?_
    refine ⟨retd (tuple3 (vint ?_) (agg2 (vint ?_) (vint ?_)) (vint ?_)), hw.fr0⟩
    all_goals (first | exact (run_1 hne).1 | exact (run_1 hne).2.1 | exact (run_1 hne).2.2.1 | exact (run_1 hne).2.2.2 | exact (hR).1 | exact (hR).2.1 | exact (hR).2.2.1 | exact (hR).2.2.2)
   ·
    have hR := run_3 hte hrx hb3o
    refine wp_skip ?_
    refine pop_then ?_
    refine St.ordBeginS [(0, 1), (1, 1), (2, 1), (3, 0), (4, 1)] [((ν3 0), .cells [v8 (tgS m o_ z x9), v8 (tgO m o_ z x9)] 106)] [1] hS fun wd hS => ?_
    have hap := hS.mem.pairs (Hf := [((ν3 0), .cells [v8 (tgS m o_ z x9), v8 (tgO m o_ z x9)] 106)]) (l := [1])
    refine St.ordF [0, 0, 0] [0, 1, 2] [5] (rest := [(3, 0), (4, 1)]) hS hap <| segF [(4, vi x9), (50, .agg #[v8 (tgS m o_ z x9), v8 (tgO m o_ z x9)])] [.e (ν3 0), .e (ν3 0)] trivial fun ac hS => ?_
    refine St.ord1 3 [0] [4, 5] [1] hS rfl fun _ => seg [] [(0, some ((ν1 1), .cells [v8 (tgS m o_ z x9), v8 (tgO m o_ z x9)] 106)), (1, none)] [.e (ν1 1), .e (ν1 1)] trivial ⟨by as_aux_lemma => kernel_rfl, fun ac wd hS => ?_⟩
    refine St.ordF [0] [4] [4, 5] (rest := []) hS hap <| segF [(6, vi 0)] [] trivial fun ac hS => ?_
    refine ord_nil ?_
    refine wp_ret ?_
    refine St.retC 0 hS (.tuple #[vi x9, .agg #[v8 (tgS m o_ z x9), v8 (tgO m o_ z x9)], vi 0]) [.e (ν1 1), .e (ν1 1)] trivial fun hw => ?_
    refine ⟨retd (tuple3 (vint ?_) (agg2 (vint ?_) (vint ?_)) (vint ?_)), hw.fr0⟩
    all_goals (first | exact (run_1 hne).1 | exact (run_1 hne).2.1 | exact (run_1 hne).2.2.1 | exact (run_1 hne).2.2.2 | exact (hR).1 | exact (hR).2.1 | exact (hR).2.2.1 | exact (hR).2.2.2)

set_option maxRecDepth 100000 in
set_option maxHeartbeats 1000000 in
theorem law06_open (n : Int) (w : World) (hn : 0 ≤ n ∧ n ≤ 4000) :
    Calls Tryd.prog 60 #[vi n] w fun e w' => ∃ (b' : Nat) (F' : Nat → Prop), e = .returned (.tuple #[pt b' 0, .agg #[pt b' 0, vi 96, vi n], vb true]) ∧ (arR b' F' (comM (AM.new 1) 0 1)).R w' ∧ Fr w w' no F' := by
 refine enter (args := [vi n]) (D := no) (A := []) Tryd.func60 rfl 27 rfl [] (WS.startL trivial) fun ac hS => ?_
 refine hS.regS [0, 0, 0] [0] fun ν1 => seg [(3, pt (ν1 0) 0)] [(0, some ((ν1 0), .cells [pnil, vi 0, vi 0] 102))] [] trivial fun ac wd hS => ?_
 refine wp_region_seq ?_
 refine hS.callC 27 #[vi 1] (ar_New 1 _  ) ?_
 rintro _ wd ⟨b'1, F2, rfl, hN, hF⟩
 refine ⟨pt b'1 0, rfl, ?_⟩
 replace hS := (hS.to (hS.mem.newA hN hF)).put (d := 9) (v := pt b'1 0) (by decide)
 clear hF
 refine hS.opsC 1 [0] [0, 3] fun _ => seg [(5, pt b'1 0)] [(0, none)] [] trivial fun ac wd hS => ?_
 refine list_nil_seq ?_
 refine wp_region_seq ?_
 refine hS.opsC 1 [0] [0, 3, 5] fun _ => seg [(10, pt b'1 0)] [(0, none)] [] trivial fun ac wd hS => ?_
 refine hS.callC 38 #[pt b'1 0, vi 0, vi 1] (ar_Commit b'1 F2 (AM.new 1) 0 1 _ (hS.mem.res 0) ) ?_
 rintro _ wd ⟨F3, rfl, hA, hF⟩
 refine ⟨vi (comE (AM.new 1) 0 1), rfl, ?_⟩
 replace hS := (hS.to (hS.mem.stepA 0 rfl hA hF)).put (d := 11) (v := vi (comE (AM.new 1) 0 1)) (by decide)
 clear hF
 refine hS.opsC 1 [0] [0, 3, 5] fun _ => seg [(6, vi (comE (AM.new 1) 0 1))] [(0, none)] [] trivial fun ac wd hS => ?_
 refine list_nil_seq ?_
 refine wp_region_seq ?_
 refine hS.opsC 2 [0, 0] [3, 5, 6] fun _ => seg [(13, pt b'1 0), (14, vi n)] [(0, none)] [] trivial fun ac wd hS => ?_
 refine hS.call0 39 #[pt b'1 0, vi 96, vi n] 15 (vw_Of b'1 F3 (comM (AM.new 1) 0 1) 96 n _ (hS.mem.res 0) (by exact page_thr1 (by omega))) fun ac wd hS => ?_
 refine hS.opsC 6 [0, 0, 0, 0, 100, 0] [3, 5, 6] fun ν6 => seg [(7, pt (ν6 0) 0), (8, vi 0)] [(0, none), (1, some ((ν6 0), .cells [pt b'1 0, vi 96, vi n] 72))] [.e (ν6 0), .e (ν6 0), .e (ν6 0)] trivial fun ac wd hS => ?_
 refine list_nil_seq ?_
 refine wp_region_seq ?_
 refine hS.opsC 2 [0, 100] [3, 6, 8] fun _ => seg [(18, pt b'1 0), (19, .agg #[pt b'1 0, vi 96, vi n])] [(0, none)] [.e (ν6 0), .e (ν6 0), .e (ν6 0)] trivial fun ac wd hS => ?_
 refine hS.call0 134 #[.agg #[pt b'1 0, vi 96, vi n]] 20 (tags_Open b'1 96 n _  ) fun ac wd hS => ?_
 refine hS.opsC 9 [0, 0, 0, 3, 3, 80, 0, 0, 0] [3] fun _ => seg [(2, pt b'1 0), (4, vb ((((comE (AM.new 1) 0 1) : Int) == 0) && true))] [(0, some ((ν1 0), .cells [pt b'1 0, vi 96, vi n] 102))] [.e (ν1 0), .e (ν1 0), .e (ν1 0)] trivial fun ac wd hS => ?_
 refine list_nil_seq ?_
 refine wp_ret ?_
 refine St.retC 0 hS (.tuple #[pt b'1 0, .agg #[pt b'1 0, vi 96, vi n], vb ((((comE (AM.new 1) 0 1) : Int) == 0) && true)]) [.e (ν1 0), .e (ν1 0), .e (ν1 0)] trivial fun hw => ?_
 refine ⟨b'1, F3, retd (tuple3 rfl rfl (vbool ?_)), (hw.res 0), hw.frA⟩
 all_goals (first | rfl | decide +kernel)

set_option maxRecDepth 100000 in
set_option maxHeartbeats 1000000 in
theorem law06_awake (w : World) (hh0 : HE.holds w 0 (.fn 0 64 dbT)) :
    Calls Tryd.prog 59 #[] w fun e w' => e = .returned (vb true) ∧ Fr w w' no no := by
 refine enter (args := []) (D := no) (A := []) Tryd.func59 rfl 42 rfl [(0, .fn 0 64 dbT)] (WS.startL ⟨⟨rfl, hh0⟩, trivial⟩) fun ac hS => ?_
 refine hS.regS [0] [] fun _ => seg [] [(0, none)] [] trivial fun ac wd hS => ?_
 refine wp_region_seq ?_
 refine hS.callC 60 #[vi 8] (law06_open 8 _  (by decide)) ?_
 rintro _ wd ⟨b'1, F2, rfl, hN, hF⟩
 refine ⟨.tuple #[pt b'1 0, .agg #[pt b'1 0, vi 96, vi 8], vb true], rfl, ?_⟩
 replace hS := (hS.to (hS.mem.newA hN hF)).put (d := 9) (v := .tuple #[pt b'1 0, .agg #[pt b'1 0, vi 96, vi 8], vb true]) (by decide)
 clear hF
 refine hS.opsC 8 [0, 0, 0, 0, 0, 0, 100, 0] [] fun ν2 => seg [(2, pt (ν2 0) 0), (3, vb true)] [(0, none), (1, some ((ν2 0), .cells [pt b'1 0, vi 96, vi 8] 102))] [.e (ν2 0), .e (ν2 0), .e (ν2 0)] trivial fun ac wd hS => ?_
 refine list_nil_seq ?_
 refine wp_region_seq ?_
 refine hS.opsC 1 [100] [2, 3] fun _ => seg [(13, .agg #[pt b'1 0, vi 96, vi 8])] [(0, none), (1, none)] [.e (ν2 0), .e (ν2 0), .e (ν2 0)] trivial fun ac wd hS => ?_
 refine hS.callC 61 #[.agg #[pt b'1 0, vi 96, vi 8], vi 2, vi 1, v8 3] (tags_Lay1 b'1 F2 (comM (AM.new 1) 0 1) 96 8 2 _ (hS.mem.res 0) (by decide)) ?_
 rintro _ wd ⟨F3, rfl, hA, hF⟩
 refine ⟨vi (vptE (comM (AM.new 1) 0 1) 96 8 2 ((bs (fun _ => u8 7) 1) ++ (bs (fun _ => u8 1) 1))), rfl, ?_⟩
 replace hS := (hS.to (hS.mem.stepA 0 rfl hA hF)).put (d := 14) (v := vi (vptE (comM (AM.new 1) 0 1) 96 8 2 ((bs (fun _ => u8 7) 1) ++ (bs (fun _ => u8 1) 1)))) (by decide)
 clear hF
 refine hS.opsC 1 [0] [2, 3] fun _ => seg [(4, vi (vptE (comM (AM.new 1) 0 1) 96 8 2 ((bs (fun _ => u8 7) 1) ++ (bs (fun _ => u8 1) 1))))] [(0, none), (1, none)] [] trivial fun ac wd hS => ?_
 refine list_nil_seq ?_
 refine wp_region_seq ?_
 refine hS.opsC 1 [100] [3, 4] fun _ => seg [(16, .agg #[pt b'1 0, vi 96, vi 8])] [(0, none)] [.e (ν2 0), .e (ν2 0), .e (ν2 0)] trivial fun ac wd hS => ?_
 refine hS.call0 62 #[.agg #[pt b'1 0, vi 96, vi 8], vi 3] 17 (tags_Run b'1 F3 (vptM (comM (AM.new 1) 0 1) 96 8 2 ((bs (fun _ => u8 7) 1) ++ (bs (fun _ => u8 1) 1))) 96 8 3 _ (hS.mem.res 0) (by decide) (by decide)) fun ac wd hS => ?_
 replace hS := hS.fix 17 (.tuple #[vi 2, .agg #[v8 3, v8 1], vi 0]) (show (.tuple #[vi (runV (vptM (comM (AM.new 1) 0 1) 96 8 2 ((bs (fun _ => u8 7) 1) ++ (bs (fun _ => u8 1) 1))) 96 8 3), .agg #[v8 (runS (vptM (comM (AM.new 1) 0 1) 96 8 2 ((bs (fun _ => u8 7) 1) ++ (bs (fun _ => u8 1) 1))) 96 8 3), v8 (runO (vptM (comM (AM.new 1) 0 1) 96 8 2 ((bs (fun _ => u8 7) 1) ++ (bs (fun _ => u8 1) 1))) 96 8 3)], vi (runE (vptM (comM (AM.new 1) 0 1) 96 8 2 ((bs (fun _ => u8 7) 1) ++ (bs (fun _ => u8 1) 1))) 96 8 3)] : Value) = .tuple #[vi 2, .agg #[v8 3, v8 1], vi 0] from (tuple3 (vint (by decide +kernel)) (agg2 (vint (by decide +kernel)) (vint (by decide +kernel))) (vint (by decide +kernel))))
 refine hS.opsC 8 [0, 0, 0, 0, 0, 0, 100, 0] [3, 4] fun ν6 => seg [(5, vi 2), (6, pt (ν6 0) 0), (7, vi 0)] [(0, none), (1, some ((ν6 0), .cells [v8 3, v8 1] 106))] [.e (ν6 0), .e (ν6 0)] trivial fun ac wd hS => ?_
 refine list_nil_seq ?_
 refine wp_region_seq ?_
 refine hS.call0 128 #[] 21 (law04_Awake  _ (hS.mem.get 0 0 (.fn 0 64 dbT)) ) fun ac wd hS => ?_
 refine hS.opsC 21 [0, 1, 70, 0, 1, 1, 70, 0, 3, 3, 80, 0, 3, 3, 80, 0, 103, 3, 3, 80, 0] [] fun _ => seg [(0, vb ((((((vptE (comM (AM.new 1) 0 1) 96 8 2 ((bs (fun _ => u8 7) 1) ++ (bs (fun _ => u8 1) 1))) : Int) == 0) && true) && true) && true))] [(0, none)] [.p ((((((((vptE (comM (AM.new 1) 0 1) 96 8 2 ((bs (fun _ => u8 7) 1) ++ (bs (fun _ => u8 1) 1))) : Int) == 0) && true) && true) = true) ∧ True) → AllP [((ν6 0) : Nat) = (ν6 0), ((ν6 0) : Nat) = (ν6 0)]), .t true, .t true, .t true, .t true, .t true] ⟨(fun ⟨hc0, _⟩ => by replace hc0 := nrm hc0; exact ⟨rfl, rfl, trivial⟩), trivial⟩ fun ac wd hS => ?_
 refine list_nil_seq ?_
 refine wp_ret ?_
 refine St.retC 0 hS (vb ((((((vptE (comM (AM.new 1) 0 1) 96 8 2 ((bs (fun _ => u8 7) 1) ++ (bs (fun _ => u8 1) 1))) : Int) == 0) && true) && true) && true)) [] trivial fun hw => ?_
 refine ⟨retd (vbool ?_), hw.fr0⟩
 all_goals (first | rfl | decide +kernel)

end Go.Proofs.YthgkiieenojcpaaDoor.K
