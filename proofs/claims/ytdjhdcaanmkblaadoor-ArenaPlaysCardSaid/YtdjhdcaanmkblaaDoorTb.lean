/-
  Walks, printed by w2.py.
-/
import Derived.Test.YtdjhdcaanmkblaaDoorGg
import Derived.Test.YtdjhdcaanmkblaaDoorHg
import Derived.Test.YtdjhdcaanmkblaaDoorTa
import Derived.Test.YtdjhdcaanmkblaaDoorQz
import Derived.Test.YtdjhdcaanmkblaaDoorProg
namespace Go.Proofs.YtdjhdcaanmkblaaDoor.K
set_option linter.unusedVariables false
set_option linter.unusedSimpArgs false

set_option maxRecDepth 100000 in
set_option maxHeartbeats 1000000 in
theorem ref03_New_row (c : Int) (w : World) :
    Calls Tryd.prog 10 #[vi c] w fun e w' => ∃ (g2 : Nat), e = .returned (.agg #[sc g2 0 (capN c) (capN c), vi (-1)]) ∧ w.heap.size ≤ g2 ∧ HE.holds w' g2 (.row 9 (capN c) (capN c) (strs (fun _ => ⟨#[]⟩) 0)) ∧ Fr w w' no no := by
 have hcap := capN_le c
 refine enter (args := [vi c]) (D := no) (A := []) Tryd.func10 rfl 8 rfl [] (WS.startL trivial) fun ac hS => ?_
 refine hS.regS [0] [0] fun ν1 => seg [(2, pt (ν1 0) 0)] [(0, some ((ν1 0), .cells [vnil, vi 0] 30))] [] trivial fun ac wd hS => ?_
 refine hS.regS [0, 0, fx 0 (vi ((capN c : Nat) : Int)), 90, 0, 0] [2] fun ν2 => seg [] [(0, some ((ν1 0), .cells [sc (ν2 0) 0 (capN c) (capN c), vi (-1)] 30)), (1, some ((ν2 0), .row 9 (capN c) (capN c) (strs (fun _ => ⟨#[]⟩) 0)))] [.e (ν1 0), .e (ν1 0), .p ((((capN c : Nat) : Int) : Int) = ((capN c : Nat) : Int)), .p ((0 : Int) ≤ ((capN c : Nat) : Int) ∧ (((capN c : Nat) : Int) : Int) ≤ 2 ^ 32 ∧ 16 ≤ 64), .p ((vi (imin (imax c 0) 1048576) : Value) = vi ((capN c : Nat) : Int))] ⟨rfl, (by omega), (vint (capN_eq2 c)), trivial⟩ fun ac wd hS => ?_
 refine wp_ret ?_
 refine St.retC 0 hS (.agg #[sc (ν2 0) 0 (capN c) (capN c), vi (-1)]) [.e (ν1 0), .e (ν1 0)] trivial fun hw => ?_
 refine ⟨(ν2 0), retd rfl, ((hw.getm 1 (ν2 0) (.row 9 (capN c) (capN c) (strs (fun _ => ⟨#[]⟩) 0))).resolve_right (fun h => h)), (hw.get 1 (ν2 0) (.row 9 (capN c) (capN c) (strs (fun _ => ⟨#[]⟩) 0))), hw.fr0⟩

theorem ref03_New_r (c : Int) (n : Nat) (w : World) (hcn : capN c = n) :
    Calls Tryd.prog 10 #[vi c] w fun e w' => ∃ (g2 : Nat), e = .returned (.agg #[sc g2 0 n n, vi (-1)]) ∧ w.heap.size ≤ g2 ∧ HE.holds w' g2 (.row 9 n n (strs (fun _ => ⟨#[]⟩) 0)) ∧ Fr w w' no no := by
 subst hcn
 exact ref03_New_row c w

set_option maxRecDepth 100000 in
set_option maxHeartbeats 1000000 in
theorem l03_Of (b : Nat) (F : Nat → Prop) (m : AM) (w : World) (hr : (arR b F m).R w) :
    Calls Tryd.prog 15 #[pt b 0] w fun e w' => ∃ (g2 : Nat), e = .returned (.agg #[sc g2 0 m.cap m.cap, vi (-1)]) ∧ w.heap.size ≤ g2 ∧ HE.holds w' g2 (.fn 0 (0 + m.cap) (strs (pgS m) 0)) ∧ Fr w w' no no := by
 have hcl : m.cap ≤ 1048576 := by obtain ⟨d, hd⟩ := hr; exact hd.capLe
 refine enter (args := [pt b 0]) (D := no) (A := []) Tryd.func15 rfl 30 rfl [] (WS.startL trivial) fun ac hS => ?_
 refine hS.regS [0] [0] fun ν1 => seg [(2, pt (ν1 0) 0)] [(0, some ((ν1 0), .cells [vnil, vi 0] 30))] [] trivial fun ac wd hS => ?_
 refine wp_region_seq ?_
 refine hS.opsC 1 [0] [0, 2] fun _ => seg [(5, pt b 0)] [(0, none)] [] trivial fun ac wd hS => ?_
 refine hS.call0 19 #[pt b 0] 6 (ar_Cap b F m _ (Res.keep hr hS.mem.fr) ) fun ac wd hS => ?_
 refine hS.callC 10 #[vi ((m.cap : Nat) : Int)] (ref03_New_r ((m.cap : Nat) : Int) m.cap _  (by exact capN_of hcl)) ?_
 rintro _ wd ⟨g21, rfl, hog0, hoh0, hF⟩
 have ho2 : w.heap.size ≤ g21 := Nat.le_trans hS.mem.fr.size hog0
 refine ⟨.agg #[sc g21 0 m.cap m.cap, vi (-1)], rfl, ?_⟩
 replace hS := (hS.to (hS.mem.outR hF hog0 hoh0)).put (d := 7) (v := .agg #[sc g21 0 m.cap m.cap, vi (-1)]) (by decide)
 clear hF
 refine hS.opsC 2 [0, 200] [0, 2] fun ν3 => seg [(3, pt (ν3 0) 0)] [(0, none), (1, none), (2, some ((ν3 0), .cells [sc g21 0 m.cap m.cap, vi (-1)] 30))] [.e (ν3 0), .e (ν3 0)] trivial fun ac wd hS => ?_
 refine list_nil_seq ?_
 refine wp_seq ?_
 refine hS.regS [0, 200, 0, 0] [0, 2, 3] fun _ => seg [(10, vi ((m.cap : Nat) : Int)), (11, vi 0)] [(0, none), (1, none), (2, none)] [.e (ν3 0)] trivial fun ac wd hS => ?_
 refine wp_block ?_
 replace hS := hS.to (hS.mem.tellR 1 (b := g21) (e := 9) (m := m.cap) (tot := m.cap) (f := (strs (fun _ => ⟨#[]⟩) 0)) (strs (pgU m 0) 0) (fun o ho => by rw [← pgU_zero]))
 refine St.loopC (σ := Int) (fun (x11 : Int) => ⟨[(0, [], pt b 0), (2, [], pt (ν1 0) 0), (3, [], pt (ν3 0) 0), (10, [], vi ((m.cap : Nat) : Int)), (11, [], vi x11)], [((ν1 0), .cells [vnil, vi 0] 30), (g21, .row 9 m.cap m.cap (strs (pgU m (Int.toNat x11)) 0)), ((ν3 0), .cells [sc g21 0 m.cap m.cap, vi (-1)] 30)], [], (0 ≤ x11 ∧ x11 ≤ (m.cap : Int)) ∧ True, m.cap - Int.toNat x11⟩) 0 ⟨(by omega), trivial⟩ hS ?_
 clear hS
 rintro x11 ⟨i0, -⟩ ac wd hS
 replace i0 : 0 ≤ x11 ∧ x11 ≤ (m.cap : Int) := i0
 refine hS.regS [0] [0, 2, 3, 10, 11] fun _ => seg [(12, vb (decide ((x11 : Int) < ((m.cap : Nat) : Int))))] [(0, none), (1, none), (2, none)] [] trivial fun ac wd hS => ?_
 refine wp_seq ?_
 refine hS.condC (decide ((x11 : Int) < ((m.cap : Nat) : Int))) (fun hb3o hb3 => ?_) (fun hb3o hb3 => ?_)
 ·
  refine wp_skip ?_
  refine pop_then ?_
  refine wp_seq ?_
  refine wp_block ?_
  refine hS.regS [0, 0] [0, 2, 3, 10, 11] fun _ => seg [(4, vi x11)] [(0, none), (1, none), (2, none)] [] trivial fun ac wd hS => ?_
  refine wp_region_seq ?_
  refine hS.opsC 2 [0, 0] [0, 2, 3, 4, 10, 11] fun _ => seg [(14, pt b 0), (15, vi x11)] [(0, none), (1, none), (2, none)] [] trivial fun ac wd hS => ?_
  refine hS.call0 18 #[pt b 0, vi x11] 16 (ar_Has b F m x11 _ (Res.keep hr hS.mem.fr) ) fun ac wd hS => ?_
  refine list_nil_seq ?_
  refine hS.condC (hasV m.com m.cap x11) (fun hb4o hb4 => ?_) (fun hb4o hb4 => ?_)
  ·
   have hn : m.com (Int.toNat x11) = true := by rw [← hasV_in (p := m.com) (n := m.cap) i0.1 (by omega)]; exact hb4o
   refine St.ordBegin [(0, 1), (1, 1), (2, 1), (3, 1), (4, 1), (5, 1), (6, 0), (7, 1), (8, 1), (9, 1), (10, 1), (11, 0)] [((ν1 0), .cells [vnil, vi 0] 30), ((ν3 0), .cells [sc g21 0 m.cap m.cap, vi (-1)] 30)] [0, 2] hS fun wd hS => ?_
   have hap := hS.mem.pairs (Hf := [((ν1 0), .cells [vnil, vi 0] 30), ((ν3 0), .cells [sc g21 0 m.cap m.cap, vi (-1)] 30)]) (l := [0, 2])
   refine St.ordF [0, 100, 0, 0, 0, 20] [0, 1, 2, 3, 4, 5] [0, 2, 3, 10, 11] (rest := [(6, 0), (7, 1), (8, 1), (9, 1), (10, 1), (11, 0)]) hS hap <| segF [(19, sc g21 0 m.cap m.cap), (20, vi x11), (21, pt b 0), (23, vi (x11 * 4096))] [.p (fit .i64 (x11 * 4096)), .e (ν3 0)] ⟨fit_i64 (by omega), trivial⟩ fun ac hS => ?_
   refine hS.ordC 6 47 #[pt b 0, vi (x11 * 4096), vi 4096] (ar_Bytes b F m (x11 * 4096) 4096 _ (Res.keep hr hS.mem.fr) ) ?_
   rintro _ wd ⟨rfl, hF⟩
   refine ⟨.tuple #[.string (bytS m (x11 * 4096) 4096), vi (chkE m (x11 * 4096) 4096)], rfl, ?_⟩
   replace hS := (hS.to (hS.mem.keep0 hF)).put (d := 24) (v := .tuple #[.string (bytS m (x11 * 4096) 4096), vi (chkE m (x11 * 4096) 4096)]) (by decide)
   clear hF
   refine hS.ordV (l := [0, 2]) ?_
   refine St.ordF [0, 0, 0, 10] [7, 8, 9, 10] [0, 2, 3, 10, 11] (rest := [(11, 0)]) hS hap <| segF [(25, .string (bytS m (x11 * 4096) 4096)), (27, pt g21 (Int.toNat x11))] [.p ((0 : Int) ≤ x11 ∧ (x11 : Int) < ((m.cap : Nat) : Int))] ⟨(by omega), trivial⟩ fun ac hS => ?_
   refine St.ord1 11 [100] [0, 2, 3, 10, 11] [0, 2] hS rfl fun _ => seg [] [(0, none), (1, some (g21, .row 9 m.cap m.cap (fun x => if x = Int.toNat x11 then .string (bytS m (x11 * 4096) 4096) else (strs (pgU m (Int.toNat x11)) 0) x))), (2, none)] [.e g21, .p (Int.toNat x11 < m.cap)] ⟨(by omega), trivial⟩ ⟨by as_aux_lemma => kernel_rfl, fun ac wd hS => ?_⟩
   refine ord_nil ?_
   refine pop_block ?_
   refine pop_then ?_
   refine hS.regC [20, 0] [0, 2, 3, 10] fun _ => seg [(11, vi (x11 + 1))] [(0, none), (1, none), (2, none)] [.p (fit .i64 (x11 + 1))] ⟨fit_i64 (by omega), trivial⟩ fun ac wd hS => ?_
   replace hS := hS.to (hS.mem.tellR 1 (b := g21) (e := 9) (m := m.cap) (tot := m.cap) (f := (fun x => if x = Int.toNat x11 then .string (bytS m (x11 * 4096) 4096) else (strs (pgU m (Int.toNat x11)) 0) x)) (strs (pgU m (Int.toNat (x11 + 1))) 0) (fun o ho => by first | exact (pgU_yes i0.1 (by omega) hn o).trans (strs_putv _ _ _ o) | exact pgU_no i0.1 hn o))
   exact pop_then (hS.next (x11 + 1) ⟨(by first | omega | assumption | (simp; done) | (simp; omega)), trivial⟩ (by dsimp only; omega))
  ·
   have hn : m.com (Int.toNat x11) = false := by rw [← hasV_in (p := m.com) (n := m.cap) i0.1 (by omega)]; exact hb4o
   refine wp_skip ?_
   refine pop_block ?_
   refine pop_then ?_
   refine hS.regC [20, 0] [0, 2, 3, 10] fun _ => seg [(11, vi (x11 + 1))] [(0, none), (1, none), (2, none)] [.p (fit .i64 (x11 + 1))] ⟨fit_i64 (by omega), trivial⟩ fun ac wd hS => ?_
   replace hS := hS.to (hS.mem.tellR 1 (b := g21) (e := 9) (m := m.cap) (tot := m.cap) (f := (strs (pgU m (Int.toNat x11)) 0)) (strs (pgU m (Int.toNat (x11 + 1))) 0) (fun o ho => by first | exact (pgU_yes i0.1 (by omega) hn o).trans (strs_putv _ _ _ o) | exact pgU_no i0.1 hn o))
   exact pop_then (hS.next (x11 + 1) ⟨(by first | omega | assumption | (simp; done) | (simp; omega)), trivial⟩ (by dsimp only; omega))
 ·
  refine wp_exit ?_
  refine pop_then_exit ?_
  refine pop_then_exit ?_
  refine pop_block_hit ?_
  refine pop_then ?_
  refine hS.regS [200, 0] [2] fun _ => seg [] [(0, some ((ν1 0), .cells [sc g21 0 m.cap m.cap, vi (-1)] 30)), (1, none)] [.e (ν1 0), .e (ν1 0), .e (ν3 0), .e (ν3 0)] trivial fun ac wd hS => ?_
  refine wp_ret ?_
  refine St.retC 0 hS (.agg #[sc g21 0 m.cap m.cap, vi (-1)]) [.e (ν1 0), .e (ν1 0)] trivial fun hw => ?_
  refine ⟨g21, retd rfl, ((hw.getm 1 g21 (.row 9 m.cap m.cap (strs (pgU m (Int.toNat x11)) 0))).resolve_right (fun h => h)), (HE.fn_hi (by omega) (HE.of_row (hw.get 1 g21 (.row 9 m.cap m.cap (strs (pgU m (Int.toNat x11)) 0))) (fun o ho => pgU_all m (n := m.cap) (by omega) o ho))), hw.fr0⟩

end Go.Proofs.YtdjhdcaanmkblaaDoor.K
