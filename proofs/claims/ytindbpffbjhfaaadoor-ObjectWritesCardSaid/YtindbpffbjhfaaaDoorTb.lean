/-
  Walks, printed by w2.py.
-/
import Derived.Test.YtindbpffbjhfaaaDoorGg
import Derived.Test.YtindbpffbjhfaaaDoorHg
import Derived.Test.YtindbpffbjhfaaaDoorTa
import Derived.Test.YtindbpffbjhfaaaDoorQz
import Derived.Test.YtindbpffbjhfaaaDoorProg
namespace Go.Proofs.YtindbpffbjhfaaaDoor.K
set_option linter.unusedVariables false
set_option linter.unusedSimpArgs false

set_option maxRecDepth 100000 in
set_option maxHeartbeats 1000000 in
theorem ref03_New_row (c : Int) (w : World) :
    Calls Tryd.prog 122 #[vi c] w fun e w' => ∃ (g2 : Nat), e = .returned (.agg #[sc g2 0 (capN c) (capN c), vi (-1)]) ∧ w.heap.size ≤ g2 ∧ HE.holds w' g2 (.row 9 (capN c) (capN c) (strs (fun _ => ⟨#[]⟩) 0)) ∧ Fr w w' no no := by
 have hcap := capN_le c
 refine enter (args := [vi c]) (D := no) (A := []) Tryd.func122 rfl 8 rfl [] (WS.startL trivial) fun ac hS => ?_
 refine hS.regS [0] [0] fun ν1 => seg [(2, pt (ν1 0) 0)] [(0, some ((ν1 0), .cells [vnil, vi 0] 66))] [] trivial fun ac wd hS => ?_
 refine hS.regS [0, 0, fx 0 (vi ((capN c : Nat) : Int)), 90, 0, 0] [2] fun ν2 => seg [] [(0, some ((ν1 0), .cells [sc (ν2 0) 0 (capN c) (capN c), vi (-1)] 66)), (1, some ((ν2 0), .row 9 (capN c) (capN c) (strs (fun _ => ⟨#[]⟩) 0)))] [.e (ν1 0), .e (ν1 0), .p ((((capN c : Nat) : Int) : Int) = ((capN c : Nat) : Int)), .p ((0 : Int) ≤ ((capN c : Nat) : Int) ∧ (((capN c : Nat) : Int) : Int) ≤ 2 ^ 32 ∧ 16 ≤ 64), .p ((vi (imin (imax c 0) 1048576) : Value) = vi ((capN c : Nat) : Int))] ⟨rfl, (by omega), (vint (capN_eq2 c)), trivial⟩ fun ac wd hS => ?_
 refine wp_ret ?_
 refine St.retC 0 hS (.agg #[sc (ν2 0) 0 (capN c) (capN c), vi (-1)]) [.e (ν1 0), .e (ν1 0)] trivial fun hw => ?_
 refine ⟨(ν2 0), retd rfl, ((hw.getm 1 (ν2 0) (.row 9 (capN c) (capN c) (strs (fun _ => ⟨#[]⟩) 0))).resolve_right (fun h => h)), (hw.get 1 (ν2 0) (.row 9 (capN c) (capN c) (strs (fun _ => ⟨#[]⟩) 0))), hw.fr0⟩

theorem ref03_New_r (c : Int) (n : Nat) (w : World) (hcn : capN c = n) :
    Calls Tryd.prog 122 #[vi c] w fun e w' => ∃ (g2 : Nat), e = .returned (.agg #[sc g2 0 n n, vi (-1)]) ∧ w.heap.size ≤ g2 ∧ HE.holds w' g2 (.row 9 n n (strs (fun _ => ⟨#[]⟩) 0)) ∧ Fr w w' no no := by
 subst hcn
 exact ref03_New_row c w

set_option maxRecDepth 100000 in
set_option maxHeartbeats 1000000 in
theorem l03_Of (b : Nat) (F : Nat → Prop) (m : AM) (w : World) (hr : (arR b F m).R w) :
    Calls Tryd.prog 37 #[pt b 0] w fun e w' => ∃ (g2 : Nat), e = .returned (.agg #[sc g2 0 m.cap m.cap, vi (-1)]) ∧ w.heap.size ≤ g2 ∧ HE.holds w' g2 (.fn 0 (0 + m.cap) (strs (pgS m) 0)) ∧ Fr w w' no no := by
 have hcl : m.cap ≤ 1048576 := by obtain ⟨d, hd⟩ := hr; exact hd.capLe
 refine enter (args := [pt b 0]) (D := no) (A := []) Tryd.func37 rfl 30 rfl [] (WS.startL trivial) fun ac hS => ?_
 refine hS.regS [0] [0] fun ν1 => seg [(2, pt (ν1 0) 0)] [(0, some ((ν1 0), .cells [vnil, vi 0] 66))] [] trivial fun ac wd hS => ?_
 refine wp_region_seq ?_
 refine hS.opsC 1 [0] [0, 2] fun _ => seg [(5, pt b 0)] [(0, none)] [] trivial fun ac wd hS => ?_
 refine hS.call0 123 #[pt b 0] 6 (ar_Cap b F m _ (Res.keep hr hS.mem.fr) ) fun ac wd hS => ?_
 refine hS.callC 122 #[vi ((m.cap : Nat) : Int)] (ref03_New_r ((m.cap : Nat) : Int) m.cap _  (by exact capN_of hcl)) ?_
 rintro _ wd ⟨g21, rfl, hog0, hoh0, hF⟩
 have ho2 : w.heap.size ≤ g21 := Nat.le_trans hS.mem.fr.size hog0
 refine ⟨.agg #[sc g21 0 m.cap m.cap, vi (-1)], rfl, ?_⟩
 replace hS := (hS.to (hS.mem.outR hF hog0 hoh0)).put (d := 7) (v := .agg #[sc g21 0 m.cap m.cap, vi (-1)]) (by decide)
 clear hF
 refine hS.opsC 2 [0, 200] [0, 2] fun ν3 => seg [(3, pt (ν3 0) 0)] [(0, none), (1, none), (2, some ((ν3 0), .cells [sc g21 0 m.cap m.cap, vi (-1)] 66))] [.e (ν3 0), .e (ν3 0)] trivial fun ac wd hS => ?_
 refine list_nil_seq ?_
 refine wp_seq ?_
 refine hS.regS [0, 200, 0, 0] [0, 2, 3] fun _ => seg [(10, vi ((m.cap : Nat) : Int)), (11, vi 0)] [(0, none), (1, none), (2, none)] [.e (ν3 0)] trivial fun ac wd hS => ?_
 refine wp_block ?_
 replace hS := hS.to (hS.mem.tellR 1 (b := g21) (e := 9) (m := m.cap) (tot := m.cap) (f := (strs (fun _ => ⟨#[]⟩) 0)) (strs (pgU m 0) 0) (fun o ho => by rw [← pgU_zero]))
 refine St.loopC (σ := Int) (fun (x11 : Int) => ⟨[(0, [], pt b 0), (2, [], pt (ν1 0) 0), (3, [], pt (ν3 0) 0), (10, [], vi ((m.cap : Nat) : Int)), (11, [], vi x11)], [((ν1 0), .cells [vnil, vi 0] 66), (g21, .row 9 m.cap m.cap (strs (pgU m (Int.toNat x11)) 0)), ((ν3 0), .cells [sc g21 0 m.cap m.cap, vi (-1)] 66)], [], (0 ≤ x11 ∧ x11 ≤ (m.cap : Int)) ∧ True, m.cap - Int.toNat x11⟩) 0 ⟨(by omega), trivial⟩ hS ?_
 clear hS
 rintro x11 ⟨i0, -⟩ ac wd hS
 replace i0 : 0 ≤ x11 ∧ x11 ≤ (m.cap : Int) := i0
 refine hS.regS [0] [0, 2, 3, 10, 11] fun _ => seg [(12, vb (decide ((x11 : Int) < ((m.cap : Nat) : Int))))] [(0, none), (1, none), (2, none)] [] trivial fun ac wd hS => ?_
 refine wp_seq ?_
 refine hS.condC (decide ((x11 : Int) < ((m.cap : Nat) : Int))) (fun hb3o hb3 => ?_) (fun hb3o hb3 => ?_)
 ·
  refine wp_skip ?_
  refine pop_then ?_
  refine wp_seq ?_
  refine wp_block ?_
  refine hS.regS [0, 0] [0, 2, 3, 10, 11] fun _ => seg [(4, vi x11)] [(0, none), (1, none), (2, none)] [] trivial fun ac wd hS => ?_
  refine wp_region_seq ?_
  refine hS.opsC 2 [0, 0] [0, 2, 3, 4, 10, 11] fun _ => seg [(14, pt b 0), (15, vi x11)] [(0, none), (1, none), (2, none)] [] trivial fun ac wd hS => ?_
  refine hS.call0 124 #[pt b 0, vi x11] 16 (ar_Has b F m x11 _ (Res.keep hr hS.mem.fr) ) fun ac wd hS => ?_
  refine list_nil_seq ?_
  refine hS.condC (hasV m.com m.cap x11) (fun hb4o hb4 => ?_) (fun hb4o hb4 => ?_)
  ·
   have hn : m.com (Int.toNat x11) = true := by rw [← hasV_in (p := m.com) (n := m.cap) i0.1 (by omega)]; exact hb4o
   refine St.ordBegin [(0, 1), (1, 1), (2, 1), (3, 1), (4, 1), (5, 1), (6, 0), (7, 1), (8, 1), (9, 1), (10, 1), (11, 0)] [((ν1 0), .cells [vnil, vi 0] 66), ((ν3 0), .cells [sc g21 0 m.cap m.cap, vi (-1)] 66)] [0, 2] hS fun wd hS => ?_
   have hap := hS.mem.pairs (Hf := [((ν1 0), .cells [vnil, vi 0] 66), ((ν3 0), .cells [sc g21 0 m.cap m.cap, vi (-1)] 66)]) (l := [0, 2])
   refine St.ordF [0, 100, 0, 0, 0, 20] [0, 1, 2, 3, 4, 5] [0, 2, 3, 10, 11] (rest := [(6, 0), (7, 1), (8, 1), (9, 1), (10, 1), (11, 0)]) hS hap <| segF [(19, sc g21 0 m.cap m.cap), (20, vi x11), (21, pt b 0), (23, vi (x11 * 4096))] [.p (fit .i64 (x11 * 4096)), .e (ν3 0)] ⟨fit_i64 (by omega), trivial⟩ fun ac hS => ?_
   refine hS.ordC 6 35 #[pt b 0, vi (x11 * 4096), vi 4096] (ar_Bytes b F m (x11 * 4096) 4096 _ (Res.keep hr hS.mem.fr) ) ?_
   rintro _ wd ⟨rfl, hF⟩
   refine ⟨.tuple #[.string (bytS m (x11 * 4096) 4096), vi (chkE m (x11 * 4096) 4096)], rfl, ?_⟩
   replace hS := (hS.to (hS.mem.keep0 hF)).put (d := 24) (v := .tuple #[.string (bytS m (x11 * 4096) 4096), vi (chkE m (x11 * 4096) 4096)]) (by decide)
   clear hF
   refine hS.ordV (l := [0, 2]) ?_
   refine St.ordF [0, 0, 0, 10] [7, 8, 9, 10] [0, 2, 3, 10, 11] (rest := [(11, 0)]) hS hap <| segF [(25, .string (bytS m (x11 * 4096) 4096)), (27, pt g21 (Int.toNat x11))] [.p ((0 : Int) ≤ x11 ∧ (x11 : Int) < ((m.cap : Nat) : Int))] ⟨(by omega), trivial⟩ fun ac hS => ?_
   refine St.ord1 11 [100] [0, 2, 3, 10, 11] [0, 2] hS rfl fun _ => seg [] [(0, none), (1, some (g21, .row 9 m.cap m.cap (fun x => if x = Int.toNat x11 then .string (bytS m (x11 * 4096) 4096) else (strs (pgU m (Int.toNat x11)) 0) x))), (2, none)] [.e g21, .p (Int.toNat x11 < m.cap)] ⟨(by omega), trivial⟩ ⟨by as_aux_lemma => kernel_rfl, fun ac wd hS => ?_⟩
   refine ord_nil ?_
   refine pop_block ?_
   refine pop_then ?_
   refine hS.regC [20, 0] [0, 2, 3, 10] fun _ => seg [(11, vi (x11 + 1))] [(0, none), (1, none), (2, none)] [.p (fit .i64 (x11 + 1))] ⟨fit_i64 (by omega), trivial⟩ fun ac wd hS => ?_
   replace hS := hS.to (hS.mem.tellR 1 (b := g21) (e := 9) (m := m.cap) (tot := m.cap) (f := (fun x => if x = Int.toNat x11 then .string (bytS m (x11 * 4096) 4096) else (strs (pgU m (Int.toNat x11)) 0) x)) (strs (pgU m (Int.toNat (x11 + 1))) 0) (fun o ho => by first | exact (pgU_yes i0.1 (by omega) hn o).trans (strs_putv _ _ _ o) | exact pgU_no i0.1 hn o))
   exact pop_then (hS.next (x11 + 1) ⟨(by first | omega | assumption | (simp; done) | (simp; omega)), trivial⟩ (by dsimp only; omega))
  ·
   have hn : m.com (Int.toNat x11) = false := by rw [← hasV_in (p := m.com) (n := m.cap) i0.1 (by omega)]; exact hb4o
   refine wp_skip ?_
   refine pop_block ?_
   refine pop_then ?_
   refine hS.regC [20, 0] [0, 2, 3, 10] fun _ => seg [(11, vi (x11 + 1))] [(0, none), (1, none), (2, none)] [.p (fit .i64 (x11 + 1))] ⟨fit_i64 (by omega), trivial⟩ fun ac wd hS => ?_
   replace hS := hS.to (hS.mem.tellR 1 (b := g21) (e := 9) (m := m.cap) (tot := m.cap) (f := (strs (pgU m (Int.toNat x11)) 0)) (strs (pgU m (Int.toNat (x11 + 1))) 0) (fun o ho => by first | exact (pgU_yes i0.1 (by omega) hn o).trans (strs_putv _ _ _ o) | exact pgU_no i0.1 hn o))
   exact pop_then (hS.next (x11 + 1) ⟨(by first | omega | assumption | (simp; done) | (simp; omega)), trivial⟩ (by dsimp only; omega))
 ·
  refine wp_exit ?_
  refine pop_then_exit ?_
  refine pop_then_exit ?_
  refine pop_block_hit ?_
  refine pop_then ?_
  refine hS.regS [200, 0] [2] fun _ => seg [] [(0, some ((ν1 0), .cells [sc g21 0 m.cap m.cap, vi (-1)] 66)), (1, none)] [.e (ν1 0), .e (ν1 0), .e (ν3 0), .e (ν3 0)] trivial fun ac wd hS => ?_
  refine wp_ret ?_
  refine St.retC 0 hS (.agg #[sc g21 0 m.cap m.cap, vi (-1)]) [.e (ν1 0), .e (ν1 0)] trivial fun hw => ?_
  refine ⟨g21, retd rfl, ((hw.getm 1 g21 (.row 9 m.cap m.cap (strs (pgU m (Int.toNat x11)) 0))).resolve_right (fun h => h)), (HE.fn_hi (by omega) (HE.of_row (hw.get 1 g21 (.row 9 m.cap m.cap (strs (pgU m (Int.toNat x11)) 0))) (fun o ho => pgU_all m (n := m.cap) (by omega) o ho))), hw.fr0⟩

set_option maxRecDepth 100000 in
set_option maxHeartbeats 1000000 in
theorem r14_Write (g : Nat) (u : Nat) (n : Nat) (cp : Nat) (rf : Int) (a : Int) (s : Int) (p : Int) (S : Nat → ByteArray) (w : World) (hh0 : HE.holds w g (.fn u (u + n) (strs S u))) (hn : n ≤ 1048576) (hav : a ≤ 9223372036854775807) :
    Calls Tryd.prog 36 #[.agg #[sc g u n cp, vi rf], .agg #[vi a, vi s, vi p]] w fun e w' => e = .returned (vi (obW S n a s p)) ∧ Fr w w' no no := by
 refine enter (args := [.agg #[sc g u n cp, vi rf], .agg #[vi a, vi s, vi p]]) (D := no) (A := []) Tryd.func36 rfl 24 rfl [(g, .fn u (u + n) (strs S u))] (WS.startL ⟨⟨rfl, hh0⟩, trivial⟩) fun ac hS => ?_
 refine hS.regS [0, 0, 0] [] fun ν1 => seg [(2, pt (ν1 0) 0), (3, pt (ν1 1) 0)] [(0, none), (1, some ((ν1 0), .cells [sc g u n cp, vi rf] 66)), (2, some ((ν1 1), .cells [vi a, vi s, vi p] 68))] [] trivial fun ac wd hS => ?_
 refine wp_seq ?_
 refine hS.regS [0, 200, 0, 0, 3, 203, 3, 80, 0, 3, 203, 3, 80] [2, 3] fun _ => seg [(17, vb (((decide ((a : Int) < 16)) || (decide ((s : Int) < 0))) || (decide ((p : Int) < 0))))] [(0, none), (1, none), (2, none)] [.p (((((decide ((a : Int) < 16)) || (decide ((s : Int) < 0))) = false) ∧ True) → AllP [((ν1 1) : Nat) = (ν1 1)]), .p ((((decide ((a : Int) < 16)) = false) ∧ True) → AllP [((ν1 1) : Nat) = (ν1 1)]), .e (ν1 1)] ⟨(fun ⟨hc0, _⟩ => by replace hc0 := nrm hc0; exact ⟨rfl, trivial⟩), (fun ⟨hc0, _⟩ => by replace hc0 := nrm hc0; exact ⟨rfl, trivial⟩), trivial⟩ fun ac wd hS => ?_
 refine hS.condC (((decide ((a : Int) < 16)) || (decide ((s : Int) < 0))) || (decide ((p : Int) < 0))) (fun hb1o hb1 => ?_) (fun hb1o hb1 => ?_)
 ·
  have hb : obBad a s p = true := hb1o
  refine hS.regS [0] [] fun _ => seg [(4, vi 2)] [] [] trivial fun ac wd hS => ?_
  refine wp_ret ?_
  refine pop_then_ret ?_
  refine St.retC 0 hS (vi 2) [] trivial fun hw => ?_
  refine ⟨retd (vint ?_), hw.fr0⟩
  all_goals (first | (unfold obW; rw [hb]; rfl) | (unfold obW; rw [hb]; simp at hq; rw [hq]; rfl))
 ·
  have hb : obBad a s p = false := hb1o
  obtain ⟨hb1, hb2, hb3⟩ := ob_in hb
  refine wp_skip ?_
  refine pop_then ?_
  refine wp_seq ?_
  refine wp_region_seq ?_
  refine hS.opsC 4 [100, 0, 200, 20] [] fun _ => seg [(18, .agg #[sc g u n cp, vi rf]), (21, vi (a - 16))] [(0, none)] [.p (fit .i64 (a - 16)), .e (ν1 1), .e (ν1 0), .e (ν1 0)] ⟨fit_i64 (by omega), trivial⟩ fun ac wd hS => ?_
  refine hS.call0 121 #[.agg #[sc g u n cp, vi rf], vi (a - 16), vi 16] 22 (ref03_There g u n cp rf (a - 16) 16 S _ (hS.mem.get 0 g (.fn u (u + n) (strs S u))) (by first | assumption | omega | (simp_all; done) | (simp_all; omega))) fun ac wd hS => ?_
  refine hS.opsC 1 [0] [] fun _ => seg [(23, vb (!(thr (amS S n) (a - 16) 16)))] [] [] trivial fun ac wd hS => ?_
  refine list_nil_seq ?_
  refine hS.condC (!(thr (amS S n) (a - 16) 16)) (fun hb2o hb2 => ?_) (fun hb2o hb2 => ?_)
  ·
   have hq := hb2o
   refine hS.regS [0] [] fun _ => seg [(4, vi 3)] [] [] trivial fun ac wd hS => ?_
   refine wp_ret ?_
   refine pop_then_ret ?_
   refine St.retC 0 hS (vi 3) [] trivial fun hw => ?_
   refine ⟨retd (vint ?_), hw.fr0⟩
   all_goals (first | (unfold obW; rw [hb]; rfl) | (unfold obW; rw [hb]; simp at hq; rw [hq]; rfl))
  ·
   have hq := hb2o
   refine wp_skip ?_
   refine pop_then ?_
   refine hS.regS [0] [] fun _ => seg [(4, vi 0)] [] [] trivial fun ac wd hS => ?_
   refine wp_ret ?_
   refine St.retC 0 hS (vi 0) [] trivial fun hw => ?_
   refine ⟨retd (vint ?_), hw.fr0⟩
   all_goals (first | (unfold obW; rw [hb]; rfl) | (unfold obW; rw [hb]; simp at hq; rw [hq]; rfl))

theorem r14_Write_v (g : Nat) (u : Nat) (n : Nat) (cp : Nat) (rf : Int) (a : Int) (s : Int) (p : Int) (S : Nat → ByteArray) (ev : Int) (w : World) (hh0 : HE.holds w g (.fn u (u + n) (strs S u))) (hn : n ≤ 1048576) (hav : a ≤ 9223372036854775807) (hv : obW S n a s p = ev) :
    Calls Tryd.prog 36 #[.agg #[sc g u n cp, vi rf], .agg #[vi a, vi s, vi p]] w fun e w' => e = .returned (vi ev) ∧ Fr w w' no no := by
 subst hv
 exact r14_Write g u n cp rf a s p S w hh0 hn hav

set_option maxRecDepth 100000 in
set_option maxHeartbeats 1000000 in
theorem obj_record (w : World) :
    Calls Tryd.prog 126 #[] w fun e w' => ∃ (g2 : Nat) (c2 : Nat), e = .returned (.agg #[sc g2 0 oRec.length c2]) ∧ oRec.length ≤ c2 ∧ w.heap.size ≤ g2 ∧ HE.holds w' g2 (.fn 0 (0 + oRec.length) (ints oRec 0)) ∧ Fr w w' no no := by
 refine enter (args := []) (D := no) (A := []) Tryd.func126 rfl 9 rfl [] (WS.startL trivial) fun ac hS => ?_
 refine hS.regS [0] [] fun ν1 => seg [(0, pt (ν1 0) 0)] [(0, some ((ν1 0), .cells [vnil] 230))] [] trivial fun ac wd hS => ?_
 refine wp_region_seq ?_
 refine hS.opsC 1 [0] [0] fun ν2 => seg [(4, sc (ν2 0) 0 2 2)] [(0, none), (1, some ((ν2 0), .cells [vi 8, vi 8] 3))] [] trivial fun ac wd hS => ?_
 refine hS.callC 187 #[sc (ν2 0) 0 2 2] (field_Of (ν2 0) 0 2 oRec _ (HE.of_cells (hS.mem.get 1 (ν2 0) (.cells [vi 8, vi 8] 3)) (fun o_ ho => by have ho : o_ < 2 := ho; rcases (by omega : o_ = 0 ∨ o_ = 1) with rfl | rfl <;> rfl)) (by exact oRec_ok)) ?_
 rintro _ wd ⟨g21, c22, rfl, hc23, hog0, hoh0, hF⟩
 have ho4 : w.heap.size ≤ g21 := Nat.le_trans hS.mem.fr.size hog0
 refine ⟨.tuple #[.agg #[sc g21 0 oRec.length c22], vi 0], rfl, ?_⟩
 replace hS := (hS.to (hS.mem.outs hF [(g21, .fn 0 (0 + oRec.length) (ints oRec 0))] ⟨⟨rfl, hoh0, .inr hog0⟩, trivial⟩)).put (d := 5) (v := .tuple #[.agg #[sc g21 0 oRec.length c22], vi 0]) (by decide)
 clear hF
 refine hS.opsC 6 [0, 0, 0, 0, 300, 0] [0] fun ν3 => seg [(1, pt (ν3 0) 0)] [(0, none), (2, none), (3, some ((ν3 0), .cells [sc g21 0 oRec.length c22] 230))] [.e (ν3 0)] trivial fun ac wd hS => ?_
 refine list_nil_seq ?_
 refine hS.regS [200, 0] [0] fun _ => seg [] [(0, some ((ν1 0), .cells [sc g21 0 oRec.length c22] 230)), (1, none)] [.e (ν1 0), .e (ν3 0)] trivial fun ac wd hS => ?_
 refine wp_ret ?_
 refine St.retC 0 hS (.agg #[sc g21 0 oRec.length c22]) [.e (ν1 0)] trivial fun hw => ?_
 refine ⟨g21, c22, retd rfl, ?_, ho4, (hw.get 1 g21 (.fn 0 (0 + oRec.length) (ints oRec 0))), hw.fr0⟩
 all_goals (first | rfl | assumption | (simp; done) | (simp; omega) | omega | (simp_all; done) | (simp_all; omega))

set_option maxRecDepth 100000 in
set_option maxHeartbeats 1000000 in
theorem obj_header_lo (b : Nat) (F : Nat → Prop) (m : AM) (a : Int) (w : World) (hr : (arR b F m).R w) (ha : a < 16) :
    Calls Tryd.prog 125 #[pt b 0, vi a] w fun e w' => e = .returned (.tuple #[.agg #[pnil, vi 0, vi 0], vi 2]) ∧ Fr w w' no no := by
 refine enter (args := [pt b 0, vi a]) (D := no) (A := []) Tryd.func125 rfl 20 rfl [] (WS.startL trivial) fun ac hS => ?_
 refine hS.regS [0, 0] [0, 1] fun ν1 => seg [(4, pt (ν1 0) 0)] [(0, some ((ν1 0), .cells [pnil, vi 0, vi 0] 25))] [] trivial fun ac wd hS => ?_
 refine wp_seq ?_
 refine wp_block ?_
 refine hS.regS [0, 0, 0] [0, 1, 4] fun _ => seg [(6, vb false)] [(0, none)] [] trivial fun ac wd hS => ?_
 refine hS.condF ?_
 refine hS.regS [0, 0, 0] [0, 1, 4] fun _ => seg [(10, vb (decide ((a : Int) < 16)))] [(0, none)] [] trivial fun ac wd hS => ?_
 refine hS.condK (decide ((a : Int) < 16)) true (by exact decide_eq_true (by omega)) ?_
 show Code.wp _ _ _ _ _
 refine hS.regS [0, 0, 0] [4] fun _ => seg [(5, vi 2)] [(0, none)] [.e (ν1 0), .e (ν1 0), .e (ν1 0)] trivial fun ac wd hS => ?_
 refine wp_ret ?_
 refine pop_block_ret ?_
 refine pop_then_ret ?_
 refine St.retC 0 hS (.tuple #[.agg #[pnil, vi 0, vi 0], vi 2]) [.e (ν1 0), .e (ν1 0), .e (ν1 0)] trivial fun hw => ?_
 refine ⟨retd rfl, hw.fr0⟩

set_option maxRecDepth 100000 in
set_option maxHeartbeats 1000000 in
theorem obj_header_ok (b : Nat) (F : Nat → Prop) (m : AM) (a : Int) (w : World) (hr : (arR b F m).R w) (ha : 16 ≤ a ∧ a ≤ 9223372036854775807) (ht : thr m (a - 16) 16 = true) :
    Calls Tryd.prog 125 #[pt b 0, vi a] w fun e w' => e = .returned (.tuple #[.agg #[pt b 0, vi (a - 16), vi 16], vi 0]) ∧ Fr w w' no no := by
 refine enter (args := [pt b 0, vi a]) (D := no) (A := []) Tryd.func125 rfl 20 rfl [] (WS.startL trivial) fun ac hS => ?_
 refine hS.regS [0, 0] [0, 1] fun ν1 => seg [(4, pt (ν1 0) 0)] [(0, some ((ν1 0), .cells [pnil, vi 0, vi 0] 25))] [] trivial fun ac wd hS => ?_
 refine wp_seq ?_
 refine wp_block ?_
 refine hS.regS [0, 0, 0] [0, 1, 4] fun _ => seg [(6, vb false)] [(0, none)] [] trivial fun ac wd hS => ?_
 refine hS.condF ?_
 refine hS.regS [0, 0, 0] [0, 1, 4] fun _ => seg [(10, vb (decide ((a : Int) < 16)))] [(0, none)] [] trivial fun ac wd hS => ?_
 refine hS.condK (decide ((a : Int) < 16)) false (by exact decide_eq_false (by omega)) ?_
 show Code.wp _ _ _ _ _
 refine wp_skip ?_
 refine pop_block ?_
 refine pop_then ?_
 refine wp_region_seq ?_
 refine hS.opsC 3 [0, 0, 20] [4] fun _ => seg [(14, pt b 0), (16, vi (a - 16))] [(0, none)] [.p (fit .i64 (a - 16))] ⟨fit_i64 (by omega), trivial⟩ fun ac wd hS => ?_
 refine hS.call0 28 #[pt b 0, vi (a - 16), vi 16] 17 (vw_Of b F m (a - 16) 16 _ (Res.keep hr hS.mem.fr) (by assumption)) fun ac wd hS => ?_
 refine hS.opsC 4 [0, 0, 0, 0] [4] fun _ => seg [(5, vi 0)] [(0, some ((ν1 0), .cells [pt b 0, vi (a - 16), vi 16] 25))] [.e (ν1 0), .e (ν1 0), .e (ν1 0)] trivial fun ac wd hS => ?_
 refine list_nil_seq ?_
 refine wp_ret ?_
 refine St.retC 0 hS (.tuple #[.agg #[pt b 0, vi (a - 16), vi 16], vi 0]) [.e (ν1 0), .e (ν1 0), .e (ν1 0)] trivial fun hw => ?_
 refine ⟨retd rfl, hw.fr0⟩

set_option maxRecDepth 100000 in
set_option maxHeartbeats 1000000 in
theorem obj_header_no (b : Nat) (F : Nat → Prop) (m : AM) (a : Int) (w : World) (hr : (arR b F m).R w) (ha : 16 ≤ a ∧ a ≤ 9223372036854775807) (ht : thr m (a - 16) 16 = false) :
    Calls Tryd.prog 125 #[pt b 0, vi a] w fun e w' => e = .returned (.tuple #[.agg #[pnil, vi 0, vi 0], vi 3]) ∧ Fr w w' no no := by
 refine enter (args := [pt b 0, vi a]) (D := no) (A := []) Tryd.func125 rfl 20 rfl [] (WS.startL trivial) fun ac hS => ?_
 refine hS.regS [0, 0] [0, 1] fun ν1 => seg [(4, pt (ν1 0) 0)] [(0, some ((ν1 0), .cells [pnil, vi 0, vi 0] 25))] [] trivial fun ac wd hS => ?_
 refine wp_seq ?_
 refine wp_block ?_
 refine hS.regS [0, 0, 0] [0, 1, 4] fun _ => seg [(6, vb false)] [(0, none)] [] trivial fun ac wd hS => ?_
 refine hS.condF ?_
 refine hS.regS [0, 0, 0] [0, 1, 4] fun _ => seg [(10, vb (decide ((a : Int) < 16)))] [(0, none)] [] trivial fun ac wd hS => ?_
 refine hS.condK (decide ((a : Int) < 16)) false (by exact decide_eq_false (by omega)) ?_
 show Code.wp _ _ _ _ _
 refine wp_skip ?_
 refine pop_block ?_
 refine pop_then ?_
 refine wp_region_seq ?_
 refine hS.opsC 3 [0, 0, 20] [4] fun _ => seg [(14, pt b 0), (16, vi (a - 16))] [(0, none)] [.p (fit .i64 (a - 16))] ⟨fit_i64 (by omega), trivial⟩ fun ac wd hS => ?_
 refine hS.call0 28 #[pt b 0, vi (a - 16), vi 16] 17 (vw_Of_no b F m (a - 16) 16 _ (Res.keep hr hS.mem.fr) (by unfold chkE; rw [ht]; decide)) fun ac wd hS => ?_
 refine hS.opsC 4 [0, 0, 0, 0] [4] fun _ => seg [(5, vi (chkE m (a - 16) 16))] [(0, none)] [.e (ν1 0), .e (ν1 0), .e (ν1 0)] trivial fun ac wd hS => ?_
 refine list_nil_seq ?_
 refine wp_ret ?_
 refine St.retC 0 hS (.tuple #[.agg #[pnil, vi 0, vi 0], vi (chkE m (a - 16) 16)]) [.e (ν1 0), .e (ν1 0), .e (ν1 0)] trivial fun hw => ?_
 refine ⟨retd (tuple2 rfl (vint ?_)), hw.fr0⟩
 all_goals (first | rfl | (unfold chkE; rw [ht]; rfl))

set_option maxRecDepth 100000 in
set_option maxHeartbeats 1000000 in
theorem obj_header_nil (a : Int) (w : World) :
    Calls Tryd.prog 125 #[pnil, vi a] w fun e w' => e = .returned (.tuple #[.agg #[pnil, vi 0, vi 0], vi 1]) ∧ Fr w w' no no := by
 refine enter (args := [pnil, vi a]) (D := no) (A := []) Tryd.func125 rfl 20 rfl [] (WS.startL trivial) fun ac hS => ?_
 refine hS.regS [0, 0] [0, 1] fun ν1 => seg [(4, pt (ν1 0) 0)] [(0, some ((ν1 0), .cells [pnil, vi 0, vi 0] 25))] [] trivial fun ac wd hS => ?_
 refine wp_seq ?_
 refine wp_block ?_
 refine hS.regS [0, 0, 0] [0, 1, 4] fun _ => seg [(6, vb true)] [(0, none)] [] trivial fun ac wd hS => ?_
 refine hS.condT ?_
 refine hS.regS [0, 0, 0] [4] fun _ => seg [(5, vi 1)] [(0, none)] [.e (ν1 0), .e (ν1 0), .e (ν1 0)] trivial fun ac wd hS => ?_
 refine wp_ret ?_
 refine pop_block_ret ?_
 refine pop_then_ret ?_
 refine St.retC 0 hS (.tuple #[.agg #[pnil, vi 0, vi 0], vi 1]) [.e (ν1 0), .e (ν1 0), .e (ν1 0)] trivial fun hw => ?_
 refine ⟨retd rfl, hw.fr0⟩

set_option maxRecDepth 100000 in
set_option maxHeartbeats 1000000 in
theorem obj_Write_bad (b : Nat) (F : Nat → Prop) (m : AM) (a : Int) (s : Int) (p : Int) (w : World) (hr : (arR b F m).R w) (hs : a ≤ 9223372036854775807 ∧ s ≤ 9223372036854775807 ∧ p ≤ 9223372036854775807) (hb : s < 0 ∨ p < 0) :
    Calls Tryd.prog 38 #[pt b 0, .agg #[vi a, vi s, vi p]] w fun e w' => ∃ (F' : Nat → Prop), e = .returned (vi (obE m a s p)) ∧ (arR b F' (obM m a s p)).R w' ∧ Fr w w' F F' := by
 have hq : obBad a s p = true := by unfold obBad; simp; omega
 refine enter (args := [pt b 0, .agg #[vi a, vi s, vi p]]) (D := F) (A := [arR b F m]) Tryd.func38 rfl 39 rfl [] (WS.startA (r := arR b F m) hr trivial trivial) fun ac hS => ?_
 refine hS.regS [0, 0] [0] fun ν1 => seg [(3, pt (ν1 0) 0)] [(0, some ((ν1 0), .cells [vi a, vi s, vi p] 58))] [] trivial fun ac wd hS => ?_
 refine wp_seq ?_
 refine hS.regS [0, 0, 0, 1, 1, 1, 1, 3, 3, 3, 81, 70] [0, 3] fun _ => seg [(18, vb ((decide ((s : Int) < 0)) || (decide ((p : Int) < 0))))] [(0, none)] [.t true, .t true, .p ((((decide ((s : Int) < 0)) = false) ∧ True) → AllP [((ν1 0) : Nat) = (ν1 0)]), .t true, .t true, .t true, .e (ν1 0), .t true] ⟨(fun ⟨hc0, _⟩ => by replace hc0 := nrm hc0; exact ⟨rfl, trivial⟩), trivial⟩ fun ac wd hS => ?_
 refine hS.condK ((decide ((s : Int) < 0)) || (decide ((p : Int) < 0))) true (by simp; omega) ?_
 show Code.wp _ _ _ _ _
 refine hS.regS [0] [] fun _ => seg [(4, vi 2)] [] [] trivial fun ac wd hS => ?_
 refine wp_ret ?_
 refine pop_then_ret ?_
 refine St.retC 0 hS (vi 2) [] trivial fun hw => ?_
 refine ⟨F, retd (vint ?_), (res_eq (r := arR b F m) (by exact congrArg _ (ob_1 hq).2) (hw.res 0)), hw.frA⟩
 all_goals (exact (ob_1 hq).1)

set_option maxRecDepth 100000 in
set_option maxHeartbeats 1000000 in
theorem obj_Write_lo (b : Nat) (F : Nat → Prop) (m : AM) (a : Int) (s : Int) (p : Int) (w : World) (hr : (arR b F m).R w) (hs : a ≤ 9223372036854775807 ∧ s ≤ 9223372036854775807 ∧ p ≤ 9223372036854775807) (hb : ¬ (s < 0 ∨ p < 0)) (ha : a < 16) :
    Calls Tryd.prog 38 #[pt b 0, .agg #[vi a, vi s, vi p]] w fun e w' => ∃ (F' : Nat → Prop), e = .returned (vi (obE m a s p)) ∧ (arR b F' (obM m a s p)).R w' ∧ Fr w w' F F' := by
 have hq : obBad a s p = true := by unfold obBad; simp; omega
 refine enter (args := [pt b 0, .agg #[vi a, vi s, vi p]]) (D := F) (A := [arR b F m]) Tryd.func38 rfl 39 rfl [] (WS.startA (r := arR b F m) hr trivial trivial) fun ac hS => ?_
 refine hS.regS [0, 0] [0] fun ν1 => seg [(3, pt (ν1 0) 0)] [(0, some ((ν1 0), .cells [vi a, vi s, vi p] 58))] [] trivial fun ac wd hS => ?_
 refine wp_seq ?_
 refine hS.regS [0, 0, 0, 1, 1, 1, 1, 3, 3, 3, 81, 70] [0, 3] fun _ => seg [(18, vb ((decide ((s : Int) < 0)) || (decide ((p : Int) < 0))))] [(0, none)] [.t true, .t true, .p ((((decide ((s : Int) < 0)) = false) ∧ True) → AllP [((ν1 0) : Nat) = (ν1 0)]), .t true, .t true, .t true, .e (ν1 0), .t true] ⟨(fun ⟨hc0, _⟩ => by replace hc0 := nrm hc0; exact ⟨rfl, trivial⟩), trivial⟩ fun ac wd hS => ?_
 refine hS.condK ((decide ((s : Int) < 0)) || (decide ((p : Int) < 0))) false (by simp; omega) ?_
 show Code.wp _ _ _ _ _
 refine wp_skip ?_
 refine pop_then ?_
 refine wp_region_seq ?_
 refine hS.opsC 3 [0, 0, 0] [3] fun _ => seg [(20, pt b 0), (22, vi a)] [(0, none)] [.e (ν1 0)] trivial fun ac wd hS => ?_
 refine hS.call0 125 #[pt b 0, vi a] 23 (obj_header_lo b F m a _ (hS.mem.res 0) (by first | assumption | omega | (simp_all; done) | (simp_all; omega))) fun ac wd hS => ?_
 refine hS.opsC 6 [0, 0, 0, 0, 100, 0] [3] fun ν4 => seg [(5, pt (ν4 0) 0), (6, vi 2)] [(0, none), (1, some ((ν4 0), .cells [pnil, vi 0, vi 0] 25))] [.e (ν4 0), .e (ν4 0), .e (ν4 0)] trivial fun ac wd hS => ?_
 refine list_nil_seq ?_
 refine wp_seq ?_
 refine hS.regS [0, 0] [3, 5, 6] fun _ => seg [(27, vb true)] [(0, none), (1, none)] [] trivial fun ac wd hS => ?_
 refine hS.condT ?_
 refine hS.regS [0, 0] [] fun _ => seg [(4, vi 2)] [] [] trivial fun ac wd hS => ?_
 refine wp_ret ?_
 refine pop_then_ret ?_
 refine St.retC 0 hS (vi 2) [] trivial fun hw => ?_
 refine ⟨F, retd (vint ?_), (res_eq (r := arR b F m) (by exact congrArg _ (ob_1 hq).2) (hw.res 0)), hw.frA⟩
 all_goals (exact (ob_1 hq).1)

set_option maxRecDepth 100000 in
set_option maxHeartbeats 1000000 in
theorem obj_Write_no (b : Nat) (F : Nat → Prop) (m : AM) (a : Int) (s : Int) (p : Int) (w : World) (hr : (arR b F m).R w) (hs : a ≤ 9223372036854775807 ∧ s ≤ 9223372036854775807 ∧ p ≤ 9223372036854775807) (hb : ¬ (s < 0 ∨ p < 0)) (ha : 16 ≤ a ∧ a ≤ 9223372036854775807) (ht : thr m (a - 16) 16 = false) :
    Calls Tryd.prog 38 #[pt b 0, .agg #[vi a, vi s, vi p]] w fun e w' => ∃ (F' : Nat → Prop), e = .returned (vi (obE m a s p)) ∧ (arR b F' (obM m a s p)).R w' ∧ Fr w w' F F' := by
 have hq : obBad a s p = false := by unfold obBad; simp; omega
 have hcl : m.cap ≤ 1048576 := by obtain ⟨d, hd⟩ := hr; exact hd.capLe
 refine enter (args := [pt b 0, .agg #[vi a, vi s, vi p]]) (D := F) (A := [arR b F m]) Tryd.func38 rfl 39 rfl [] (WS.startA (r := arR b F m) hr trivial trivial) fun ac hS => ?_
 refine hS.regS [0, 0] [0] fun ν1 => seg [(3, pt (ν1 0) 0)] [(0, some ((ν1 0), .cells [vi a, vi s, vi p] 58))] [] trivial fun ac wd hS => ?_
 refine wp_seq ?_
 refine hS.regS [0, 0, 0, 1, 1, 1, 1, 3, 3, 3, 81, 70] [0, 3] fun _ => seg [(18, vb ((decide ((s : Int) < 0)) || (decide ((p : Int) < 0))))] [(0, none)] [.t true, .t true, .p ((((decide ((s : Int) < 0)) = false) ∧ True) → AllP [((ν1 0) : Nat) = (ν1 0)]), .t true, .t true, .t true, .e (ν1 0), .t true] ⟨(fun ⟨hc0, _⟩ => by replace hc0 := nrm hc0; exact ⟨rfl, trivial⟩), trivial⟩ fun ac wd hS => ?_
 refine hS.condK ((decide ((s : Int) < 0)) || (decide ((p : Int) < 0))) false (by simp; omega) ?_
 show Code.wp _ _ _ _ _
 refine wp_skip ?_
 refine pop_then ?_
 refine wp_region_seq ?_
 refine hS.opsC 3 [0, 0, 0] [3] fun _ => seg [(20, pt b 0), (22, vi a)] [(0, none)] [.e (ν1 0)] trivial fun ac wd hS => ?_
 refine hS.call0 125 #[pt b 0, vi a] 23 (obj_header_no b F m a _ (hS.mem.res 0) (by first | assumption | omega | (simp_all; done) | (simp_all; omega)) (by first | assumption | omega | (simp_all; done) | (simp_all; omega))) fun ac wd hS => ?_
 refine hS.opsC 6 [0, 0, 0, 0, 100, 0] [3] fun ν4 => seg [(5, pt (ν4 0) 0), (6, vi 3)] [(0, none), (1, some ((ν4 0), .cells [pnil, vi 0, vi 0] 25))] [.e (ν4 0), .e (ν4 0), .e (ν4 0)] trivial fun ac wd hS => ?_
 refine list_nil_seq ?_
 refine wp_seq ?_
 refine hS.regS [0, 0] [3, 5, 6] fun _ => seg [(27, vb true)] [(0, none), (1, none)] [] trivial fun ac wd hS => ?_
 refine hS.condT ?_
 refine hS.regS [0, 0] [] fun _ => seg [(4, vi 3)] [] [] trivial fun ac wd hS => ?_
 refine wp_ret ?_
 refine pop_then_ret ?_
 refine St.retC 0 hS (vi 3) [] trivial fun hw => ?_
 refine ⟨F, retd (vint ?_), (res_eq (r := arR b F m) (by exact congrArg _ (ob_2 hq ht).2) (hw.res 0)), hw.frA⟩
 all_goals (exact (ob_2 hq ht).1)

set_option maxRecDepth 100000 in
set_option maxHeartbeats 1000000 in
theorem obj_Write_ok (b : Nat) (F : Nat → Prop) (m : AM) (a : Int) (s : Int) (p : Int) (w : World) (hr : (arR b F m).R w) (hs : a ≤ 9223372036854775807 ∧ s ≤ 9223372036854775807 ∧ p ≤ 9223372036854775807) (hb : ¬ (s < 0 ∨ p < 0)) (ha : 16 ≤ a ∧ a ≤ 9223372036854775807) (ht : thr m (a - 16) 16 = true) :
    Calls Tryd.prog 38 #[pt b 0, .agg #[vi a, vi s, vi p]] w fun e w' => ∃ (F' : Nat → Prop), e = .returned (vi (obE m a s p)) ∧ (arR b F' (obM m a s p)).R w' ∧ Fr w w' F F' := by
 have hq : obBad a s p = false := by unfold obBad; simp; omega
 have hcl : m.cap ≤ 1048576 := by obtain ⟨d, hd⟩ := hr; exact hd.capLe
 refine enter (args := [pt b 0, .agg #[vi a, vi s, vi p]]) (D := F) (A := [arR b F m]) Tryd.func38 rfl 39 rfl [] (WS.startA (r := arR b F m) hr trivial trivial) fun ac hS => ?_
 refine hS.regS [0, 0] [0] fun ν1 => seg [(3, pt (ν1 0) 0)] [(0, some ((ν1 0), .cells [vi a, vi s, vi p] 58))] [] trivial fun ac wd hS => ?_
 refine wp_seq ?_
 refine hS.regS [0, 0, 0, 1, 1, 1, 1, 3, 3, 3, 81, 70] [0, 3] fun _ => seg [(18, vb ((decide ((s : Int) < 0)) || (decide ((p : Int) < 0))))] [(0, none)] [.t true, .t true, .p ((((decide ((s : Int) < 0)) = false) ∧ True) → AllP [((ν1 0) : Nat) = (ν1 0)]), .t true, .t true, .t true, .e (ν1 0), .t true] ⟨(fun ⟨hc0, _⟩ => by replace hc0 := nrm hc0; exact ⟨rfl, trivial⟩), trivial⟩ fun ac wd hS => ?_
 refine hS.condK ((decide ((s : Int) < 0)) || (decide ((p : Int) < 0))) false (by simp; omega) ?_
 show Code.wp _ _ _ _ _
 refine wp_skip ?_
 refine pop_then ?_
 refine wp_region_seq ?_
 refine hS.opsC 3 [0, 0, 0] [3] fun _ => seg [(20, pt b 0), (22, vi a)] [(0, none)] [.e (ν1 0)] trivial fun ac wd hS => ?_
 refine hS.call0 125 #[pt b 0, vi a] 23 (obj_header_ok b F m a _ (hS.mem.res 0) (by first | assumption | omega | (simp_all; done) | (simp_all; omega)) (by first | assumption | omega | (simp_all; done) | (simp_all; omega))) fun ac wd hS => ?_
 refine hS.opsC 6 [0, 0, 0, 0, 100, 0] [3] fun ν4 => seg [(5, pt (ν4 0) 0), (6, vi 0)] [(0, none), (1, some ((ν4 0), .cells [pt b 0, vi (a - 16), vi 16] 25))] [.e (ν4 0), .e (ν4 0), .e (ν4 0)] trivial fun ac wd hS => ?_
 refine list_nil_seq ?_
 refine wp_seq ?_
 refine hS.regS [0, 0] [3, 5, 6] fun _ => seg [(27, vb false)] [(0, none), (1, none)] [] trivial fun ac wd hS => ?_
 refine hS.condF ?_
 refine wp_skip ?_
 refine pop_then ?_
 refine St.ordBeginTS [(1, 1), (2, 1), (3, 1), (4, 1), (5, 1), (6, 1), (7, 1), (0, 0), (8, 0), (9, 0), (10, 1)] (.two [(1, 1), (2, 1), (3, 1), (4, 1), (5, 1), (6, 1), (7, 1)] 0 (.lin [(8, 0), (9, 0), (10, 1)]) 8 (.lin [(0, 0), (9, 0), (10, 1)])) [((ν1 0), .cells [vi a, vi s, vi p] 58), ((ν4 0), .cells [pt b 0, vi (a - 16), vi 16] 25)] [0, 1] hS fun wd hS => ?_
 have hap := hS.mem.pairs (Hf := [((ν1 0), .cells [vi a, vi s, vi p] 58), ((ν4 0), .cells [pt b 0, vi (a - 16), vi 16] 25)]) (l := [0, 1])
 refine wpT_two ?_
 refine St.ordF [100, 0, 0, 20, 0, 0, 20] [1, 2, 3, 4, 5, 6, 7] [] (rest := []) hS hap <| segF [(30, .agg #[pt b 0, vi (a - 16), vi 16]), (33, vu s), (36, vu p)] [.p (fit .u64 p), .e (ν1 0), .p (fit .u64 s), .e (ν1 0), .e (ν4 0), .e (ν4 0), .e (ν4 0)] ⟨fit_u64 (by omega), fit_u64 (by omega), trivial⟩ fun ac hS => ?_
 refine ord_nil ?_
 refine ⟨?_, ?_⟩
 ·
  refine hS.ordC 0 126 #[] (obj_record  _  ) ?_
  rintro _ wd ⟨g21, c22, rfl, hc23, hog0, hoh0, hF⟩
  have ho4 : w.heap.size ≤ g21 := Nat.le_trans hS.mem.fr.size hog0
  refine ⟨.agg #[sc g21 0 2 c22], rfl, ?_⟩
  replace hS := (hS.to (hS.mem.outs hF [(g21, .fn 0 2 (ints oRec 0))] ⟨⟨rfl, hoh0, .inr hog0⟩, trivial⟩)).put (d := 29) (v := .agg #[sc g21 0 2 c22]) (by decide)
  clear hF
  refine hS.ordV (l := [0, 1]) ?_
  refine ord_nil ?_
  refine wpT_lin ?_
  refine St.ord1 8 [0] [29, 30] [0, 1] hS rfl fun ν6 => seg [(37, sc (ν6 0) 0 2 2)] [(0, none), (1, none), (2, none), (3, some ((ν6 0), .cells [vu s, vu p] 76))] [] trivial ⟨by as_aux_lemma => kernel_rfl, fun ac wd hS => ?_⟩
  refine hS.ordC 9 127 #[.agg #[sc g21 0 2 c22], .agg #[pt b 0, vi (a - 16), vi 16], sc (ν6 0) 0 2 2] (rec_Put b F m g21 0 c22 oRec (a - 16) 16 (ν6 0) 0 2 2 (obNum s p) _ (hS.mem.res 0) (hS.mem.get 2 g21 (.fn 0 2 (ints oRec 0))) (HE.of_cells (hS.mem.get 3 (ν6 0) (.cells [vu s, vu p] 76)) (ob_cells hq)) (hS.mem.nF (g := g21) (r := arR b F m) 2 0) (hS.mem.nF (g := (ν6 0)) (r := arR b F m) 3 0) (by first | assumption | exact oRec_ok | decide | (have := (inB_facts (thr_in ht)); omega)) (by first | assumption | exact oRec_ok | decide | (have := (inB_facts (thr_in ht)); omega)) (by first | assumption | exact oRec_ok | decide | (have := (inB_facts (thr_in ht)); omega)) (by first | assumption | exact oRec_ok | decide | (have := (inB_facts (thr_in ht)); omega))) ?_
  rintro _ wd ⟨F5, rfl, hA, hF⟩
  refine ⟨vi (pRE oRec 2 (obNum s p) m (a - 16) 16), rfl, ?_⟩
  replace hS := (hS.to (hS.mem.stepA 0 rfl hA hF)).put (d := 38) (v := vi (pRE oRec 2 (obNum s p) m (a - 16) 16)) (by decide)
  clear hF
  refine hS.ordV (l := [0, 1]) ?_
  refine St.ordF [0] [10] [] (rest := []) hS hap <| segF [(4, vi (pRE oRec 2 (obNum s p) m (a - 16) 16))] [] trivial fun ac hS => ?_
  refine ord_nil ?_
  refine wp_ret ?_
  refine St.retC 0 hS (vi (pRE oRec 2 (obNum s p) m (a - 16) 16)) [] trivial fun hw => ?_
  refine ⟨F5, retd (vint ?_), (res_eq (r := arR b F5 (pRM oRec 2 (obNum s p) m (a - 16) 16)) (by exact congrArg _ (ob_3 hq ht).2) (hw.res 0)), hw.frA⟩
  all_goals (exact (ob_3 hq ht).1)
 ·
  refine St.ord1 8 [0] [30] [0, 1] hS rfl fun ν7 => seg [(37, sc (ν7 0) 0 2 2)] [(0, none), (1, none), (2, some ((ν7 0), .cells [vu s, vu p] 76))] [] trivial ⟨by as_aux_lemma => kernel_rfl, fun ac wd hS => ?_⟩
  refine ord_nil ?_
  refine wpT_lin ?_
  refine hS.ordC 0 126 #[] (obj_record  _  ) ?_
  rintro _ wd ⟨g26, c27, rfl, hc28, hog0, hoh0, hF⟩
  have ho9 : w.heap.size ≤ g26 := Nat.le_trans hS.mem.fr.size hog0
  refine ⟨.agg #[sc g26 0 2 c27], rfl, ?_⟩
  replace hS := (hS.to (hS.mem.outs hF [(g26, .fn 0 2 (ints oRec 0))] ⟨⟨rfl, hoh0, .inr hog0⟩, trivial⟩)).put (d := 29) (v := .agg #[sc g26 0 2 c27]) (by decide)
  clear hF
  refine hS.ordV (l := [0, 1]) ?_
  refine hS.ordC 9 127 #[.agg #[sc g26 0 2 c27], .agg #[pt b 0, vi (a - 16), vi 16], sc (ν7 0) 0 2 2] (rec_Put b F m g26 0 c27 oRec (a - 16) 16 (ν7 0) 0 2 2 (obNum s p) _ (hS.mem.res 0) (hS.mem.get 3 g26 (.fn 0 2 (ints oRec 0))) (HE.of_cells (hS.mem.get 2 (ν7 0) (.cells [vu s, vu p] 76)) (ob_cells hq)) (hS.mem.nF (g := g26) (r := arR b F m) 3 0) (hS.mem.nF (g := (ν7 0)) (r := arR b F m) 2 0) (by first | assumption | exact oRec_ok | decide | (have := (inB_facts (thr_in ht)); omega)) (by first | assumption | exact oRec_ok | decide | (have := (inB_facts (thr_in ht)); omega)) (by first | assumption | exact oRec_ok | decide | (have := (inB_facts (thr_in ht)); omega)) (by first | assumption | exact oRec_ok | decide | (have := (inB_facts (thr_in ht)); omega))) ?_
  rintro _ wd ⟨F10, rfl, hA, hF⟩
  refine ⟨vi (pRE oRec 2 (obNum s p) m (a - 16) 16), rfl, ?_⟩
  replace hS := (hS.to (hS.mem.stepA 0 rfl hA hF)).put (d := 38) (v := vi (pRE oRec 2 (obNum s p) m (a - 16) 16)) (by decide)
  clear hF
  refine hS.ordV (l := [0, 1]) ?_
  refine St.ordF [0] [10] [] (rest := []) hS hap <| segF [(4, vi (pRE oRec 2 (obNum s p) m (a - 16) 16))] [] trivial fun ac hS => ?_
  refine ord_nil ?_
  refine wp_ret ?_
  refine St.retC 0 hS (vi (pRE oRec 2 (obNum s p) m (a - 16) 16)) [] trivial fun hw => ?_
  refine ⟨F10, retd (vint ?_), (res_eq (r := arR b F10 (pRM oRec 2 (obNum s p) m (a - 16) 16)) (by exact congrArg _ (ob_3 hq ht).2) (hw.res 0)), hw.frA⟩
  all_goals (exact (ob_3 hq ht).1)

theorem obj_Write (b : Nat) (F : Nat → Prop) (m : AM) (a : Int) (s : Int) (p : Int) (w : World) (hr : (arR b F m).R w) (hs : a ≤ 9223372036854775807 ∧ s ≤ 9223372036854775807 ∧ p ≤ 9223372036854775807) :
    Calls Tryd.prog 38 #[pt b 0, .agg #[vi a, vi s, vi p]] w fun e w' => ∃ (F' : Nat → Prop), e = .returned (vi (obE m a s p)) ∧ (arR b F' (obM m a s p)).R w' ∧ Fr w w' F F' := by
 by_cases hb : s < 0 ∨ p < 0
 · exact obj_Write_bad b F m a s p w hr hs hb
 · by_cases ha : a < 16
   · exact obj_Write_lo b F m a s p w hr hs hb ha
   · cases ht : thr m (a - 16) 16 with
     | true => exact obj_Write_ok b F m a s p w hr hs hb (by omega) ht
     | false => exact obj_Write_no b F m a s p w hr hs hb (by omega) ht

set_option maxRecDepth 100000 in
set_option maxHeartbeats 1000000 in
theorem obj_Write_nil (a : Int) (s : Int) (p : Int) (w : World) :
    Calls Tryd.prog 38 #[pnil, .agg #[vi a, vi s, vi p]] w fun e w' => e = .returned (vi 1) ∧ Fr w w' no no := by
 refine enter (args := [pnil, .agg #[vi a, vi s, vi p]]) (D := no) (A := []) Tryd.func38 rfl 39 rfl [] (WS.startL trivial) fun ac hS => ?_
 refine hS.regS [0, 0] [0] fun ν1 => seg [(3, pt (ν1 0) 0)] [(0, some ((ν1 0), .cells [vi a, vi s, vi p] 58))] [] trivial fun ac wd hS => ?_
 refine wp_seq ?_
 refine hS.regS [0, 0, 0, 2, 2, 2, 2, 4, 4, 4, 2, 60] [0, 3] fun _ => seg [(18, vb false)] [(0, none)] [.t false, .t false, .u, .u, .u, .t false, .t false, .t false, .t false] trivial fun ac wd hS => ?_
 refine hS.condF ?_
 refine wp_skip ?_
 refine pop_then ?_
 refine wp_region_seq ?_
 refine hS.opsC 3 [0, 0, 0] [3] fun _ => seg [(20, pnil), (22, vi a)] [(0, none)] [.e (ν1 0)] trivial fun ac wd hS => ?_
 refine hS.call0 125 #[pnil, vi a] 23 (obj_header_nil a _  ) fun ac wd hS => ?_
 refine hS.opsC 6 [0, 0, 0, 0, 100, 0] [3] fun ν4 => seg [(5, pt (ν4 0) 0), (6, vi 1)] [(0, none), (1, some ((ν4 0), .cells [pnil, vi 0, vi 0] 25))] [.e (ν4 0), .e (ν4 0), .e (ν4 0)] trivial fun ac wd hS => ?_
 refine list_nil_seq ?_
 refine wp_seq ?_
 refine hS.regS [0, 0] [3, 5, 6] fun _ => seg [(27, vb true)] [(0, none), (1, none)] [] trivial fun ac wd hS => ?_
 refine hS.condT ?_
 refine hS.regS [0, 0] [] fun _ => seg [(4, vi 1)] [] [] trivial fun ac wd hS => ?_
 refine wp_ret ?_
 refine pop_then_ret ?_
 refine St.retC 0 hS (vi 1) [] trivial fun hw => ?_
 refine ⟨retd rfl, hw.fr0⟩

set_option maxRecDepth 100000 in
set_option maxHeartbeats 1000000 in
theorem obj_Read_lo (b : Nat) (F : Nat → Prop) (m : AM) (a : Int) (w : World) (hr : (arR b F m).R w) (ha : a < 16) :
    Calls Tryd.prog 39 #[pt b 0, vi a] w fun e w' => e = .returned (.tuple #[.agg #[vi (orA m a), vi (orS m a), vi (orP m a)], vi (orE m a)]) ∧ Fr w w' no no := by
 have hE := orE_1 (m := m) ha
 have hz : orE m a ≠ 0 := by omega
 refine enter (args := [pt b 0, vi a]) (D := no) (A := []) Tryd.func39 rfl 36 rfl [] (WS.startL trivial) fun ac hS => ?_
 refine hS.regS [0, 0] [0, 1] fun ν1 => seg [(4, pt (ν1 0) 0)] [(0, some ((ν1 0), .cells [vi 0, vi 0, vi 0] 58))] [] trivial fun ac wd hS => ?_
 refine wp_region_seq ?_
 refine hS.opsC 2 [0, 0] [1, 4] fun _ => seg [(11, pt b 0), (12, vi a)] [(0, none)] [] trivial fun ac wd hS => ?_
 refine hS.call0 125 #[pt b 0, vi a] 13 (obj_header_lo b F m a _ (Res.keep hr hS.mem.fr) (by first | assumption | omega | (simp_all; done) | (simp_all; omega))) fun ac wd hS => ?_
 refine hS.opsC 6 [0, 0, 0, 0, 100, 0] [1, 4] fun ν3 => seg [(6, pt (ν3 0) 0), (7, vi 2)] [(0, none), (1, some ((ν3 0), .cells [pnil, vi 0, vi 0] 25))] [.e (ν3 0), .e (ν3 0), .e (ν3 0)] trivial fun ac wd hS => ?_
 refine list_nil_seq ?_
 refine wp_seq ?_
 refine hS.regS [0, 0] [1, 4, 6, 7] fun _ => seg [(17, vb true)] [(0, none), (1, none)] [] trivial fun ac wd hS => ?_
 refine hS.condT ?_
 refine hS.regS [0, 0, 0, 0] [4] fun _ => seg [(5, vi 2)] [(0, none)] [.e (ν1 0), .e (ν1 0), .e (ν1 0)] trivial fun ac wd hS => ?_
 refine wp_ret ?_
 refine pop_then_ret ?_
 refine St.retC 0 hS (.tuple #[.agg #[vi 0, vi 0, vi 0], vi 2]) [.e (ν1 0), .e (ν1 0), .e (ν1 0)] trivial fun hw => ?_
 refine ⟨retd (tuple2 (agg3 (vint ?_) (vint ?_) (vint ?_)) (vint ?_)), hw.fr0⟩
 all_goals (first | exact (or_no hz).1 | exact (or_no hz).2.1 | exact (or_no hz).2.2 | exact hE.symm | omega)

set_option maxRecDepth 100000 in
set_option maxHeartbeats 1000000 in
theorem obj_Read_no (b : Nat) (F : Nat → Prop) (m : AM) (a : Int) (w : World) (hr : (arR b F m).R w) (ha : 16 ≤ a ∧ a ≤ 9223372036854775807) (ht : thr m (a - 16) 16 = false) :
    Calls Tryd.prog 39 #[pt b 0, vi a] w fun e w' => e = .returned (.tuple #[.agg #[vi (orA m a), vi (orS m a), vi (orP m a)], vi (orE m a)]) ∧ Fr w w' no no := by
 have hE := orE_2 (m := m) (a := a) (by omega) ht
 have hz : orE m a ≠ 0 := by omega
 refine enter (args := [pt b 0, vi a]) (D := no) (A := []) Tryd.func39 rfl 36 rfl [] (WS.startL trivial) fun ac hS => ?_
 refine hS.regS [0, 0] [0, 1] fun ν1 => seg [(4, pt (ν1 0) 0)] [(0, some ((ν1 0), .cells [vi 0, vi 0, vi 0] 58))] [] trivial fun ac wd hS => ?_
 refine wp_region_seq ?_
 refine hS.opsC 2 [0, 0] [1, 4] fun _ => seg [(11, pt b 0), (12, vi a)] [(0, none)] [] trivial fun ac wd hS => ?_
 refine hS.call0 125 #[pt b 0, vi a] 13 (obj_header_no b F m a _ (Res.keep hr hS.mem.fr) (by first | assumption | omega | (simp_all; done) | (simp_all; omega)) (by first | assumption | omega | (simp_all; done) | (simp_all; omega))) fun ac wd hS => ?_
 refine hS.opsC 6 [0, 0, 0, 0, 100, 0] [1, 4] fun ν3 => seg [(6, pt (ν3 0) 0), (7, vi 3)] [(0, none), (1, some ((ν3 0), .cells [pnil, vi 0, vi 0] 25))] [.e (ν3 0), .e (ν3 0), .e (ν3 0)] trivial fun ac wd hS => ?_
 refine list_nil_seq ?_
 refine wp_seq ?_
 refine hS.regS [0, 0] [1, 4, 6, 7] fun _ => seg [(17, vb true)] [(0, none), (1, none)] [] trivial fun ac wd hS => ?_
 refine hS.condT ?_
 refine hS.regS [0, 0, 0, 0] [4] fun _ => seg [(5, vi 3)] [(0, none)] [.e (ν1 0), .e (ν1 0), .e (ν1 0)] trivial fun ac wd hS => ?_
 refine wp_ret ?_
 refine pop_then_ret ?_
 refine St.retC 0 hS (.tuple #[.agg #[vi 0, vi 0, vi 0], vi 3]) [.e (ν1 0), .e (ν1 0), .e (ν1 0)] trivial fun hw => ?_
 refine ⟨retd (tuple2 (agg3 (vint ?_) (vint ?_) (vint ?_)) (vint ?_)), hw.fr0⟩
 all_goals (first | exact (or_no hz).1 | exact (or_no hz).2.1 | exact (or_no hz).2.2 | exact hE.symm | omega)

set_option maxRecDepth 100000 in
set_option maxHeartbeats 1000000 in
theorem obj_Read_ok (b : Nat) (F : Nat → Prop) (m : AM) (a : Int) (w : World) (hr : (arR b F m).R w) (ha : 16 ≤ a ∧ a ≤ 9223372036854775807) (ht : thr m (a - 16) 16 = true) :
    Calls Tryd.prog 39 #[pt b 0, vi a] w fun e w' => e = .returned (.tuple #[.agg #[vi (orA m a), vi (orS m a), vi (orP m a)], vi (orE m a)]) ∧ Fr w w' no no := by
 have hcl : m.cap ≤ 1048576 := by obtain ⟨d, hd⟩ := hr; exact hd.capLe
 have hE := orE_3 (m := m) (a := a) (by omega) ht
 obtain ⟨hI1, hI2, hI3, hI4⟩ := inB_facts (thr_in ht)
 refine enter (args := [pt b 0, vi a]) (D := no) (A := []) Tryd.func39 rfl 36 rfl [] (WS.startL trivial) fun ac hS => ?_
 refine hS.regS [0, 0] [0, 1] fun ν1 => seg [(4, pt (ν1 0) 0)] [(0, some ((ν1 0), .cells [vi 0, vi 0, vi 0] 58))] [] trivial fun ac wd hS => ?_
 refine wp_region_seq ?_
 refine hS.opsC 2 [0, 0] [1, 4] fun _ => seg [(11, pt b 0), (12, vi a)] [(0, none)] [] trivial fun ac wd hS => ?_
 refine hS.call0 125 #[pt b 0, vi a] 13 (obj_header_ok b F m a _ (Res.keep hr hS.mem.fr) (by first | assumption | omega | (simp_all; done) | (simp_all; omega)) (by first | assumption | omega | (simp_all; done) | (simp_all; omega))) fun ac wd hS => ?_
 refine hS.opsC 6 [0, 0, 0, 0, 100, 0] [1, 4] fun ν3 => seg [(6, pt (ν3 0) 0), (7, vi 0)] [(0, none), (1, some ((ν3 0), .cells [pt b 0, vi (a - 16), vi 16] 25))] [.e (ν3 0), .e (ν3 0), .e (ν3 0)] trivial fun ac wd hS => ?_
 refine list_nil_seq ?_
 refine wp_seq ?_
 refine hS.regS [0, 0] [1, 4, 6, 7] fun _ => seg [(17, vb false)] [(0, none), (1, none)] [] trivial fun ac wd hS => ?_
 refine hS.condF ?_
 refine wp_skip ?_
 refine pop_then ?_
 refine St.ordBeginS [(1, 1), (0, 0), (2, 0), (3, 1), (4, 1), (5, 1), (6, 1), (7, 1)] [((ν1 0), .cells [vi 0, vi 0, vi 0] 58), ((ν3 0), .cells [pt b 0, vi (a - 16), vi 16] 25)] [0, 1] hS fun wd hS => ?_
 have hap := hS.mem.pairs (Hf := [((ν1 0), .cells [vi 0, vi 0, vi 0] 58), ((ν3 0), .cells [pt b 0, vi (a - 16), vi 16] 25)]) (l := [0, 1])
 refine St.ordF [100] [1] [1, 4] (rest := [(0, 0), (2, 0), (3, 1), (4, 1), (5, 1), (6, 1), (7, 1)]) hS hap <| segF [(22, .agg #[pt b 0, vi (a - 16), vi 16])] [.e (ν3 0), .e (ν3 0), .e (ν3 0)] trivial fun ac hS => ?_
 refine hS.ordC 0 126 #[] (obj_record  _  ) ?_
 rintro _ wd ⟨g21, c22, rfl, hc23, hog0, hoh0, hF⟩
 have ho4 : w.heap.size ≤ g21 := Nat.le_trans hS.mem.fr.size hog0
 refine ⟨.agg #[sc g21 0 2 c22], rfl, ?_⟩
 replace hS := (hS.to (hS.mem.outs hF [(g21, .fn 0 2 (ints oRec 0))] ⟨⟨rfl, hoh0, .inr hog0⟩, trivial⟩)).put (d := 21) (v := .agg #[sc g21 0 2 c22]) (by decide)
 clear hF
 refine hS.ordV (l := [0, 1]) ?_
 refine hS.ordC 2 128 #[.agg #[sc g21 0 2 c22], .agg #[pt b 0, vi (a - 16), vi 16]] (rec_All b F m g21 0 c22 oRec (a - 16) 16 _ (Res.keep hr hS.mem.fr) (hS.mem.get 2 g21 (.fn 0 2 (ints oRec 0))) (by first | assumption | exact oRec_ok | exact vby_all ht oRec_ok (by decide) | omega) (by first | assumption | exact oRec_ok | exact vby_all ht oRec_ok (by decide) | omega) (by first | assumption | exact oRec_ok | exact vby_all ht oRec_ok (by decide) | omega) (by first | assumption | exact oRec_ok | exact vby_all ht oRec_ok (by decide) | omega)) ?_
 rintro _ wd ⟨g25, c26, rfl, hc27, hog0, hoh0, hF⟩
 have ho8 : w.heap.size ≤ g25 := Nat.le_trans hS.mem.fr.size hog0
 refine ⟨.tuple #[sc g25 0 2 c26, vi 0], rfl, ?_⟩
 replace hS := (hS.to (hS.mem.outs hF [(g25, .fn 0 2 (u64z (fun i => getW oRec m (a - 16) 16 (i : Int)) 0))] ⟨⟨rfl, hoh0, .inr hog0⟩, trivial⟩)).put (d := 23) (v := .tuple #[sc g25 0 2 c26, vi 0]) (by decide)
 clear hF
 refine hS.ordV (l := [0, 1]) ?_
 refine St.ordF [0, 0, 0, 0, 0] [3, 4, 5, 6, 7] [1, 4] (rest := []) hS hap <| segF [(8, sc g25 0 2 c26)] [] trivial fun ac hS => ?_
 refine ord_nil ?_
 refine St.ordBeginS [(0, 1), (1, 1), (2, 1), (3, 1), (4, 1), (5, 1), (6, 1), (7, 1), (8, 1), (9, 1), (10, 0), (11, 1)] [((ν3 0), .cells [pt b 0, vi (a - 16), vi 16] 25), (g21, .fn 0 2 (ints oRec 0)), (g25, .fn 0 2 (u64z (fun i => getW oRec m (a - 16) 16 (i : Int)) 0))] [1, 2, 3] hS fun wd hS => ?_
 have hap := hS.mem.pairs (Hf := [((ν3 0), .cells [pt b 0, vi (a - 16), vi 16] 25), (g21, .fn 0 2 (ints oRec 0)), (g25, .fn 0 2 (u64z (fun i => getW oRec m (a - 16) 16 (i : Int)) 0))]) (l := [1, 2, 3])
 refine St.ordF [0, 0, 0, fx 200 (vu (orN m a 0)), 0, 0, 0, fx 200 (vu (orN m a 1)), 0, 0] [0, 1, 2, 3, 4, 5, 6, 7, 8, 9] [4] (rest := [(10, 0), (11, 1)]) hS hap <| segF [(35, .agg #[vi a, vi (IntKind.wrap .i64 (orN m a 0)), vi (IntKind.wrap .i64 (orN m a 1))])] [.p ((((u64z (fun i => getW oRec m (a - 16) 16 (i : Int)) 0) 1) : Value) = vu (orN m a 1)), .e g25, .p (0 ≤ 1 ∧ 1 < 2), .p ((((u64z (fun i => getW oRec m (a - 16) 16 (i : Int)) 0) 0) : Value) = vu (orN m a 0)), .e g25, .p (0 ≤ 0 ∧ 0 < 2)] ⟨((u64z_rel (fun i => getW oRec m (a - 16) 16 (i : Int)) 0 1).trans (rfl)), (by first | omega | decide), ((u64z_rel (fun i => getW oRec m (a - 16) 16 (i : Int)) 0 0).trans (rfl)), (by first | omega | decide), trivial⟩ fun ac hS => ?_
 refine St.ord1 10 [0] [4] [1, 2, 3] hS rfl fun _ => seg [] [(0, some ((ν1 0), .cells [vi a, vi (IntKind.wrap .i64 (orN m a 0)), vi (IntKind.wrap .i64 (orN m a 1))] 58)), (1, none), (2, none), (3, none)] [.e (ν1 0), .e (ν1 0), .e (ν1 0)] trivial ⟨by as_aux_lemma => kernel_rfl, fun ac wd hS => ?_⟩
 refine St.ordF [0] [11] [4] (rest := []) hS hap <| segF [(5, vi 0)] [] trivial fun ac hS => ?_
 refine ord_nil ?_
 refine wp_ret ?_
 refine St.retC 0 hS (.tuple #[.agg #[vi a, vi (IntKind.wrap .i64 (orN m a 0)), vi (IntKind.wrap .i64 (orN m a 1))], vi 0]) [.e (ν1 0), .e (ν1 0), .e (ν1 0)] trivial fun hw => ?_
 refine ⟨retd (tuple2 (agg3 (vint ?_) (vint ?_) (vint ?_)) (vint ?_)), hw.fr0⟩
 all_goals (first | exact (or_yes hE).1 | exact (or_yes hE).2.1 | exact (or_yes hE).2.2 | exact hE.symm)

theorem obj_Read (b : Nat) (F : Nat → Prop) (m : AM) (a : Int) (w : World) (hr : (arR b F m).R w) (hav : a ≤ 9223372036854775807) :
    Calls Tryd.prog 39 #[pt b 0, vi a] w fun e w' => e = .returned (.tuple #[.agg #[vi (orA m a), vi (orS m a), vi (orP m a)], vi (orE m a)]) ∧ Fr w w' no no := by
 by_cases ha : a < 16
 · exact obj_Read_lo b F m a w hr ha
 · cases ht : thr m (a - 16) 16 with
   | true => exact obj_Read_ok b F m a w hr (by omega) ht
   | false => exact obj_Read_no b F m a w hr (by omega) ht

set_option maxRecDepth 100000 in
set_option maxHeartbeats 1000000 in
theorem obj_Read_nil (a : Int) (w : World) :
    Calls Tryd.prog 39 #[pnil, vi a] w fun e w' => e = .returned (.tuple #[.agg #[vi 0, vi 0, vi 0], vi 1]) ∧ Fr w w' no no := by
 refine enter (args := [pnil, vi a]) (D := no) (A := []) Tryd.func39 rfl 36 rfl [] (WS.startL trivial) fun ac hS => ?_
 refine hS.regS [0, 0] [0, 1] fun ν1 => seg [(4, pt (ν1 0) 0)] [(0, some ((ν1 0), .cells [vi 0, vi 0, vi 0] 58))] [] trivial fun ac wd hS => ?_
 refine wp_region_seq ?_
 refine hS.opsC 2 [0, 0] [1, 4] fun _ => seg [(11, pnil), (12, vi a)] [(0, none)] [] trivial fun ac wd hS => ?_
 refine hS.call0 125 #[pnil, vi a] 13 (obj_header_nil a _  ) fun ac wd hS => ?_
 refine hS.opsC 6 [0, 0, 0, 0, 100, 0] [1, 4] fun ν3 => seg [(6, pt (ν3 0) 0), (7, vi 1)] [(0, none), (1, some ((ν3 0), .cells [pnil, vi 0, vi 0] 25))] [.e (ν3 0), .e (ν3 0), .e (ν3 0)] trivial fun ac wd hS => ?_
 refine list_nil_seq ?_
 refine wp_seq ?_
 refine hS.regS [0, 0] [1, 4, 6, 7] fun _ => seg [(17, vb true)] [(0, none), (1, none)] [] trivial fun ac wd hS => ?_
 refine hS.condT ?_
 refine hS.regS [0, 0, 0, 0] [4] fun _ => seg [(5, vi 1)] [(0, none)] [.e (ν1 0), .e (ν1 0), .e (ν1 0)] trivial fun ac wd hS => ?_
 refine wp_ret ?_
 refine pop_then_ret ?_
 refine St.retC 0 hS (.tuple #[.agg #[vi 0, vi 0, vi 0], vi 1]) [.e (ν1 0), .e (ν1 0), .e (ν1 0)] trivial fun hw => ?_
 refine ⟨retd rfl, hw.fr0⟩

end Go.Proofs.YtindbpffbjhfaaaDoor.K
