/-
  Walks, printed by w2.py.
-/
import Derived.Test.YtlnecfdbmoilbaaDoorCk
import Derived.Test.YtlnecfdbmoilbaaDoorKy
import Derived.Test.YtlnecfdbmoilbaaDoorProg
namespace Go.Proofs.YtlnecfdbmoilbaaDoor.K
set_option linter.unusedVariables false
set_option linter.unusedSimpArgs false

set_option maxRecDepth 100000 in
set_option maxHeartbeats 1000000 in
theorem ref03_Noughts (n : Int) (w : World) (h0 : 0 ≤ n ∧ n ≤ 1048576) :
    Calls Tryd.prog 25 #[vi n] w fun e w' => e = .returned (.string (bs (fun _ => 0) (Int.toNat n))) ∧ Fr w w' no no := by
 refine enter (args := [vi n]) (D := no) (A := []) Tryd.func25 rfl 6 rfl [] (WS.startL trivial) fun ac hS => ?_
 refine hS.regS [0] [0] fun _ => seg [] [] [] trivial fun ac wd hS => ?_
 refine wp_region_seq ?_
 refine hS.opsC 2 [0, 90] [] fun ν2 => seg [(4, sc (ν2 0) 0 (Int.toNat n) (Int.toNat n))] [(0, some ((ν2 0), .row 5 (Int.toNat n) (Int.toNat n) (bytes (fun _ => 0) 0)))] [.p ((n : Int) = n), .p ((0 : Int) ≤ n ∧ (n : Int) ≤ 2 ^ 32 ∧ 1 ≤ 64)] ⟨rfl, (by omega), trivial⟩ fun ac wd hS => ?_
 refine Runs1.list ?_
 refine St.toStr hS (.tmp 4) 95 9 rfl rfl (by decide) Tryd.underlying95 Tryd.underlying5 Tryd.underlying9 (b := (ν2 0)) (off := 0) (k := (Int.toNat n)) (cp := (Int.toNat n)) (fun j => (fun _ => 0) (0 + j)) (Cells8.row (hS.mem.get 0 (ν2 0) (.row 5 (Int.toNat n) (Int.toNat n) (bytes (fun _ => 0) 0))) (by omega)) fun ac hS => ?_
 replace hS := hS.fix 5 (.string (bs (fun _ => 0) (Int.toNat n))) (vstr (by exact bs_congr fun j hj => rfl))
 refine hS.opsC 1 [0] [] fun _ => seg [(2, .string (bs (fun _ => 0) (Int.toNat n)))] [] [] trivial fun ac wd hS => ?_
 refine list_nil_seq ?_
 refine wp_ret ?_
 refine St.retC 0 hS (.string (bs (fun _ => 0) (Int.toNat n))) [] trivial fun hw => ?_
 refine ⟨retd rfl, hw.fr0⟩

set_option maxRecDepth 100000 in
set_option maxHeartbeats 1000000 in
theorem law03_Light (b : Nat) (o : Nat) (cp : Nat) (l : List Ac) (w : World) (hh0 : HE.holds w b (.fn o (o + l.length * 6) (actsA l o))) (hl : l.length ≤ 9223372036854775807) :
    Calls Tryd.prog 22 #[sc b o l.length cp] w fun e w' => e = .returned (vb (lightB l)) ∧ Fr w w' no no := by
 refine enter (args := [sc b o l.length cp]) (D := no) (A := []) Tryd.func22 rfl 21 rfl [(b, .fn o (o + l.length * 6) (actsA l o))] (WS.startL ⟨⟨rfl, hh0⟩, trivial⟩) fun ac hS => ?_
 refine hS.regS [0] [0] fun _ => seg [] [(0, none)] [] trivial fun ac wd hS => ?_
 refine wp_seq ?_
 refine hS.regS [0, 0, 0] [] fun _ => seg [(5, sc b o l.length cp), (6, vi ((l.length : Nat) : Int)), (7, vi 0)] [(0, none)] [] trivial fun ac wd hS => ?_
 refine wp_block ?_
 refine St.loopC (σ := Int) (fun (x7 : Int) => ⟨[(5, [], sc b o l.length cp), (6, [], vi ((l.length : Nat) : Int)), (7, [], vi x7)], [(b, .fn o (o + l.length * 6) (actsA l o))], [], (0 ≤ x7) ∧ (x7 ≤ (l.length : Int)) ∧ (lightUp l (Int.toNat x7)) ∧ True, l.length - Int.toNat x7⟩) 0 ⟨(by first | omega | exact ⟨by omega, fun i hi => absurd hi (by omega)⟩), (by first | omega | exact ⟨by omega, fun i hi => absurd hi (by omega)⟩), (by first | omega | exact ⟨by omega, fun i hi => absurd hi (by omega)⟩), trivial⟩ hS ?_
 clear hS
 rintro x7 ⟨i0, i1, i2, -⟩ ac wd hS
 replace i0 : 0 ≤ x7 := i0
 replace i1 : x7 ≤ (l.length : Int) := i1
 replace i2 : lightUp l (Int.toNat x7) := i2
 refine hS.regS [0] [5, 6, 7] fun _ => seg [(8, vb (decide ((x7 : Int) < ((l.length : Nat) : Int))))] [(0, none)] [] trivial fun ac wd hS => ?_
 refine wp_seq ?_
 refine hS.condC (decide ((x7 : Int) < ((l.length : Nat) : Int))) (fun hb1o hb1 => ?_) (fun hb1o hb1 => ?_)
 ·
  refine wp_skip ?_
  refine pop_then ?_
  refine wp_seq ?_
  refine wp_block ?_
  refine hS.regS [0, 20, fx 0 (.agg #[v8 ((acAt l (Int.toNat x7)).d), vi ((acAt l (Int.toNat x7)).a), vi ((acAt l (Int.toNat x7)).f), vi ((acAt l (Int.toNat x7)).n), vu ((acAt l (Int.toNat x7)).x), .string ((acAt l (Int.toNat x7)).s)]), 0, 0, 100] [5, 6, 7] fun ν4 => seg [(3, vi x7), (4, pt (ν4 0) 0)] [(0, none), (1, some ((ν4 0), .cells [v8 ((acAt l (Int.toNat x7)).d), vi ((acAt l (Int.toNat x7)).a), vi ((acAt l (Int.toNat x7)).f), vi ((acAt l (Int.toNat x7)).n), vu ((acAt l (Int.toNat x7)).x), .string ((acAt l (Int.toNat x7)).s)] 41))] [.e (ν4 0), .e (ν4 0), .e (ν4 0), .e (ν4 0), .e (ν4 0), .e (ν4 0), .p ((.agg #[((actsA l o) (o + Int.toNat x7 * 6)), ((actsA l o) (o + Int.toNat x7 * 6 + 1)), ((actsA l o) (o + Int.toNat x7 * 6 + 2)), ((actsA l o) (o + Int.toNat x7 * 6 + 3)), ((actsA l o) (o + Int.toNat x7 * 6 + 4)), ((actsA l o) (o + Int.toNat x7 * 6 + 5))] : Value) = .agg #[v8 ((acAt l (Int.toNat x7)).d), vi ((acAt l (Int.toNat x7)).a), vi ((acAt l (Int.toNat x7)).f), vi ((acAt l (Int.toNat x7)).n), vu ((acAt l (Int.toNat x7)).x), .string ((acAt l (Int.toNat x7)).s)]), .e b, .p (o ≤ o + Int.toNat x7 * 6 + 5 ∧ o + Int.toNat x7 * 6 + 5 < (o + l.length * 6)), .e b, .p (o ≤ o + Int.toNat x7 * 6 + 4 ∧ o + Int.toNat x7 * 6 + 4 < (o + l.length * 6)), .e b, .p (o ≤ o + Int.toNat x7 * 6 + 3 ∧ o + Int.toNat x7 * 6 + 3 < (o + l.length * 6)), .e b, .p (o ≤ o + Int.toNat x7 * 6 + 2 ∧ o + Int.toNat x7 * 6 + 2 < (o + l.length * 6)), .e b, .p (o ≤ o + Int.toNat x7 * 6 + 1 ∧ o + Int.toNat x7 * 6 + 1 < (o + l.length * 6)), .e b, .p (o ≤ o + Int.toNat x7 * 6 ∧ o + Int.toNat x7 * 6 < (o + l.length * 6)), .p (0 ≤ x7 ∧ x7 < ((l.length : Nat) : Int))] ⟨(agg6 (actsA_0 l o (Int.toNat x7)) (actsA_1 l o (Int.toNat x7)) (actsA_2 l o (Int.toNat x7)) (actsA_3 l o (Int.toNat x7)) (actsA_4 l o (Int.toNat x7)) (actsA_5 l o (Int.toNat x7))), (by omega), (by omega), (by omega), (by omega), (by omega), (by omega), (by omega), trivial⟩ fun ac wd hS => ?_
  refine hS.regS [0, 0, 0, 3, 103, 3, 3, 80] [5, 6, 7] fun _ => seg [(19, vb ((decide ((50 : Int) ≤ x7)) || (decide ((6000 : Int) < ((ByteArray.size ((acAt l (Int.toNat x7)).s) : Nat) : Int)))))] [(0, none)] [.p ((((decide ((50 : Int) ≤ x7)) = false) ∧ True) → AllP [((ν4 0) : Nat) = (ν4 0)])] ⟨(fun ⟨hc0, _⟩ => by replace hc0 := nrm hc0; exact ⟨rfl, trivial⟩), trivial⟩ fun ac wd hS => ?_
  refine hS.condC ((decide ((50 : Int) ≤ x7)) || (decide ((6000 : Int) < ((ByteArray.size ((acAt l (Int.toNat x7)).s) : Nat) : Int)))) (fun hb2o hb2 => ?_) (fun hb2o hb2 => ?_)
  ·
   refine hS.regS [0] [] fun _ => seg [(2, vb false)] [] [] trivial fun ac wd hS => ?_
   refine wp_ret ?_
   refine pop_block_ret ?_
   refine pop_then_ret ?_
   refine pop_then_ret ?_
   refine pop_block_ret ?_
   refine pop_then_ret ?_
   refine St.retC 0 hS (vb false) [] trivial fun hw => ?_
   refine ⟨retd (vbool ?_), hw.fr0⟩
   all_goals (first | rfl | exact light_no (x := x7) (by omega) (by omega) (by assumption) | exact light_yes (by rw [show l.length = Int.toNat x7 by omega]; exact i2))
  ·
   refine wp_skip ?_
   refine pop_block ?_
   refine pop_then ?_
   refine hS.regC [20, 0] [5, 6] fun _ => seg [(7, vi (x7 + 1))] [(0, none)] [.p (fit .i64 (x7 + 1))] ⟨fit_i64 (by omega), trivial⟩ fun ac wd hS => ?_
   exact pop_then (hS.next (x7 + 1) ⟨(by first | omega | assumption | (simp; done) | (simp; omega)), (by first | omega | assumption | (simp; done) | (simp; omega)), (by exact light_step i2 (by omega) (by first | assumption | omega)), trivial⟩ (by dsimp only; omega))
 ·
  refine wp_exit ?_
  refine pop_then_exit ?_
  refine pop_then_exit ?_
  refine pop_block_hit ?_
  refine pop_then ?_
  refine hS.regS [0] [] fun _ => seg [(2, vb true)] [] [] trivial fun ac wd hS => ?_
  refine wp_ret ?_
  refine St.retC 0 hS (vb true) [] trivial fun hw => ?_
  refine ⟨retd (vbool ?_), hw.fr0⟩
  all_goals (first | rfl | exact light_no (x := x7) (by omega) (by omega) (by assumption) | exact light_yes (by rw [show l.length = Int.toNat x7 by omega]; exact i2))

set_option maxRecDepth 100000 in
set_option maxHeartbeats 1000000 in
theorem law03_Light0 (z : Option Addr) (cp : Nat) (w : World) :
    Calls Tryd.prog 22 #[.slice z 0 cp] w fun e w' => e = .returned (vb true) ∧ Fr w w' no no := by
 refine enter (args := [.slice z 0 cp]) (D := no) (A := []) Tryd.func22 rfl 21 rfl [] (WS.startL trivial) fun ac hS => ?_
 refine hS.regS [0] [0] fun _ => seg [] [] [] trivial fun ac wd hS => ?_
 refine wp_seq ?_
 refine hS.regS [0, 0, 0] [] fun _ => seg [(5, .slice z 0 cp), (6, vi 0), (7, vi 0)] [] [] trivial fun ac wd hS => ?_
 refine wp_block ?_
 refine St.loopC (σ := Int) (fun (x7 : Int) => ⟨[(5, [], .slice z 0 cp), (6, [], vi 0), (7, [], vi x7)], [], [], (0 ≤ x7) ∧ True, 0⟩) 0 ⟨(by omega), trivial⟩ hS ?_
 clear hS
 rintro x7 ⟨i0, -⟩ ac wd hS
 replace i0 : 0 ≤ x7 := i0
 refine hS.regS [0] [5, 6, 7] fun _ => seg [(8, vb (decide ((x7 : Int) < 0)))] [] [] trivial fun ac wd hS => ?_
 refine wp_seq ?_
 refine hS.condK (decide ((x7 : Int) < 0)) false (by exact decide_eq_false (by omega)) ?_
 show Code.wp _ _ _ _ _
 refine wp_exit ?_
 refine pop_then_exit ?_
 refine pop_then_exit ?_
 refine pop_block_hit ?_
 refine pop_then ?_
 refine hS.regS [0] [] fun _ => seg [(2, vb true)] [] [] trivial fun ac wd hS => ?_
 refine wp_ret ?_
 refine St.retC 0 hS (vb true) [] trivial fun hw => ?_
 refine ⟨retd rfl, hw.fr0⟩

end Go.Proofs.YtlnecfdbmoilbaaDoor.K
