/-
  Walks, printed by w2.py.
-/
import Derived.Test.YtdjhdcaanmkblaaDoorVy
import Derived.Test.YtdjhdcaanmkblaaDoorLj
import Derived.Test.YtdjhdcaanmkblaaDoorOz
import Derived.Test.YtdjhdcaanmkblaaDoorProg
namespace Go.Proofs.YtdjhdcaanmkblaaDoor.K
set_option linter.unusedVariables false
set_option linter.unusedSimpArgs false

set_option maxRecDepth 100000 in
set_option maxHeartbeats 1000000 in
theorem law03_LightR (ao9 : Option Addr) (c9 : Nat) (g9 : Nat) (o9 : Nat) (l : List (Int × Int × Int × Int × Int × ByteArray)) (w : World) (hh0 : HE.holds w g9 (.fn o9 (o9 + l.length * 6) (a3V (gtD l) o9))) (hv9 : (l.length = 0 ∨ ao9 = some ⟨g9, o9, none⟩)) :
    Calls Tryd.prog 8 #[.slice ao9 l.length c9] w fun e w' => ∃ (r2 : Bool), e = .returned (vb r2) ∧ (r2 = true → l.length ≤ 50 ∧ ∀ i, i < l.length → (gtD l i).2.2.2.2.2.size ≤ 6000) ∧ Fr w w' no no := by
 refine enter (args := [.slice ao9 l.length c9]) (D := no) (A := []) Tryd.func8 rfl 21 rfl [(g9, .fn o9 (o9 + l.length * 6) (a3V (gtD l) o9))] (WS.startL ⟨⟨rfl, hh0⟩, trivial⟩) fun ac hS => ?_
 refine hS.regS [0] [0] fun _ => seg [] [(0, none)] [] trivial fun ac wd hS => ?_
 refine wp_seq ?_
 refine hS.regS [0, 0, 0] [] fun _ => seg [(5, .slice ao9 l.length c9), (6, vi ((l.length : Nat) : Int)), (7, vi 0)] [(0, none)] [] trivial fun ac wd hS => ?_
 refine wp_block ?_
 refine St.loopC (σ := Int) (fun (x7 : Int) => ⟨[(5, [], .slice ao9 l.length c9), (6, [], vi ((l.length : Nat) : Int)), (7, [], vi x7)], [(g9, .fn o9 (o9 + l.length * 6) (a3V (gtD l) o9))], [], (0 ≤ x7 ∧ x7 ≤ ((l.length : Nat) : Int)) ∧ (x7 ≤ 50) ∧ (∀ k : Nat, (k : Int) < x7 → k < l.length → (gtD l k).2.2.2.2.2.size ≤ 6000) ∧ True, l.length - Int.toNat x7⟩) 0 ⟨(by omega), (by omega), (by intro k_ hk_; omega), trivial⟩ hS ?_
 clear hS
 rintro x7 ⟨i0, i2, i3, -⟩ ac wd hS
 replace i0 : 0 ≤ x7 ∧ x7 ≤ ((l.length : Nat) : Int) := i0
 replace i2 : x7 ≤ 50 := i2
 replace i3 : ∀ k : Nat, (k : Int) < x7 → k < l.length → (gtD l k).2.2.2.2.2.size ≤ 6000 := i3
 refine hS.regS [0] [5, 6, 7] fun _ => seg [(8, vb (decide ((x7 : Int) < ((l.length : Nat) : Int))))] [(0, none)] [] trivial fun ac wd hS => ?_
 refine wp_seq ?_
 refine hS.condC (decide ((x7 : Int) < ((l.length : Nat) : Int))) (fun hb1o hb1 => ?_) (fun hb1o hb1 => ?_)
 ·
  refine wp_skip ?_
  refine pop_then ?_
  refine wp_seq ?_
  refine wp_block ?_
  obtain rfl : ao9 = some ⟨g9, o9, none⟩ := Or.resolve_left hv9 (by omega)
  refine hS.regS [0, 20, fx 0 (.agg #[v8 (((gtD l) (Int.toNat x7)).1), vi (((gtD l) (Int.toNat x7)).2.1), vi (((gtD l) (Int.toNat x7)).2.2.1), vi (((gtD l) (Int.toNat x7)).2.2.2.1), vu (((gtD l) (Int.toNat x7)).2.2.2.2.1), .string (((gtD l) (Int.toNat x7)).2.2.2.2.2)]), 0, 0, 100] [5, 6, 7] fun ν4 => seg [(3, vi x7), (4, pt (ν4 0) 0)] [(0, none), (1, some ((ν4 0), .cells [v8 (((gtD l) (Int.toNat x7)).1), vi (((gtD l) (Int.toNat x7)).2.1), vi (((gtD l) (Int.toNat x7)).2.2.1), vi (((gtD l) (Int.toNat x7)).2.2.2.1), vu (((gtD l) (Int.toNat x7)).2.2.2.2.1), .string (((gtD l) (Int.toNat x7)).2.2.2.2.2)] 36))] [.e (ν4 0), .e (ν4 0), .e (ν4 0), .e (ν4 0), .e (ν4 0), .e (ν4 0), .p ((.agg #[((a3V (gtD l) o9) (o9 + Int.toNat x7 * 6)), ((a3V (gtD l) o9) (o9 + Int.toNat x7 * 6 + 1)), ((a3V (gtD l) o9) (o9 + Int.toNat x7 * 6 + 2)), ((a3V (gtD l) o9) (o9 + Int.toNat x7 * 6 + 3)), ((a3V (gtD l) o9) (o9 + Int.toNat x7 * 6 + 4)), ((a3V (gtD l) o9) (o9 + Int.toNat x7 * 6 + 5))] : Value) = .agg #[v8 (((gtD l) (Int.toNat x7)).1), vi (((gtD l) (Int.toNat x7)).2.1), vi (((gtD l) (Int.toNat x7)).2.2.1), vi (((gtD l) (Int.toNat x7)).2.2.2.1), vu (((gtD l) (Int.toNat x7)).2.2.2.2.1), .string (((gtD l) (Int.toNat x7)).2.2.2.2.2)]), .e g9, .p (o9 ≤ o9 + Int.toNat x7 * 6 + 5 ∧ o9 + Int.toNat x7 * 6 + 5 < (o9 + l.length * 6)), .e g9, .p (o9 ≤ o9 + Int.toNat x7 * 6 + 4 ∧ o9 + Int.toNat x7 * 6 + 4 < (o9 + l.length * 6)), .e g9, .p (o9 ≤ o9 + Int.toNat x7 * 6 + 3 ∧ o9 + Int.toNat x7 * 6 + 3 < (o9 + l.length * 6)), .e g9, .p (o9 ≤ o9 + Int.toNat x7 * 6 + 2 ∧ o9 + Int.toNat x7 * 6 + 2 < (o9 + l.length * 6)), .e g9, .p (o9 ≤ o9 + Int.toNat x7 * 6 + 1 ∧ o9 + Int.toNat x7 * 6 + 1 < (o9 + l.length * 6)), .e g9, .p (o9 ≤ o9 + Int.toNat x7 * 6 ∧ o9 + Int.toNat x7 * 6 < (o9 + l.length * 6)), .p ((0 : Int) ≤ x7 ∧ (x7 : Int) < ((l.length : Nat) : Int))] ⟨(agg6 (a3V_0 (gtD l) o9 (Int.toNat x7)) (a3V_1 (gtD l) o9 (Int.toNat x7)) (a3V_2 (gtD l) o9 (Int.toNat x7)) (a3V_3 (gtD l) o9 (Int.toNat x7)) (a3V_4 (gtD l) o9 (Int.toNat x7)) (a3V_5 (gtD l) o9 (Int.toNat x7))), (by omega), (by omega), (by omega), (by omega), (by omega), (by omega), (by omega), trivial⟩ fun ac wd hS => ?_
  refine hS.regS [0, 0, 0, 3, 103, 3, 3, 80] [5, 6, 7] fun _ => seg [(19, vb ((decide ((50 : Int) ≤ x7)) || (decide ((6000 : Int) < ((ByteArray.size (((gtD l) (Int.toNat x7)).2.2.2.2.2) : Nat) : Int)))))] [(0, none)] [.p ((((decide ((50 : Int) ≤ x7)) = false) ∧ True) → AllP [((ν4 0) : Nat) = (ν4 0)])] ⟨(fun ⟨hc0, _⟩ => by replace hc0 := nrm hc0; exact ⟨rfl, trivial⟩), trivial⟩ fun ac wd hS => ?_
  refine hS.condC ((decide ((50 : Int) ≤ x7)) || (decide ((6000 : Int) < ((ByteArray.size (((gtD l) (Int.toNat x7)).2.2.2.2.2) : Nat) : Int)))) (fun hb2o hb2 => ?_) (fun hb2o hb2 => ?_)
  ·
   refine hS.regS [0] [] fun _ => seg [(2, vb false)] [] [] trivial fun ac wd hS => ?_
   refine wp_ret ?_
   refine pop_block_ret ?_
   refine pop_then_ret ?_
   refine pop_then_ret ?_
   refine pop_block_ret ?_
   refine pop_then_ret ?_
   refine St.retC 0 hS (vb false) [] trivial fun hw => ?_
   refine ⟨false, retd rfl, ?_, hw.fr0⟩
   all_goals (first | rfl | (intro h_; exact absurd h_ (by decide)) | exact fun _ => ⟨by omega, fun i_ hi_ => i3 i_ (by omega) hi_⟩)
  ·
   refine wp_skip ?_
   refine pop_block ?_
   refine pop_then ?_
   refine hS.regC [20, 0] [5, 6] fun _ => seg [(7, vi (x7 + 1))] [(0, none)] [.p (fit .i64 (x7 + 1))] ⟨fit_i64 (by omega), trivial⟩ fun ac wd hS => ?_
   exact pop_then (hS.next (x7 + 1) ⟨(by first | omega | assumption | (simp; done) | (simp; omega)), (by first | omega | assumption | (simp; done) | (simp; omega)), (by exact fun k_ h1_ h2_ => by rcases Int.lt_or_le (k_ : Int) x7 with h3 | h3; exact i3 k_ h3 h2_; rw [show k_ = Int.toNat x7 by omega]; omega), trivial⟩ (by dsimp only; omega))
 ·
  refine wp_exit ?_
  refine pop_then_exit ?_
  refine pop_then_exit ?_
  refine pop_block_hit ?_
  refine pop_then ?_
  refine hS.regS [0] [] fun _ => seg [(2, vb true)] [] [] trivial fun ac wd hS => ?_
  refine wp_ret ?_
  refine St.retC 0 hS (vb true) [] trivial fun hw => ?_
  refine ⟨true, retd rfl, ?_, hw.fr0⟩
  all_goals (first | rfl | (intro h_; exact absurd h_ (by decide)) | exact fun _ => ⟨by omega, fun i_ hi_ => i3 i_ (by omega) hi_⟩)

end Go.Proofs.YtdjhdcaanmkblaaDoor.K
