/-
  Walks, printed by w2.py.
-/
import Derived.Test.YtnbkafnikpbmbaaDoorBz
import Derived.Test.YtnbkafnikpbmbaaDoorLj
import Derived.Test.YtnbkafnikpbmbaaDoorProg
namespace Go.Proofs.YtnbkafnikpbmbaaDoor.K
set_option linter.unusedVariables false
set_option linter.unusedSimpArgs false

set_option maxRecDepth 100000 in
set_option maxHeartbeats 1000000 in
theorem law02_BitsPlay (length : Int) (ao7 : Option Addr) (c7 : Nat) (g7 : Nat) (o7 : Nat) (l : List (Bool × Int × Int)) (w : World) (hh0 : HE.holds w 0 (.fn 0 64 dbT)) (hh1 : HE.holds w g7 (.fn o7 (o7 + l.length * 3) (a2V (gtD l) o7))) (hv7 : (l.length = 0 ∨ ao7 = some ⟨g7, o7, none⟩)) :
    Calls Tryd.prog 4 #[vi length, .slice ao7 l.length c7] w fun e w' => e = .returned (vb true) ∧ Fr w w' no no := by
 have hcl := capN_le (imax 0 (imin length 300))
 refine enter (args := [vi length, .slice ao7 l.length c7]) (D := no) (A := []) Tryd.func4 rfl 74 rfl [(0, .fn 0 64 dbT), (g7, .fn o7 (o7 + l.length * 3) (a2V (gtD l) o7))] (WS.startL ⟨⟨rfl, hh0⟩, ⟨rfl, hh1⟩, trivial⟩) fun ac hS => ?_
 refine hS.regS [0] [0, 1] fun _ => seg [] [(0, none), (1, none)] [] trivial fun ac wd hS => ?_
 refine wp_seq ?_
 refine wp_region_seq ?_
 refine hS.call0 13 #[] 13 (law02_awake  _ (hS.mem.get 0 0 (.fn 0 64 dbT)) ) fun ac wd hS => ?_
 refine hS.opsC 1 [0] [0, 1] fun _ => seg [(14, vb false)] [(0, none), (1, none)] [] trivial fun ac wd hS => ?_
 refine list_nil_seq ?_
 refine hS.condF ?_
 refine wp_skip ?_
 refine pop_then ?_
 refine wp_seq ?_
 refine hS.regS [0, 0, 0] [0, 1] fun _ => seg [(17, vb (decide ((60 : Int) < ((l.length : Nat) : Int))))] [(0, none), (1, none)] [] trivial fun ac wd hS => ?_
 refine hS.condC (decide ((60 : Int) < ((l.length : Nat) : Int))) (fun hb1o hb1 => ?_) (fun hb1o hb1 => ?_)
 ·
  refine hS.regS [0] [] fun _ => seg [(4, vb true)] [(0, none)] [] trivial fun ac wd hS => ?_
  refine wp_ret ?_
  refine pop_then_ret ?_
  refine St.retC 0 hS (vb true) [] trivial fun hw => ?_
  refine ⟨retd rfl, hw.fr0⟩
 ·
  refine wp_skip ?_
  refine pop_then ?_
  refine wp_seq ?_
  refine wp_region_seq ?_
  refine hS.opsC 1 [0] [0, 1] fun _ => seg [(18, vi length)] [(0, none), (1, none)] [] trivial fun ac wd hS => ?_
  refine hS.callC 14 #[vi length] (bits_New length _  ) ?_
  rintro _ wd ⟨g22, c23, rfl, hog0, hoh0, hF⟩
  have ho4 : w.heap.size ≤ g22 := Nat.le_trans hS.mem.fr.size hog0
  refine ⟨.agg #[vi ((capN length : Nat) : Int), sc g22 0 ((capN length + 63) / 64) c23], rfl, ?_⟩
  replace hS := (hS.to (hS.mem.outs hF [(g22, .fn 0 (0 + ((capN length + 63) / 64)) (u64s (fun _ => 0) 0))] ⟨⟨rfl, hoh0, .inr hog0⟩, trivial⟩)).put (d := 19) (v := .agg #[vi ((capN length : Nat) : Int), sc g22 0 ((capN length + 63) / 64) c23]) (by decide)
  clear hF
  refine hS.call0 19 #[.agg #[vi ((capN length : Nat) : Int), sc g22 0 ((capN length + 63) / 64) c23]] 20 (bits_Len_ g22 0 c23 ((capN length + 63) / 64) (capN length) _  ) fun ac wd hS => ?_
  refine hS.opsC 1 [0] [0, 1, 20] fun _ => seg [(21, vi length)] [(0, none), (1, none)] [] trivial fun ac wd hS => ?_
  refine hS.callC 20 #[vi length] (ref02_New length _  ) ?_
  rintro _ wd ⟨g25, c26, rfl, hog0, hoh0, hF⟩
  have ho7 : w.heap.size ≤ g25 := Nat.le_trans hS.mem.fr.size hog0
  refine ⟨sc g25 0 (capN length) c26, rfl, ?_⟩
  replace hS := (hS.to (hS.mem.outs hF [(g25, .fn 0 (0 + (capN length)) (boolsV (fun _ => false) 0))] ⟨⟨rfl, hoh0, .inr hog0⟩, trivial⟩)).put (d := 22) (v := sc g25 0 (capN length) c26) (by decide)
  clear hF
  refine hS.opsC 2 [0, 0] [0, 1] fun _ => seg [(24, vb (((((capN length) : Nat) : Int) : Int) != (((capN length) : Nat) : Int)))] [(0, none), (1, none)] [] trivial fun ac wd hS => ?_
  refine list_nil_seq ?_
  refine hS.condK (((((capN length) : Nat) : Int) : Int) != (((capN length) : Nat) : Int)) false (by simp) ?_
  show Code.wp _ _ _ _ _
  refine wp_skip ?_
  refine pop_then ?_
  refine hS.regS [0, 0, 0, 0] [1] fun _ => seg [(5, vi (imax 0 (imin length 300)))] [(0, none), (1, none)] [] trivial fun ac wd hS => ?_
  refine wp_region_seq ?_
  refine hS.opsC 1 [0] [1, 5] fun _ => seg [(28, vi (imax 0 (imin length 300)))] [(0, none), (1, none)] [] trivial fun ac wd hS => ?_
  refine hS.callC 14 #[vi (imax 0 (imin length 300))] (bits_New (imax 0 (imin length 300)) _  ) ?_
  rintro _ wd ⟨g28, c29, rfl, hog0, hoh0, hF⟩
  have ho10 : w.heap.size ≤ g28 := Nat.le_trans hS.mem.fr.size hog0
  refine ⟨.agg #[vi ((capN (imax 0 (imin length 300)) : Nat) : Int), sc g28 0 ((capN (imax 0 (imin length 300)) + 63) / 64) c29], rfl, ?_⟩
  replace hS := (hS.to (hS.mem.outs hF [(g28, .fn 0 (0 + ((capN (imax 0 (imin length 300)) + 63) / 64)) (u64s (fun _ => 0) 0))] ⟨⟨rfl, hoh0, .inr hog0⟩, trivial⟩)).put (d := 29) (v := .agg #[vi ((capN (imax 0 (imin length 300)) : Nat) : Int), sc g28 0 ((capN (imax 0 (imin length 300)) + 63) / 64) c29]) (by decide)
  clear hF
  refine hS.opsC 1 [0] [1, 29] fun _ => seg [(30, vi (imax 0 (imin length 300)))] [(0, none), (1, none), (2, none)] [] trivial fun ac wd hS => ?_
  refine hS.callC 20 #[vi (imax 0 (imin length 300))] (ref02_New (imax 0 (imin length 300)) _  ) ?_
  rintro _ wd ⟨g211, c212, rfl, hog0, hoh0, hF⟩
  have ho13 : w.heap.size ≤ g211 := Nat.le_trans hS.mem.fr.size hog0
  refine ⟨sc g211 0 (capN (imax 0 (imin length 300))) c212, rfl, ?_⟩
  replace hS := (hS.to (hS.mem.outs hF [(g211, .fn 0 (0 + (capN (imax 0 (imin length 300)))) (boolsV (fun _ => false) 0))] ⟨⟨rfl, hoh0, .inr hog0⟩, trivial⟩)).put (d := 31) (v := sc g211 0 (capN (imax 0 (imin length 300))) c212) (by decide)
  clear hF
  refine hS.opsC 3 [0, 400, 0] [1] fun ν11 => seg [(6, pt (ν11 0) 0), (7, sc g211 0 (capN (imax 0 (imin length 300))) c212)] [(0, none), (1, none), (2, none), (3, none), (4, some ((ν11 0), .cells [vi ((capN (imax 0 (imin length 300)) : Nat) : Int), sc g28 0 ((capN (imax 0 (imin length 300)) + 63) / 64) c29] 26))] [.e (ν11 0), .e (ν11 0)] trivial fun ac wd hS => ?_
  refine list_nil_seq ?_
  refine wp_seq ?_
  refine hS.regS [0, 0, 0] [6, 7] fun _ => seg [(32, .slice ao7 l.length c7), (33, vi ((l.length : Nat) : Int)), (34, vi 0)] [(0, none), (1, none), (2, none), (3, none), (4, none)] [] trivial fun ac wd hS => ?_
  refine wp_block ?_
  refine St.loopC (σ := Int × Nat × Nat × Nat × (Nat → Nat) × (Nat → Bool) × Nat × Nat × Nat) (fun (x : Int × Nat × Nat × Nat × (Nat → Nat) × (Nat → Bool) × Nat × Nat × Nat) => match x with | (x34, gs, os, cs, wsx, px, gq, oq, cq) => ⟨[(6, [], pt (ν11 0) 0), (7, [], sc gq oq (capN (imax 0 (imin length 300))) cq), (32, [], .slice ao7 l.length c7), (33, [], vi ((l.length : Nat) : Int)), (34, [], vi x34)], [(0, .fn 0 64 dbT), (g7, .fn o7 (o7 + l.length * 3) (a2V (gtD l) o7)), (gs, .fn os (os + (((capN (imax 0 (imin length 300))) + 63) / 64)) (u64s wsx os)), (gq, .fn oq (oq + (capN (imax 0 (imin length 300)))) (boolsV px oq)), ((ν11 0), .cells [vi (((capN (imax 0 (imin length 300))) : Nat) : Int), sc gs os (((capN (imax 0 (imin length 300))) + 63) / 64) cs] 26)], [], (0 ≤ x34 ∧ x34 ≤ (l.length : Int)) ∧ (Words wsx (((capN (imax 0 (imin length 300))) + 63) / 64) (capN (imax 0 (imin length 300))) px) ∧ True, l.length - Int.toNat x34⟩) (0, g28, 0, c29, (fun _ => 0), (fun _ => false), g211, 0, c212) ⟨(by first | omega | exact words_none _), (by first | omega | exact words_none _), trivial⟩ hS ?_
  clear hS
  rintro ⟨x34, gs, os, cs, wsx, px, gq, oq, cq⟩ ⟨i0, i1, -⟩ ac wd hS
  replace i0 : 0 ≤ x34 ∧ x34 ≤ (l.length : Int) := i0
  replace i1 : Words wsx (((capN (imax 0 (imin length 300))) + 63) / 64) (capN (imax 0 (imin length 300))) px := i1
  refine hS.regS [0] [6, 7, 32, 33, 34] fun _ => seg [(35, vb (decide ((x34 : Int) < ((l.length : Nat) : Int))))] [(0, none), (1, none), (2, none), (3, none), (4, none)] [] trivial fun ac wd hS => ?_
  refine wp_seq ?_
  refine hS.condC (decide ((x34 : Int) < ((l.length : Nat) : Int))) (fun hb14o hb14 => ?_) (fun hb14o hb14 => ?_)
  ·
   refine wp_skip ?_
   refine pop_then ?_
   refine wp_seq ?_
   refine wp_block ?_
   obtain rfl : ao7 = some ⟨g7, o7, none⟩ := Or.resolve_left hv7 (by omega)
   refine hS.regS [20, fx 100 (.agg #[vb (((gtD l) (Int.toNat x34)).1), vi (((gtD l) (Int.toNat x34)).2.1), vi (((gtD l) (Int.toNat x34)).2.2)]), 0, 500] [6, 7, 32, 33, 34] fun ν14 => seg [(9, pt (ν14 0) 0)] [(0, none), (1, none), (2, none), (3, none), (4, none), (5, some ((ν14 0), .cells [vb (((gtD l) (Int.toNat x34)).1), vi (((gtD l) (Int.toNat x34)).2.1), vi (((gtD l) (Int.toNat x34)).2.2)] 29))] [.e (ν14 0), .e (ν14 0), .e (ν14 0), .p ((.agg #[((a2V (gtD l) o7) (o7 + Int.toNat x34 * 3)), ((a2V (gtD l) o7) (o7 + Int.toNat x34 * 3 + 1)), ((a2V (gtD l) o7) (o7 + Int.toNat x34 * 3 + 2))] : Value) = .agg #[vb (((gtD l) (Int.toNat x34)).1), vi (((gtD l) (Int.toNat x34)).2.1), vi (((gtD l) (Int.toNat x34)).2.2)]), .e g7, .p (o7 ≤ o7 + Int.toNat x34 * 3 + 2 ∧ o7 + Int.toNat x34 * 3 + 2 < (o7 + l.length * 3)), .e g7, .p (o7 ≤ o7 + Int.toNat x34 * 3 + 1 ∧ o7 + Int.toNat x34 * 3 + 1 < (o7 + l.length * 3)), .e g7, .p (o7 ≤ o7 + Int.toNat x34 * 3 ∧ o7 + Int.toNat x34 * 3 < (o7 + l.length * 3)), .p ((0 : Int) ≤ x34 ∧ (x34 : Int) < ((l.length : Nat) : Int))] ⟨(agg3 (a2V_0 (gtD l) o7 (Int.toNat x34)) (a2V_1 (gtD l) o7 (Int.toNat x34)) (a2V_2 (gtD l) o7 (Int.toNat x34))), (by omega), (by omega), (by omega), (by omega), trivial⟩ fun ac wd hS => ?_
   refine wp_region_seq ?_
   refine hS.opsC 3 [400, 0, 500] [6, 7, 9, 32, 33, 34] fun _ => seg [(39, .agg #[vi (((capN (imax 0 (imin length 300))) : Nat) : Int), sc gs os (((capN (imax 0 (imin length 300))) + 63) / 64) cs]), (40, sc gq oq (capN (imax 0 (imin length 300))) cq), (41, .agg #[vb (((gtD l) (Int.toNat x34)).1), vi (((gtD l) (Int.toNat x34)).2.1), vi (((gtD l) (Int.toNat x34)).2.2)])] [(0, none), (1, none), (2, none), (3, none), (4, none), (5, none)] [.e (ν14 0), .e (ν14 0), .e (ν14 0), .e (ν11 0), .e (ν11 0)] trivial fun ac wd hS => ?_
   refine hS.callC 15 #[.agg #[vi (((capN (imax 0 (imin length 300))) : Nat) : Int), sc gs os (((capN (imax 0 (imin length 300))) + 63) / 64) cs], sc gq oq (capN (imax 0 (imin length 300))) cq, .agg #[vb (((gtD l) (Int.toNat x34)).1), vi (((gtD l) (Int.toNat x34)).2.1), vi (((gtD l) (Int.toNat x34)).2.2)]] (law02_done gs os cs (((capN (imax 0 (imin length 300))) + 63) / 64) wsx (capN (imax 0 (imin length 300))) gq oq cq (((gtD l) (Int.toNat x34)).1) (((gtD l) (Int.toNat x34)).2.1) (((gtD l) (Int.toNat x34)).2.2) px _ (hS.mem.get 2 gs (.fn os (os + (((capN (imax 0 (imin length 300))) + 63) / 64)) (u64s wsx os))) (hS.mem.get 3 gq (.fn oq (oq + (capN (imax 0 (imin length 300)))) (boolsV px oq))) (by exact i1) (by exact capN_le _)) ?_
   rintro _ wd ⟨g215, o216, c217, ws218, g319, o320, c321, rfl, hW222, hog0, hoh0, hog1, hoh1, hF⟩
   have ho23 : g215 = gs ∨ w.heap.size ≤ g215 := by rcases hog0 with hx | hx; rw [hx]; exact (.inl rfl); exact .inr (Nat.le_trans hS.mem.fr.size hx)
   have ho24 : g319 = gq ∨ w.heap.size ≤ g319 := by rcases hog1 with hx | hx; rw [hx]; exact (.inl rfl); exact .inr (Nat.le_trans hS.mem.fr.size hx)
   refine ⟨.tuple #[.agg #[vi (((capN (imax 0 (imin length 300))) : Nat) : Int), sc g215 o216 (((capN (imax 0 (imin length 300))) + 63) / 64) c217], sc g319 o320 (capN (imax 0 (imin length 300))) c321, vb true], rfl, ?_⟩
   replace hS := (hS.to (hS.mem.outs hF [(g215, .fn o216 (o216 + (((capN (imax 0 (imin length 300))) + 63) / 64)) (u64s ws218 o216)), (g319, .fn o320 (o320 + (capN (imax 0 (imin length 300)))) (boolsV (trn px (capN (imax 0 (imin length 300))) (((gtD l) (Int.toNat x34)).2.1) (((gtD l) (Int.toNat x34)).2.2) (((gtD l) (Int.toNat x34)).1)) o320))] ⟨⟨rfl, hoh0, hog0.imp (fun e => ⟨2, .fn os (os + (((capN (imax 0 (imin length 300))) + 63) / 64)) (u64s wsx os), by rw [e]; rfl, rfl⟩) id⟩, ⟨rfl, hoh1, hog1.imp (fun e => ⟨3, .fn oq (oq + (capN (imax 0 (imin length 300)))) (boolsV px oq), by rw [e]; rfl, rfl⟩) id⟩, trivial⟩)).put (d := 42) (v := .tuple #[.agg #[vi (((capN (imax 0 (imin length 300))) : Nat) : Int), sc g215 o216 (((capN (imax 0 (imin length 300))) + 63) / 64) c217], sc g319 o320 (capN (imax 0 (imin length 300))) c321, vb true]) (by decide)
   clear hF
   refine hS.opsC 8 [0, 0, 0, 0, 0, 800, 0, 0] [6, 7, 9, 32, 33, 34] fun ν16 => seg [(10, pt (ν16 0) 0), (11, sc g319 o320 (capN (imax 0 (imin length 300))) c321), (12, vb true)] [(0, none), (1, none), (2, none), (3, none), (4, none), (5, none), (6, none), (7, none), (8, some ((ν16 0), .cells [vi (((capN (imax 0 (imin length 300))) : Nat) : Int), sc g215 o216 (((capN (imax 0 (imin length 300))) + 63) / 64) c217] 26))] [.e (ν16 0), .e (ν16 0)] trivial fun ac wd hS => ?_
   refine list_nil_seq ?_
   refine wp_seq ?_
   refine wp_region_seq ?_
   refine hS.opsC 3 [0, 0, 0] [6, 7, 9, 10, 11, 32, 33, 34] fun _ => seg [(48, vb false)] [(0, none), (1, none), (2, none), (3, none), (4, none), (5, none), (6, none), (7, none), (8, none)] [] trivial fun ac wd hS => ?_
   refine hS.opsC 3 [801, 1, 501] [6, 7, 9, 10, 11, 32, 33, 34, 48] fun _ => seg [(49, .agg #[vi (((capN (imax 0 (imin length 300))) : Nat) : Int), sc g215 o216 (((capN (imax 0 (imin length 300))) + 63) / 64) c217]), (50, sc g319 o320 (capN (imax 0 (imin length 300))) c321), (51, .agg #[vb (((gtD l) (Int.toNat x34)).1), vi (((gtD l) (Int.toNat x34)).2.1), vi (((gtD l) (Int.toNat x34)).2.2)])] [(0, none), (1, none), (2, none), (3, none), (4, none), (5, none), (6, none), (7, none), (8, none)] [.t false, .e (ν14 0), .e (ν14 0), .e (ν14 0), .t false, .t false, .e (ν16 0), .e (ν16 0)] trivial fun ac wd hS => ?_
   refine hS.callG false 21 #[.agg #[vi (((capN (imax 0 (imin length 300))) : Nat) : Int), sc g215 o216 (((capN (imax 0 (imin length 300))) + 63) / 64) c217], sc g319 o320 (capN (imax 0 (imin length 300))) c321, .agg #[vb (((gtD l) (Int.toNat x34)).1), vi (((gtD l) (Int.toNat x34)).2.1), vi (((gtD l) (Int.toNat x34)).2.2)]] (law02_told g215 o216 c217 (((capN (imax 0 (imin length 300))) + 63) / 64) ws218 (capN (imax 0 (imin length 300))) g319 o320 c321 (((gtD l) (Int.toNat x34)).1) (((gtD l) (Int.toNat x34)).2.1) (((gtD l) (Int.toNat x34)).2.2) (trn px (capN (imax 0 (imin length 300))) (((gtD l) (Int.toNat x34)).2.1) (((gtD l) (Int.toNat x34)).2.2) (((gtD l) (Int.toNat x34)).1)) _ (hS.mem.get 0 0 (.fn 0 64 dbT)) (hS.mem.get 6 g215 (.fn o216 (o216 + (((capN (imax 0 (imin length 300))) + 63) / 64)) (u64s ws218 o216))) (hS.mem.get 7 g319 (.fn o320 (o320 + (capN (imax 0 (imin length 300)))) (boolsV (trn px (capN (imax 0 (imin length 300))) (((gtD l) (Int.toNat x34)).2.1) (((gtD l) (Int.toNat x34)).2.2) (((gtD l) (Int.toNat x34)).1)) o320))) (by assumption) (by exact capN_le _)) ?_
   rintro _ wd ⟨rfl, hF⟩
   refine ⟨vb true, rfl, ?_⟩
   replace hS := (hS.to (hS.mem.keep0 hF)).put (d := 52) (v := vb true) (by decide)
   clear hF
   refine hS.opsC 3 [1, 60, 0] [6, 7, 9, 10, 11, 32, 33, 34] fun _ => seg [(55, vb false)] [(0, none), (1, none), (2, none), (3, none), (4, none), (5, none), (6, none), (7, none), (8, none)] [.t false, .t false] trivial fun ac wd hS => ?_
   refine hS.opsC 3 [401, 1, 501] [6, 7, 10, 11, 32, 33, 34, 55] fun _ => seg [(56, .agg #[vi (((capN (imax 0 (imin length 300))) : Nat) : Int), sc gs os (((capN (imax 0 (imin length 300))) + 63) / 64) cs]), (57, sc gq oq (capN (imax 0 (imin length 300))) cq), (58, .agg #[vb (((gtD l) (Int.toNat x34)).1), vi (((gtD l) (Int.toNat x34)).2.1), vi (((gtD l) (Int.toNat x34)).2.2)])] [(0, none), (1, none), (2, none), (3, none), (4, none), (6, none), (7, none), (8, none)] [.t false, .e (ν14 0), .e (ν14 0), .e (ν14 0), .t false, .t false, .e (ν11 0), .e (ν11 0)] trivial fun ac wd hS => ?_
   refine hS.callG false 21 #[.agg #[vi (((capN (imax 0 (imin length 300))) : Nat) : Int), sc gs os (((capN (imax 0 (imin length 300))) + 63) / 64) cs], sc gq oq (capN (imax 0 (imin length 300))) cq, .agg #[vb (((gtD l) (Int.toNat x34)).1), vi (((gtD l) (Int.toNat x34)).2.1), vi (((gtD l) (Int.toNat x34)).2.2)]] (law02_told gs os cs (((capN (imax 0 (imin length 300))) + 63) / 64) wsx (capN (imax 0 (imin length 300))) gq oq cq (((gtD l) (Int.toNat x34)).1) (((gtD l) (Int.toNat x34)).2.1) (((gtD l) (Int.toNat x34)).2.2) px _ (hS.mem.get 0 0 (.fn 0 64 dbT)) (hS.mem.get 2 gs (.fn os (os + (((capN (imax 0 (imin length 300))) + 63) / 64)) (u64s wsx os))) (hS.mem.get 3 gq (.fn oq (oq + (capN (imax 0 (imin length 300)))) (boolsV px oq))) (by assumption) (by exact capN_le _)) ?_
   rintro _ wd ⟨rfl, hF⟩
   refine ⟨vb true, rfl, ?_⟩
   replace hS := (hS.to (hS.mem.keep0 hF)).put (d := 59) (v := vb true) (by decide)
   clear hF
   refine hS.opsC 3 [1, 60, 0] [6, 7, 10, 11, 32, 33, 34] fun _ => seg [(62, vb false)] [(0, none), (1, none), (2, none), (3, none), (4, none), (5, none), (6, none), (7, none)] [.t false, .t false] trivial fun ac wd hS => ?_
   refine hS.opsC 2 [401, 701] [6, 7, 10, 11, 32, 33, 34, 62] fun _ => seg [(63, .agg #[vi (((capN (imax 0 (imin length 300))) : Nat) : Int), sc gs os (((capN (imax 0 (imin length 300))) + 63) / 64) cs]), (64, .agg #[vi (((capN (imax 0 (imin length 300))) : Nat) : Int), sc g215 o216 (((capN (imax 0 (imin length 300))) + 63) / 64) c217])] [(0, none), (1, none), (2, none), (3, none), (4, none), (5, none), (6, none), (7, none)] [.t false, .e (ν16 0), .e (ν16 0), .t false, .e (ν11 0), .e (ν11 0)] trivial fun ac wd hS => ?_
   refine hS.callG false 22 #[.agg #[vi (((capN (imax 0 (imin length 300))) : Nat) : Int), sc gs os (((capN (imax 0 (imin length 300))) + 63) / 64) cs], .agg #[vi (((capN (imax 0 (imin length 300))) : Nat) : Int), sc g215 o216 (((capN (imax 0 (imin length 300))) + 63) / 64) c217]] (bits_Same gs os cs (((capN (imax 0 (imin length 300))) + 63) / 64) wsx (capN (imax 0 (imin length 300))) g215 o216 c217 (((capN (imax 0 (imin length 300))) + 63) / 64) ws218 (capN (imax 0 (imin length 300))) px (trn px (capN (imax 0 (imin length 300))) (((gtD l) (Int.toNat x34)).2.1) (((gtD l) (Int.toNat x34)).2.2) (((gtD l) (Int.toNat x34)).1)) _ (hS.mem.get 2 gs (.fn os (os + (((capN (imax 0 (imin length 300))) + 63) / 64)) (u64s wsx os))) (hS.mem.get 5 g215 (.fn o216 (o216 + (((capN (imax 0 (imin length 300))) + 63) / 64)) (u64s ws218 o216))) (by omega)) ?_
   rintro _ wd ⟨rfl, hF⟩
   refine ⟨vb (((((capN (imax 0 (imin length 300))) : Nat) : Int) == (((capN (imax 0 (imin length 300))) : Nat) : Int)) && eqW (((capN (imax 0 (imin length 300))) + 63) / 64) (((capN (imax 0 (imin length 300))) + 63) / 64) wsx ws218), rfl, ?_⟩
   replace hS := (hS.to (hS.mem.keep0 hF)).put (d := 65) (v := vb (((((capN (imax 0 (imin length 300))) : Nat) : Int) == (((capN (imax 0 (imin length 300))) : Nat) : Int)) && eqW (((capN (imax 0 (imin length 300))) + 63) / 64) (((capN (imax 0 (imin length 300))) + 63) / 64) wsx ws218)) (by decide)
   clear hF
   refine hS.opsC 2 [1, 1] [6, 10, 11, 32, 33, 34, 62, 65] fun _ => seg [(66, sc gq oq (capN (imax 0 (imin length 300))) cq), (67, sc g319 o320 (capN (imax 0 (imin length 300))) c321)] [(0, none), (1, none), (2, none), (3, none), (4, none), (5, none), (6, none), (7, none)] [.t false, .t false] trivial fun ac wd hS => ?_
   refine hS.callG false 23 #[sc gq oq (capN (imax 0 (imin length 300))) cq, sc g319 o320 (capN (imax 0 (imin length 300))) c321] (ref02_Same gq oq cq (capN (imax 0 (imin length 300))) g319 o320 c321 (capN (imax 0 (imin length 300))) px (trn px (capN (imax 0 (imin length 300))) (((gtD l) (Int.toNat x34)).2.1) (((gtD l) (Int.toNat x34)).2.2) (((gtD l) (Int.toNat x34)).1)) _ (hS.mem.get 3 gq (.fn oq (oq + (capN (imax 0 (imin length 300)))) (boolsV px oq))) (hS.mem.get 6 g319 (.fn o320 (o320 + (capN (imax 0 (imin length 300)))) (boolsV (trn px (capN (imax 0 (imin length 300))) (((gtD l) (Int.toNat x34)).2.1) (((gtD l) (Int.toNat x34)).2.2) (((gtD l) (Int.toNat x34)).1)) o320))) (by first | assumption | omega | (simp_all; done) | (simp_all; omega))) ?_
   rintro _ wd ⟨rfl, hF⟩
   refine ⟨vb (eqB (capN (imax 0 (imin length 300))) (capN (imax 0 (imin length 300))) px (trn px (capN (imax 0 (imin length 300))) (((gtD l) (Int.toNat x34)).2.1) (((gtD l) (Int.toNat x34)).2.2) (((gtD l) (Int.toNat x34)).1))), rfl, ?_⟩
   replace hS := (hS.to (hS.mem.keep0 hF)).put (d := 68) (v := vb (eqB (capN (imax 0 (imin length 300))) (capN (imax 0 (imin length 300))) px (trn px (capN (imax 0 (imin length 300))) (((gtD l) (Int.toNat x34)).2.1) (((gtD l) (Int.toNat x34)).2.2) (((gtD l) (Int.toNat x34)).1)))) (by decide)
   clear hF
   refine hS.opsC 2 [fx 1 (vb false), 60] [6, 10, 11, 32, 33, 34] fun _ => seg [(70, vb false)] [(0, none), (1, none), (2, none), (4, none), (5, none), (6, none), (7, none)] [.t false, .t false, .p ((vb (!((((((capN (imax 0 (imin length 300))) : Nat) : Int) == (((capN (imax 0 (imin length 300))) : Nat) : Int)) && eqW (((capN (imax 0 (imin length 300))) + 63) / 64) (((capN (imax 0 (imin length 300))) + 63) / 64) wsx ws218) == (eqB (capN (imax 0 (imin length 300))) (capN (imax 0 (imin length 300))) px (trn px (capN (imax 0 (imin length 300))) (((gtD l) (Int.toNat x34)).2.1) (((gtD l) (Int.toNat x34)).2.2) (((gtD l) (Int.toNat x34)).1))))) : Value) = vb false)] ⟨(congrArg Value.bool (by rw [eqW_eqB (by assumption) (by assumption)]; simp)), trivial⟩ fun ac wd hS => ?_
   refine list_nil_seq ?_
   refine hS.condF ?_
   refine wp_skip ?_
   refine pop_then ?_
   refine hS.regC [600, 0, 300, 0] [6, 32, 33, 34] fun _ => seg [(7, sc g319 o320 (capN (imax 0 (imin length 300))) c321)] [(0, none), (1, none), (3, some ((ν11 0), .cells [vi (((capN (imax 0 (imin length 300))) : Nat) : Int), sc g215 o216 (((capN (imax 0 (imin length 300))) + 63) / 64) c217] 26)), (4, none), (5, none)] [.e (ν11 0), .e (ν11 0), .e (ν16 0), .e (ν16 0)] trivial fun ac wd hS => ?_
   refine pop_block ?_
   refine pop_then ?_
   refine hS.regC [20, 0] [6, 7, 32, 33] fun _ => seg [(34, vi (x34 + 1))] [(0, none), (1, none), (2, none), (3, none), (4, none)] [.p (fit .i64 (x34 + 1))] ⟨fit_i64 (by omega), trivial⟩ fun ac wd hS => ?_
   replace hS := hS.to (hS.mem.perm [0, 1, 3, 4, 2] (H' := [(0, .fn 0 64 dbT), (g7, .fn o7 (o7 + l.length * 3) (a2V (gtD l) o7)), (g215, .fn o216 (o216 + (((capN (imax 0 (imin length 300))) + 63) / 64)) (u64s ws218 o216)), (g319, .fn o320 (o320 + (capN (imax 0 (imin length 300)))) (boolsV (trn px (capN (imax 0 (imin length 300))) (((gtD l) (Int.toNat x34)).2.1) (((gtD l) (Int.toNat x34)).2.2) (((gtD l) (Int.toNat x34)).1)) o320)), ((ν11 0), .cells [vi (((capN (imax 0 (imin length 300))) : Nat) : Int), sc g215 o216 (((capN (imax 0 (imin length 300))) + 63) / 64) c217] 26)]) (by as_aux_lemma => kernel_rfl) (by decide))
   exact pop_then (hS.next ((x34 + 1), g215, o216, c217, ws218, (trn px (capN (imax 0 (imin length 300))) (((gtD l) (Int.toNat x34)).2.1) (((gtD l) (Int.toNat x34)).2.2) (((gtD l) (Int.toNat x34)).1)), g319, o320, c321) ⟨(by first | omega | assumption | (simp; done) | (simp; omega)), (by assumption), trivial⟩ (by dsimp only; omega))
  ·
   refine wp_exit ?_
   refine pop_then_exit ?_
   refine pop_then_exit ?_
   refine pop_block_hit ?_
   refine pop_then ?_
   refine hS.regS [0] [] fun _ => seg [(4, vb true)] [(0, none)] [] trivial fun ac wd hS => ?_
   refine wp_ret ?_
   refine St.retC 0 hS (vb true) [] trivial fun hw => ?_
   refine ⟨retd rfl, hw.fr0⟩

end Go.Proofs.YtnbkafnikpbmbaaDoor.K
