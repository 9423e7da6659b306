/-
  Walks, printed by w2.py.
-/
import Derived.Test.YtindbpffbjhfaaaDoorUb
import Derived.Test.YtindbpffbjhfaaaDoorOz
import Derived.Test.YtindbpffbjhfaaaDoorProg
namespace Go.Proofs.YtindbpffbjhfaaaDoor.K
set_option linter.unusedVariables false
set_option linter.unusedSimpArgs false

theorem chunk_Read_r (b : Nat) (F : Nat → Prop) (m : AM) (at_ : Int) (M : AM) (h : List Chk) (w : World) (hr : (arR b F m).R w) (hR : ChR M m h) :
    Calls Tryd.prog 46 #[pt b 0, vi at_] w fun e w' => e = .returned (.tuple #[.agg #[vi (((crV M h at_)).1), vi (((crV M h at_)).2.1), vu (((crV M h at_)).2.2.1), vi (((crV M h at_)).2.2.2)], vi (crE M h at_)]) ∧ Fr w w' no no := by
 have h_ := chunk_Read b F m at_ w hr
 obtain ⟨e1, e2⟩ := hR.rd at_
 unfold rdV at e1
 rw [← e1, ← e2]
 exact h_

theorem chunk_Write_r (b : Nat) (F : Nat → Prop) (m : AM) (at_ : Int) (ord : Int) (own : Int) (nx : Int) (M : AM) (h : List Chk) (w : World) (hr : (arR b F m).R w) (hR : ChR M m h) (hown : 0 ≤ own ∧ own ≤ 18446744073709551615 ∧ nx ≤ 9223372036854775807) :
    Calls Tryd.prog 44 #[pt b 0, .agg #[vi at_, vi ord, vu own, vi nx]] w fun e w' => ∃ (F' : Nat → Prop), e = .returned (vi (cwE M at_ ord nx)) ∧ (arR b F' (wrcM m at_ ord own nx)).R w' ∧ Fr w w' F F' := by
 have h_ := chunk_Write b F m at_ ord own nx w hr hown
 rw [(hR.write (ord := ord) (own := own) (nx := nx) (a := at_) hown).1] at h_
 exact h_

theorem chunk_Wipe_r (b : Nat) (F : Nat → Prop) (m : AM) (at_ : Int) (M : AM) (h : List Chk) (w : World) (hr : (arR b F m).R w) (hR : ChR M m h) (hal : at_ % 4096 = 0) :
    Calls Tryd.prog 41 #[pt b 0, vi at_] w fun e w' => ∃ (F' : Nat → Prop), e = .returned (vi (if crE M h at_ = 7 then 0 else crE M h at_)) ∧ (arR b F' (filM m at_ 32 0)).R w' ∧ Fr w w' F F' := by
 have h_ := chunk_Wipe b F m at_ w hr
 rw [(hR.wipe hal).1] at h_
 exact h_

set_option maxRecDepth 100000 in
set_option maxHeartbeats 1000000 in
theorem chunk_Wipe_nil (at_ : Int) (w : World) :
    Calls Tryd.prog 41 #[pnil, vi at_] w fun e w' => e = .returned (vi 1) ∧ Fr w w' no no := by
 refine enter (args := [pnil, vi at_]) (D := no) (A := []) Tryd.func41 rfl 8 rfl [] (WS.startL trivial) fun ac hS => ?_
 refine hS.regS [0] [0, 1] fun _ => seg [] [] [] trivial fun ac wd hS => ?_
 refine wp_region_seq ?_
 refine hS.opsC 2 [0, 0] [] fun _ => seg [(5, pnil), (6, vi at_)] [] [] trivial fun ac wd hS => ?_
 refine hS.call0 132 #[pnil, vi at_, vi 32, v8 0] 7 (nil_Fill at_ 32 0 _  ) fun ac wd hS => ?_
 refine hS.opsC 1 [0] [] fun _ => seg [(4, vi 1)] [] [] trivial fun ac wd hS => ?_
 refine list_nil_seq ?_
 refine wp_ret ?_
 refine St.retC 0 hS (vi 1) [] trivial fun hw => ?_
 refine ⟨retd rfl, hw.fr0⟩

set_option maxRecDepth 100000 in
set_option maxHeartbeats 1000000 in
theorem law10_ChunkPlays (ao7 : Option Addr) (c7 : Nat) (g7 : Nat) (o7 : Nat) (l : List (Int × Int × Int × Int × Int)) (w : World) (hh0 : HE.holds w 1 (.fn 0 64 dbT)) (hh1 : HE.holds w g7 (.fn o7 (o7 + l.length * 5) (a10V (gtD l) o7))) (hv7 : (l.length = 0 ∨ ao7 = some ⟨g7, o7, none⟩)) (hAl : ∀ i, i < l.length → rg_a10V (gtD l i)) :
    Calls Tryd.prog 7 #[.slice ao7 l.length c7] w fun e w' => e = .returned (vb true) ∧ Fr w w' no no := by
 refine enter (args := [.slice ao7 l.length c7]) (D := no) (A := []) Tryd.func7 rfl 135 rfl [(1, .fn 0 64 dbT), (g7, .fn o7 (o7 + l.length * 5) (a10V (gtD l) o7))] (WS.startL ⟨⟨rfl, hh0⟩, ⟨rfl, hh1⟩, trivial⟩) fun ac hS => ?_
 refine hS.regS [0] [0] fun _ => seg [] [(0, none), (1, none)] [] trivial fun ac wd hS => ?_
 refine wp_seq ?_
 refine wp_region_seq ?_
 refine hS.call0 40 #[] 18 (law10_awake  _ (hS.mem.get 0 1 (.fn 0 64 dbT)) ) fun ac wd hS => ?_
 refine hS.opsC 1 [0] [0] fun _ => seg [(19, vb false)] [(0, none), (1, none)] [] trivial fun ac wd hS => ?_
 refine list_nil_seq ?_
 refine hS.condF ?_
 refine wp_skip ?_
 refine pop_then ?_
 refine wp_seq ?_
 refine hS.regS [0, 0, 0] [0] fun _ => seg [(22, vb (decide ((40 : Int) < ((l.length : Nat) : Int))))] [(0, none), (1, none)] [] trivial fun ac wd hS => ?_
 refine hS.condC (decide ((40 : Int) < ((l.length : Nat) : Int))) (fun hb1o hb1 => ?_) (fun hb1o hb1 => ?_)
 ·
  refine hS.regS [0] [] fun _ => seg [(2, vb true)] [(0, none)] [] trivial fun ac wd hS => ?_
  refine wp_ret ?_
  refine pop_then_ret ?_
  refine St.retC 0 hS (vb true) [] trivial fun hw => ?_
  refine ⟨retd rfl, hw.fr0⟩
 ·
  refine wp_skip ?_
  refine pop_then ?_
  refine wp_region_seq ?_
  refine hS.callC 32 #[vi 4] (ar_New 4 _  ) ?_
  rintro _ wd ⟨b'2, F3, rfl, hN, hF⟩
  refine ⟨pt b'2 0, rfl, ?_⟩
  replace hS := (hS.to (hS.mem.newA hN hF)).put (d := 23) (v := pt b'2 0) (by decide)
  clear hF
  refine hS.opsC 1 [0] [0] fun _ => seg [(3, pt b'2 0)] [(0, none), (1, none)] [] trivial fun ac wd hS => ?_
  refine list_nil_seq ?_
  refine wp_seq ?_
  refine wp_region_seq ?_
  refine hS.opsC 1 [0] [0, 3] fun _ => seg [(24, pt b'2 0)] [(0, none), (1, none)] [] trivial fun ac wd hS => ?_
  refine hS.callC 33 #[pt b'2 0, vi 0, vi 2] (ar_Commit b'2 F3 (AM.new 4) 0 2 _ (hS.mem.res 0) ) ?_
  rintro _ wd ⟨F4, rfl, hA, hF⟩
  refine ⟨vi (comE (AM.new 4) 0 2), rfl, ?_⟩
  replace hS := (hS.to (hS.mem.stepA 0 rfl hA hF)).put (d := 25) (v := vi (comE (AM.new 4) 0 2)) (by decide)
  clear hF
  refine hS.opsC 2 [0, 0] [0, 3] fun _ => seg [(27, vb (((comE (AM.new 4) 0 2) : Int) != 0))] [(0, none), (1, none)] [] trivial fun ac wd hS => ?_
  have hg5o : (((comE (AM.new 4) 0 2) : Int) != 0) = false := by decide +kernel
  replace hS := hS.fix 27 (vb false) (congrArg Value.bool hg5o)
  refine hS.opsC 1 [1] [0, 3, 27] fun _ => seg [(28, pt b'2 0)] [(0, none), (1, none)] [.t false] trivial fun ac wd hS => ?_
  refine hS.callG false 33 #[pt b'2 0, vi 3, vi 1] (ar_Commit b'2 F4 (comM (AM.new 4) 0 2) 3 1 _ (hS.mem.res 0) ) ?_
  rintro _ wd ⟨F6, rfl, hA, hF⟩
  refine ⟨vi (comE (comM (AM.new 4) 0 2) 3 1), rfl, ?_⟩
  replace hS := (hS.to (hS.mem.stepA 0 rfl hA hF)).put (d := 29) (v := vi (comE (comM (AM.new 4) 0 2) 3 1)) (by decide)
  clear hF
  refine hS.opsC 2 [1, 60] [0, 3] fun _ => seg [(31, vb (((comE (comM (AM.new 4) 0 2) 3 1) : Int) != 0))] [(0, none), (1, none)] [.t false, .t false] trivial fun ac wd hS => ?_
  refine list_nil_seq ?_
  refine hS.condK (((comE (comM (AM.new 4) 0 2) 3 1) : Int) != 0) false (by decide +kernel) ?_
  show Code.wp _ _ _ _ _
  refine wp_skip ?_
  refine pop_then ?_
  obtain ⟨M, M_e⟩ : ∃ q_ : AM, q_ = (comM (comM (AM.new 4) 0 2) 3 1) := ⟨_, rfl⟩
  replace hS := hS.to (hS.mem.arTell (b := b'2) (F := F6) (m := (comM (comM (AM.new 4) 0 2) 3 1)) (m' := M) 0 M_e.symm)
  have hM0 : ∀ x, M.mem x = 0 := by rw [M_e]; exact comM_zero (comM_zero (fun _ => rfl) 0 2) 3 1
  have hMc : M.cap ≤ 1048576 := by rw [M_e]; decide +kernel
  clear M_e
  have hT : ∀ x y, thr (amS (pgS M) M.cap) x y = thr M x y := thr_pgS M
  refine wp_region_seq ?_
  refine hS.opsC 1 [0] [0, 3] fun _ => seg [(32, pt b'2 0)] [(0, none), (1, none)] [] trivial fun ac wd hS => ?_
  refine hS.callC 37 #[pt b'2 0] (l03_Of b'2 F6 M _ (hS.mem.res 0) ) ?_
  rintro _ wd ⟨g27, rfl, hog0, hoh0, hF⟩
  have ho8 : w.heap.size ≤ g27 := Nat.le_trans hS.mem.fr.size hog0
  refine ⟨.agg #[sc g27 0 M.cap M.cap, vi (-1)], rfl, ?_⟩
  replace hS := (hS.to (hS.mem.outs hF [(g27, .fn 0 (0 + M.cap) (strs (pgS M) 0))] ⟨⟨rfl, hoh0, .inr hog0⟩, trivial⟩)).put (d := 33) (v := .agg #[sc g27 0 M.cap M.cap, vi (-1)]) (by decide)
  clear hF
  refine hS.opsC 2 [0, 300] [0, 3] fun ν11 => seg [(4, pt (ν11 0) 0)] [(0, none), (1, none), (2, none), (3, some ((ν11 0), .cells [sc g27 0 M.cap M.cap, vi (-1)] 66))] [.e (ν11 0), .e (ν11 0)] trivial fun ac wd hS => ?_
  refine list_nil_seq ?_
  refine hS.regS [0] [0, 3, 4] fun _ => seg [(5, vnil)] [(0, none), (1, none), (2, none), (3, none)] [] trivial fun ac wd hS => ?_
  refine wp_seq ?_
  refine hS.regS [0, 0, 0] [3, 4, 5] fun _ => seg [(34, .slice ao7 l.length c7), (35, vi ((l.length : Nat) : Int)), (36, vi 0)] [(0, none), (1, none), (2, none), (3, none)] [] trivial fun ac wd hS => ?_
  refine wp_block ?_
  replace hS := hS.to (hS.mem.addNone (b := 1) (lo := 0) (hi := 64) (f := dbT) (k := ([] : List (Int × Int × Int × Int)).length * 4) (f' := (chV (gtD ([] : List (Int × Int × Int × Int))) 0)) (o := 0) 0 rfl)
  refine St.loopC (σ := Int × (Nat → Prop) × AM × Option Addr × Nat × Nat × Nat × (List (Int × Int × Int × Int))) (fun (x : Int × (Nat → Prop) × AM × Option Addr × Nat × Nat × Nat × (List (Int × Int × Int × Int))) => match x with | (x36, Fx, mx, aoq, cq, gq, oq, lq) => ⟨[(3, [], pt b'2 0), (4, [], pt (ν11 0) 0), (5, [], .slice aoq lq.length cq), (34, [], .slice ao7 l.length c7), (35, [], vi ((l.length : Nat) : Int)), (36, [], vi x36)], [(1, .fn 0 64 dbT), (g7, .fn o7 (o7 + l.length * 5) (a10V (gtD l) o7)), (g27, .fn 0 (0 + M.cap) (strs (pgS M) 0)), ((ν11 0), .cells [sc g27 0 M.cap M.cap, vi (-1)] 66), (gq, .fn oq (oq + lq.length * 4) (chV (gtD lq) oq))], [arR b'2 Fx mx], (0 ≤ x36 ∧ x36 ≤ ((l.length : Nat) : Int)) ∧ (ChR M mx lq) ∧ (lq.length ≤ Int.toNat x36) ∧ (lq.length = 0 ∨ aoq = some ⟨gq, oq, none⟩) ∧ True, l.length - Int.toNat x36⟩) (0, F6, M, none, 0, 1, 0, ([] : List (Int × Int × Int × Int))) ⟨(by omega), (by exact ChR.zero hM0), (by simp), (by exact (.inl rfl)), trivial⟩ hS ?_
  clear hS
  rintro ⟨x36, Fx, mx, aoq, cq, gq, oq, lq⟩ ⟨i0, i1, i2, hvq, -⟩ ac wd hS
  replace i0 : 0 ≤ x36 ∧ x36 ≤ ((l.length : Nat) : Int) := i0
  replace i1 : ChR M mx lq := i1
  replace i2 : lq.length ≤ Int.toNat x36 := i2
  replace hvq : lq.length = 0 ∨ aoq = some ⟨gq, oq, none⟩ := hvq
  refine hS.regS [0] [3, 4, 5, 34, 35, 36] fun _ => seg [(37, vb (decide ((x36 : Int) < ((l.length : Nat) : Int))))] [(0, none), (1, none), (2, none), (3, none), (4, none)] [] trivial fun ac wd hS => ?_
  refine wp_seq ?_
  refine hS.condC (decide ((x36 : Int) < ((l.length : Nat) : Int))) (fun hb9o hb9 => ?_) (fun hb9o hb9 => ?_)
  ·
   refine wp_skip ?_
   refine pop_then ?_
   refine wp_seq ?_
   refine wp_block ?_
   obtain rfl : ao7 = some ⟨g7, o7, none⟩ := Or.resolve_left hv7 (by omega)
   refine hS.regS [20, fx 100 (.agg #[v8 (((gtD l) (Int.toNat x36)).1), vi (((gtD l) (Int.toNat x36)).2.1), vi (((gtD l) (Int.toNat x36)).2.2.1), vu (((gtD l) (Int.toNat x36)).2.2.2.1), vi (((gtD l) (Int.toNat x36)).2.2.2.2)]), 0, 500] [3, 4, 5, 34, 35, 36] fun ν15 => seg [(7, pt (ν15 0) 0)] [(0, none), (1, none), (2, none), (3, none), (4, none), (5, some ((ν15 0), .cells [v8 (((gtD l) (Int.toNat x36)).1), vi (((gtD l) (Int.toNat x36)).2.1), vi (((gtD l) (Int.toNat x36)).2.2.1), vu (((gtD l) (Int.toNat x36)).2.2.2.1), vi (((gtD l) (Int.toNat x36)).2.2.2.2)] 80))] [.e (ν15 0), .e (ν15 0), .e (ν15 0), .e (ν15 0), .e (ν15 0), .p ((.agg #[((a10V (gtD l) o7) (o7 + Int.toNat x36 * 5)), ((a10V (gtD l) o7) (o7 + Int.toNat x36 * 5 + 1)), ((a10V (gtD l) o7) (o7 + Int.toNat x36 * 5 + 2)), ((a10V (gtD l) o7) (o7 + Int.toNat x36 * 5 + 3)), ((a10V (gtD l) o7) (o7 + Int.toNat x36 * 5 + 4))] : Value) = .agg #[v8 (((gtD l) (Int.toNat x36)).1), vi (((gtD l) (Int.toNat x36)).2.1), vi (((gtD l) (Int.toNat x36)).2.2.1), vu (((gtD l) (Int.toNat x36)).2.2.2.1), vi (((gtD l) (Int.toNat x36)).2.2.2.2)]), .e g7, .p (o7 ≤ o7 + Int.toNat x36 * 5 + 4 ∧ o7 + Int.toNat x36 * 5 + 4 < (o7 + l.length * 5)), .e g7, .p (o7 ≤ o7 + Int.toNat x36 * 5 + 3 ∧ o7 + Int.toNat x36 * 5 + 3 < (o7 + l.length * 5)), .e g7, .p (o7 ≤ o7 + Int.toNat x36 * 5 + 2 ∧ o7 + Int.toNat x36 * 5 + 2 < (o7 + l.length * 5)), .e g7, .p (o7 ≤ o7 + Int.toNat x36 * 5 + 1 ∧ o7 + Int.toNat x36 * 5 + 1 < (o7 + l.length * 5)), .e g7, .p (o7 ≤ o7 + Int.toNat x36 * 5 ∧ o7 + Int.toNat x36 * 5 < (o7 + l.length * 5)), .p ((0 : Int) ≤ x36 ∧ (x36 : Int) < ((l.length : Nat) : Int))] ⟨(agg5 (a10V_0 (gtD l) o7 (Int.toNat x36)) (a10V_1 (gtD l) o7 (Int.toNat x36)) (a10V_2 (gtD l) o7 (Int.toNat x36)) (a10V_3 (gtD l) o7 (Int.toNat x36)) (a10V_4 (gtD l) o7 (Int.toNat x36))), (by omega), (by omega), (by omega), (by omega), (by omega), (by omega), trivial⟩ fun ac wd hS => ?_
   obtain ⟨kd, kd_e⟩ : ∃ q_ : Int, q_ = ((gtD l) (Int.toNat x36)).1 := ⟨_, rfl⟩
   obtain ⟨kc, kc_e⟩ : ∃ q_ : Int, q_ = ((gtD l) (Int.toNat x36)).2.1 := ⟨_, rfl⟩
   obtain ⟨ko, ko_e⟩ : ∃ q_ : Int, q_ = ((gtD l) (Int.toNat x36)).2.2.1 := ⟨_, rfl⟩
   obtain ⟨kw, kw_e⟩ : ∃ q_ : Int, q_ = ((gtD l) (Int.toNat x36)).2.2.2.1 := ⟨_, rfl⟩
   obtain ⟨kn, kn_e⟩ : ∃ q_ : Int, q_ = ((gtD l) (Int.toNat x36)).2.2.2.2 := ⟨_, rfl⟩
   replace hS := hS.to (hS.mem.tell 5 (b := (ν15 0)) (x := (.cells [v8 (((gtD l) (Int.toNat x36)).1), vi (((gtD l) (Int.toNat x36)).2.1), vi (((gtD l) (Int.toNat x36)).2.2.1), vu (((gtD l) (Int.toNat x36)).2.2.2.1), vi (((gtD l) (Int.toNat x36)).2.2.2.2)] 80)) (.cells [v8 kd, vi kc, vi ko, vu kw, vi kn] 80) (hh := fun h_ => by rw [kd_e, kc_e, ko_e, kw_e, kn_e]; exact h_))
   have hac := hAl _ (show Int.toNat x36 < l.length by omega)
   unfold rg_a10V at hac
   rw [← kd_e, ← kc_e, ← ko_e, ← kw_e, ← kn_e] at hac
   clear kd_e kc_e ko_e kw_e kn_e
   have hwl := cWo_len lq kc
   have hwh := cwH_len M lq kc ko kw kn
   obtain ⟨hac1, hac2, hac3, hac4, hac5, _⟩ := hac
   have how : 0 ≤ kw ∧ kw ≤ 18446744073709551615 ∧ kn ≤ 9223372036854775807 := ⟨hac4.1, hac4.2, hac5.2⟩
   refine hS.regS [0, 0] [3, 4, 5, 7, 34, 35, 36] fun _ => seg [(8, vi 0), (9, vi 0)] [(0, none), (1, none), (2, none), (3, none), (4, none), (5, none)] [] trivial fun ac wd hS => ?_
   refine wp_seq ?_
   refine hS.regS [0, 500, 20] [3, 4, 5, 7, 8, 9, 34, 35, 36] fun _ => seg [(42, v8 (kd % 4))] [(0, none), (1, none), (2, none), (3, none), (4, none), (5, none)] [.p ((4 : Int) ≠ 0 ∧ Int.tmod kd 4 = kd % 4), .e (ν15 0)] ⟨rem2 (by omega) (by omega), trivial⟩ fun ac wd hS => ?_
   refine wp_block ?_
   refine hS.regS [0, 0] [3, 4, 5, 7, 8, 9, 34, 35, 36, 42] fun _ => seg [(55, vb (((kd % 4) : Int) == 2))] [(0, none), (1, none), (2, none), (3, none), (4, none), (5, none)] [] trivial fun ac wd hS => ?_
   refine hS.condC (((kd % 4) : Int) == 2) (fun hb10o hb10 => ?_) (fun hb10o hb10 => ?_)
   ·
    refine wp_skip ?_
    refine pop_block ?_
    refine pop_then ?_
    refine wp_seq ?_
    refine hS.regS [0, 0, 0] [3, 4, 5, 7, 34, 35, 36] fun _ => seg [(87, vb false)] [(0, none), (1, none), (2, none), (3, none), (4, none), (5, none)] [] trivial fun ac wd hS => ?_
    refine hS.condF ?_
    refine wp_skip ?_
    refine pop_then ?_
    have hR9 : ChR M mx  lq := by first | exact (i1.write how).2 | exact (i1.wipe hal).2 | exact i1
    clear i1
    refine hS.regS [0, 0, 500, 0, 0, 0] [3, 4, 5, 34, 35, 36] fun ν20 => seg [(91, sc (ν20 0) 0 6 6), (92, vi 6), (93, vi 0)] [(0, none), (1, none), (2, none), (3, none), (4, none), (6, some ((ν20 0), .cells [vi 0, vi 4096, vi 8192, vi 12288, vi 16384, vi kc] 3))] [.e (ν15 0)] trivial fun ac wd hS => ?_
    refine wp_block ?_
    replace hS := hS.to (hS.mem.shareC (b := (ν20 0)) (cs := [vi 0, vi 4096, vi 8192, vi 12288, vi 16384, vi kc]) (T := 3) 5 6 ((i1V (gtD [0, 4096, 8192, 12288, 16384, kc]) 0)) (by intro o_ ho_; (repeat (rcases o_ with _ | o_; rfl)); exact absurd ho_ (by omega)))
    refine St.loopC (σ := Int) (fun (x93 : Int) => ⟨[(3, [], pt b'2 0), (4, [], pt (ν11 0) 0), (5, [], .slice aoq lq.length cq), (34, [], sc g7 o7 l.length c7), (35, [], vi ((l.length : Nat) : Int)), (36, [], vi x36), (91, [], sc (ν20 0) 0 6 6), (92, [], vi 6), (93, [], vi x93)], [(1, .fn 0 64 dbT), (g7, .fn o7 (o7 + l.length * 5) (a10V (gtD l) o7)), (g27, .fn 0 (0 + M.cap) (strs (pgS M) 0)), ((ν11 0), .cells [sc g27 0 M.cap M.cap, vi (-1)] 66), (gq, .fn oq (oq + lq.length * 4) (chV (gtD lq) oq)), ((ν20 0), .fn 0 6 (i1V (gtD [0, 4096, 8192, 12288, 16384, kc]) 0))], [arR b'2 Fx mx], (0 ≤ x93 ∧ x93 ≤ 6) ∧ True, 6 - Int.toNat x93⟩) 0 ⟨(by omega), trivial⟩ hS ?_
    clear hS
    rintro x93 ⟨j0, -⟩ ac wd hS
    replace j0 : 0 ≤ x93 ∧ x93 ≤ 6 := j0
    refine hS.regS [0] [3, 4, 5, 34, 35, 36, 91, 92, 93] fun _ => seg [(94, vb (decide ((x93 : Int) < 6)))] [(0, none), (1, none), (2, none), (3, none), (4, none), (5, none)] [] trivial fun ac wd hS => ?_
    refine wp_seq ?_
    refine hS.condC (decide ((x93 : Int) < 6)) (fun hb11o hb11 => ?_) (fun hb11o hb11 => ?_)
    ·
     refine wp_skip ?_
     refine pop_then ?_
     refine wp_seq ?_
     refine wp_block ?_
     refine hS.regS [10, fx 500 (vi ((gtD [0, 4096, 8192, 12288, 16384, kc]) (Int.toNat x93))), 0] [3, 4, 5, 34, 35, 36, 91, 92, 93] fun _ => seg [(11, vi ((gtD [0, 4096, 8192, 12288, 16384, kc]) (Int.toNat x93)))] [(0, none), (1, none), (2, none), (3, none), (4, none), (5, none)] [.p ((((i1V (gtD [0, 4096, 8192, 12288, 16384, kc]) 0) (Int.toNat x93)) : Value) = vi ((gtD [0, 4096, 8192, 12288, 16384, kc]) (Int.toNat x93))), .e (ν20 0), .p (0 ≤ Int.toNat x93 ∧ Int.toNat x93 < 6), .p ((0 : Int) ≤ x93 ∧ (x93 : Int) < ((6 : Nat) : Int))] ⟨((i1V_a (gtD [0, 4096, 8192, 12288, 16384, kc]) 0 (Int.toNat x93))), (by omega), (by omega), trivial⟩ fun ac wd hS => ?_
     refine wp_region_seq ?_
     refine hS.opsC 2 [0, 0] [3, 4, 5, 11, 34, 35, 36, 91, 92, 93] fun _ => seg [(98, pt b'2 0), (99, vi ((gtD [0, 4096, 8192, 12288, 16384, kc]) (Int.toNat x93)))] [(0, none), (1, none), (2, none), (3, none), (4, none), (5, none)] [] trivial fun ac wd hS => ?_
     refine hS.call0 46 #[pt b'2 0, vi ((gtD [0, 4096, 8192, 12288, 16384, kc]) (Int.toNat x93))] 100 (chunk_Read_r b'2 Fx mx ((gtD [0, 4096, 8192, 12288, 16384, kc]) (Int.toNat x93)) M lq _ (hS.mem.res 0) (by first | with_reducible assumption | exact i1)) fun ac wd hS => ?_
     refine hS.opsC 6 [0, 0, 0, 0, 600, 0] [3, 4, 5, 11, 34, 35, 36, 91, 92, 93] fun ν24 => seg [(12, pt (ν24 0) 0), (13, vi (crE M lq ((gtD [0, 4096, 8192, 12288, 16384, kc]) (Int.toNat x93))))] [(0, none), (1, none), (2, none), (3, none), (4, none), (5, none), (6, some ((ν24 0), .cells [vi (((crV M lq ((gtD [0, 4096, 8192, 12288, 16384, kc]) (Int.toNat x93)))).1), vi (((crV M lq ((gtD [0, 4096, 8192, 12288, 16384, kc]) (Int.toNat x93)))).2.1), vu (((crV M lq ((gtD [0, 4096, 8192, 12288, 16384, kc]) (Int.toNat x93)))).2.2.1), vi (((crV M lq ((gtD [0, 4096, 8192, 12288, 16384, kc]) (Int.toNat x93)))).2.2.2)] 78))] [.e (ν24 0), .e (ν24 0), .e (ν24 0), .e (ν24 0)] trivial fun ac wd hS => ?_
     refine list_nil_seq ?_
     refine wp_region_seq ?_
     refine hS.opsC 3 [300, 0, 0] [3, 4, 5, 12, 13, 34, 35, 36, 91, 92, 93] fun _ => seg [(104, .agg #[sc g27 0 M.cap M.cap, vi (-1)]), (105, .slice aoq lq.length cq), (106, vi ((gtD [0, 4096, 8192, 12288, 16384, kc]) (Int.toNat x93)))] [(0, none), (1, none), (2, none), (3, none), (4, none), (5, none), (6, none)] [.e (ν11 0), .e (ν11 0)] trivial fun ac wd hS => ?_
     refine hS.call0 42 #[.agg #[sc g27 0 M.cap M.cap, vi (-1)], .slice aoq lq.length cq, vi ((gtD [0, 4096, 8192, 12288, 16384, kc]) (Int.toNat x93))] 107 (r10_Read g27 0 M.cap M.cap (-1) aoq cq gq oq lq ((gtD [0, 4096, 8192, 12288, 16384, kc]) (Int.toNat x93)) (pgS M) M _ (hS.mem.get 2 g27 (.fn 0 (0 + M.cap) (strs (pgS M) 0))) (hS.mem.get 4 gq (.fn oq (oq + lq.length * 4) (chV (gtD lq) oq))) hvq (by exact hMc) (by exact hT) (by first | assumption | omega | (simp_all; done) | (simp_all; omega))) fun ac wd hS => ?_
     refine hS.opsC 6 [0, 0, 0, 0, 700, 0] [3, 4, 5, 12, 13, 34, 35, 36, 91, 92, 93] fun ν26 => seg [(14, pt (ν26 0) 0), (15, vi (crE M lq ((gtD [0, 4096, 8192, 12288, 16384, kc]) (Int.toNat x93))))] [(0, none), (1, none), (2, none), (3, none), (4, none), (5, none), (6, none), (7, some ((ν26 0), .cells [vi (((crV M lq ((gtD [0, 4096, 8192, 12288, 16384, kc]) (Int.toNat x93)))).1), vi (((crV M lq ((gtD [0, 4096, 8192, 12288, 16384, kc]) (Int.toNat x93)))).2.1), vu (((crV M lq ((gtD [0, 4096, 8192, 12288, 16384, kc]) (Int.toNat x93)))).2.2.1), vi (((crV M lq ((gtD [0, 4096, 8192, 12288, 16384, kc]) (Int.toNat x93)))).2.2.2)] 82))] [.e (ν26 0), .e (ν26 0), .e (ν26 0), .e (ν26 0)] trivial fun ac wd hS => ?_
     refine list_nil_seq ?_
     refine wp_region_seq ?_
     refine hS.opsC 2 [600, 700] [3, 4, 5, 13, 15, 34, 35, 36, 91, 92, 93] fun _ => seg [(110, .agg #[vi (((crV M lq ((gtD [0, 4096, 8192, 12288, 16384, kc]) (Int.toNat x93)))).1), vi (((crV M lq ((gtD [0, 4096, 8192, 12288, 16384, kc]) (Int.toNat x93)))).2.1), vu (((crV M lq ((gtD [0, 4096, 8192, 12288, 16384, kc]) (Int.toNat x93)))).2.2.1), vi (((crV M lq ((gtD [0, 4096, 8192, 12288, 16384, kc]) (Int.toNat x93)))).2.2.2)]), (111, .agg #[vi (((crV M lq ((gtD [0, 4096, 8192, 12288, 16384, kc]) (Int.toNat x93)))).1), vi (((crV M lq ((gtD [0, 4096, 8192, 12288, 16384, kc]) (Int.toNat x93)))).2.1), vu (((crV M lq ((gtD [0, 4096, 8192, 12288, 16384, kc]) (Int.toNat x93)))).2.2.1), vi (((crV M lq ((gtD [0, 4096, 8192, 12288, 16384, kc]) (Int.toNat x93)))).2.2.2)])] [(0, none), (1, none), (2, none), (3, none), (4, none), (5, none)] [.e (ν26 0), .e (ν26 0), .e (ν26 0), .e (ν26 0), .e (ν24 0), .e (ν24 0), .e (ν24 0), .e (ν24 0)] trivial fun ac wd hS => ?_
     refine Runs1.list ?_
     refine St.binS hS .neq (.tmp 110) (.tmp 111) 82 82 rfl rfl (by decide) (xs := #[vi (((crV M lq ((gtD [0, 4096, 8192, 12288, 16384, kc]) (Int.toNat x93)))).1), vi (((crV M lq ((gtD [0, 4096, 8192, 12288, 16384, kc]) (Int.toNat x93)))).2.1), vu (((crV M lq ((gtD [0, 4096, 8192, 12288, 16384, kc]) (Int.toNat x93)))).2.2.1), vi (((crV M lq ((gtD [0, 4096, 8192, 12288, 16384, kc]) (Int.toNat x93)))).2.2.2)]) (ys := #[vi (((crV M lq ((gtD [0, 4096, 8192, 12288, 16384, kc]) (Int.toNat x93)))).1), vi (((crV M lq ((gtD [0, 4096, 8192, 12288, 16384, kc]) (Int.toNat x93)))).2.1), vu (((crV M lq ((gtD [0, 4096, 8192, 12288, 16384, kc]) (Int.toNat x93)))).2.2.1), vi (((crV M lq ((gtD [0, 4096, 8192, 12288, 16384, kc]) (Int.toNat x93)))).2.2.2)]) (r := vb (!(eqAll [((((crV M lq ((gtD [0, 4096, 8192, 12288, 16384, kc]) (Int.toNat x93)))).1 : Int), (((crV M lq ((gtD [0, 4096, 8192, 12288, 16384, kc]) (Int.toNat x93)))).1 : Int)), ((((crV M lq ((gtD [0, 4096, 8192, 12288, 16384, kc]) (Int.toNat x93)))).2.1 : Int), (((crV M lq ((gtD [0, 4096, 8192, 12288, 16384, kc]) (Int.toNat x93)))).2.1 : Int)), ((((crV M lq ((gtD [0, 4096, 8192, 12288, 16384, kc]) (Int.toNat x93)))).2.2.1 : Int), (((crV M lq ((gtD [0, 4096, 8192, 12288, 16384, kc]) (Int.toNat x93)))).2.2.1 : Int)), ((((crV M lq ((gtD [0, 4096, 8192, 12288, 16384, kc]) (Int.toNat x93)))).2.2.2 : Int), (((crV M lq ((gtD [0, 4096, 8192, 12288, 16384, kc]) (Int.toNat x93)))).2.2.2 : Int))]))) (fun w => run_neS (l := [((((crV M lq ((gtD [0, 4096, 8192, 12288, 16384, kc]) (Int.toNat x93)))).1 : Int), (((crV M lq ((gtD [0, 4096, 8192, 12288, 16384, kc]) (Int.toNat x93)))).1 : Int)), ((((crV M lq ((gtD [0, 4096, 8192, 12288, 16384, kc]) (Int.toNat x93)))).2.1 : Int), (((crV M lq ((gtD [0, 4096, 8192, 12288, 16384, kc]) (Int.toNat x93)))).2.1 : Int)), ((((crV M lq ((gtD [0, 4096, 8192, 12288, 16384, kc]) (Int.toNat x93)))).2.2.1 : Int), (((crV M lq ((gtD [0, 4096, 8192, 12288, 16384, kc]) (Int.toNat x93)))).2.2.1 : Int)), ((((crV M lq ((gtD [0, 4096, 8192, 12288, 16384, kc]) (Int.toNat x93)))).2.2.2 : Int), (((crV M lq ((gtD [0, 4096, 8192, 12288, 16384, kc]) (Int.toNat x93)))).2.2.2 : Int))]) w (by as_aux_lemma => kernel_rfl) (by as_aux_lemma => kernel_rfl) (by as_aux_lemma => kernel_rfl)) (by as_aux_lemma => kernel_rfl) fun ac hS => ?_
     replace hS := hS.fix 112 (vb false) (show (vb (!(eqAll [((((crV M lq ((gtD [0, 4096, 8192, 12288, 16384, kc]) (Int.toNat x93)))).1 : Int), (((crV M lq ((gtD [0, 4096, 8192, 12288, 16384, kc]) (Int.toNat x93)))).1 : Int)), ((((crV M lq ((gtD [0, 4096, 8192, 12288, 16384, kc]) (Int.toNat x93)))).2.1 : Int), (((crV M lq ((gtD [0, 4096, 8192, 12288, 16384, kc]) (Int.toNat x93)))).2.1 : Int)), ((((crV M lq ((gtD [0, 4096, 8192, 12288, 16384, kc]) (Int.toNat x93)))).2.2.1 : Int), (((crV M lq ((gtD [0, 4096, 8192, 12288, 16384, kc]) (Int.toNat x93)))).2.2.1 : Int)), ((((crV M lq ((gtD [0, 4096, 8192, 12288, 16384, kc]) (Int.toNat x93)))).2.2.2 : Int), (((crV M lq ((gtD [0, 4096, 8192, 12288, 16384, kc]) (Int.toNat x93)))).2.2.2 : Int))])) : Value) = vb false from vbool (by simp [eqAll]))
     refine hS.opsC 5 [0, 1, 1, fx 1 (vb false), 60] [3, 4, 5, 34, 35, 36, 91, 92, 93] fun _ => seg [(117, vb false)] [(0, none), (1, none), (2, none), (3, none), (4, none), (5, none)] [.t false, .t false, .p ((vb (((crE M lq ((gtD [0, 4096, 8192, 12288, 16384, kc]) (Int.toNat x93))) : Int) != (crE M lq ((gtD [0, 4096, 8192, 12288, 16384, kc]) (Int.toNat x93)))) : Value) = vb false), .t false, .t false] ⟨(congrArg Value.bool (bne_self_eq_false _)), trivial⟩ fun ac wd hS => ?_
     refine list_nil_seq ?_
     refine hS.condF ?_
     refine wp_skip ?_
     refine pop_block ?_
     refine pop_then ?_
     refine hS.regC [20, 0] [3, 4, 5, 34, 35, 36, 91, 92] fun _ => seg [(93, vi (x93 + 1))] [(0, none), (1, none), (2, none), (3, none), (4, none), (5, none)] [.p (fit .i64 (x93 + 1))] ⟨fit_i64 (by omega), trivial⟩ fun ac wd hS => ?_
     exact pop_then (hS.next (x93 + 1) ⟨(by first | omega | assumption | (simp; done) | (simp; omega)), trivial⟩ (by dsimp only; omega))
    ·
     refine wp_exit ?_
     refine pop_then_exit ?_
     refine pop_then_exit ?_
     refine pop_block_hit ?_
     refine pop_block ?_
     refine pop_then ?_
     refine hS.regC [20, 0] [3, 4, 5, 34, 35] fun _ => seg [(36, vi (x36 + 1))] [(0, none), (1, none), (2, none), (3, none), (4, none)] [.p (fit .i64 (x36 + 1))] ⟨fit_i64 (by omega), trivial⟩ fun ac wd hS => ?_
     replace hS := hS.perm (H' := [(1, .fn 0 64 dbT), (g7, .fn o7 (o7 + l.length * 5) (a10V (gtD l) o7)), (g27, .fn 0 (0 + M.cap) (strs (pgS M) 0)), ((ν11 0), .cells [sc g27 0 M.cap M.cap, vi (-1)] 66), (gq, .fn oq (oq + lq.length * 4) (chV (gtD lq) oq))]) [0, 1, 2, 3, 4] (by as_aux_lemma => kernel_rfl) (by decide)
     exact pop_then (hS.next ((x36 + 1), Fx, mx, aoq, cq, gq, oq, lq) ⟨(by omega), (by first | exact hR9 | exact i1), (by omega), (by exact hvq), trivial⟩ (by dsimp only; omega))
   ·
    refine hS.regS [0, 0] [3, 4, 5, 7, 34, 35, 36] fun _ => seg [(57, vb (((kd % 4) : Int) == 3))] [(0, none), (1, none), (2, none), (3, none), (4, none), (5, none)] [] trivial fun ac wd hS => ?_
    refine hS.condC (((kd % 4) : Int) == 3) (fun hb12o hb12 => ?_) (fun hb12o hb12 => ?_)
    ·
     refine wp_seq ?_
     refine hS.regS [0, 0, 500, 0, 0] [3, 4, 5, 7, 34, 35, 36] fun _ => seg [(63, vb (((Int.tmod kc 4096) : Int) != 0))] [(0, none), (1, none), (2, none), (3, none), (4, none), (5, none)] [.e (ν15 0)] trivial fun ac wd hS => ?_
     refine hS.condC (((Int.tmod kc 4096) : Int) != 0) (fun hb13o hb13 => ?_) (fun hb13o hb13 => ?_)
     ·
      refine wp_exit ?_
      refine pop_then_exit ?_
      refine pop_block_miss rfl ?_
      refine pop_then_exit ?_
      refine pop_block_hit ?_
      refine pop_then ?_
      refine hS.regC [20, 0] [3, 4, 5, 34, 35] fun _ => seg [(36, vi (x36 + 1))] [(0, none), (1, none), (2, none), (3, none), (4, none)] [.p (fit .i64 (x36 + 1))] ⟨fit_i64 (by omega), trivial⟩ fun ac wd hS => ?_
      replace hS := hS.perm (H' := [(1, .fn 0 64 dbT), (g7, .fn o7 (o7 + l.length * 5) (a10V (gtD l) o7)), (g27, .fn 0 (0 + M.cap) (strs (pgS M) 0)), ((ν11 0), .cells [sc g27 0 M.cap M.cap, vi (-1)] 66), (gq, .fn oq (oq + lq.length * 4) (chV (gtD lq) oq))]) [0, 1, 2, 3, 4] (by as_aux_lemma => kernel_rfl) (by decide)
      exact pop_then (hS.next ((x36 + 1), Fx, mx, aoq, cq, gq, oq, lq) ⟨(by omega), (by first | exact hR9 | exact i1), (by omega), (by exact hvq), trivial⟩ (by dsimp only; omega))
     ·
      have hal : kc % 4096 = 0 := Int.emod_eq_zero_of_dvd (Int.dvd_of_tmod_eq_zero (by have := hb13; omega))
      refine wp_skip ?_
      refine pop_then ?_
      refine wp_region_seq ?_
      refine hS.opsC 4 [0, 0, 0, 500] [3, 4, 5, 7, 34, 35, 36] fun _ => seg [(64, pt b'2 0), (67, vi kc)] [(0, none), (1, none), (2, none), (3, none), (4, none), (5, none)] [.e (ν15 0)] trivial fun ac wd hS => ?_
      refine hS.callC 41 #[pt b'2 0, vi kc] (chunk_Wipe_r b'2 Fx mx kc M lq _ (hS.mem.res 0) (by first | with_reducible assumption | exact i1) (by first | assumption | omega | (simp_all; done) | (simp_all; omega))) ?_
      rintro _ wd ⟨F14, rfl, hA, hF⟩
      refine ⟨vi (if crE M lq kc = 7 then 0 else crE M lq kc), rfl, ?_⟩
      replace hS := (hS.to (hS.mem.stepA 0 rfl hA hF)).put (d := 68) (v := vi (if crE M lq kc = 7 then 0 else crE M lq kc)) (by decide)
      clear hF
      refine hS.opsC 1 [0] [3, 4, 5, 7, 34, 35, 36] fun _ => seg [(8, vi (if crE M lq kc = 7 then 0 else crE M lq kc))] [(0, none), (1, none), (2, none), (3, none), (4, none), (5, none)] [] trivial fun ac wd hS => ?_
      refine list_nil_seq ?_
      refine wp_seq ?_
      refine wp_region_seq ?_
      refine hS.opsC 5 [300, 0, 0, 0, 500] [3, 4, 5, 7, 8, 34, 35, 36] fun _ => seg [(70, .agg #[sc g27 0 M.cap M.cap, vi (-1)]), (71, .slice aoq lq.length cq), (74, vi kc)] [(0, none), (1, none), (2, none), (3, none), (4, none), (5, none)] [.e (ν15 0), .e (ν11 0), .e (ν11 0)] trivial fun ac wd hS => ?_
      refine hS.call0 42 #[.agg #[sc g27 0 M.cap M.cap, vi (-1)], .slice aoq lq.length cq, vi kc] 75 (r10_Read g27 0 M.cap M.cap (-1) aoq cq gq oq lq kc (pgS M) M _ (hS.mem.get 2 g27 (.fn 0 (0 + M.cap) (strs (pgS M) 0))) (hS.mem.get 4 gq (.fn oq (oq + lq.length * 4) (chV (gtD lq) oq))) hvq (by exact hMc) (by exact hT) (by first | assumption | omega | (simp_all; done) | (simp_all; omega))) fun ac wd hS => ?_
      refine hS.opsC 4 [0, 0, 0, 0] [3, 4, 5, 7, 8, 34, 35, 36] fun _ => seg [(9, vi (crE M lq kc))] [(0, none), (1, none), (2, none), (3, none), (4, none), (5, none)] [] trivial fun ac wd hS => ?_
      refine list_nil_seq ?_
      refine hS.regS [0, 0] [3, 4, 5, 7, 8, 9, 34, 35, 36] fun _ => seg [(79, vb (((crE M lq kc) : Int) == 7))] [(0, none), (1, none), (2, none), (3, none), (4, none), (5, none)] [] trivial fun ac wd hS => ?_
      refine hS.condC (((crE M lq kc) : Int) == 7) (fun hb15o hb15 => ?_) (fun hb15o hb15 => ?_)
      ·
       refine hS.regC [0] [3, 4, 5, 7, 8, 34, 35, 36] fun _ => seg [(9, vi 0)] [(0, none), (1, none), (2, none), (3, none), (4, none), (5, none)] [] trivial fun ac wd hS => ?_
       refine pop_then ?_
       refine wp_region_lit ?_
       refine hS.opsC 4 [0, 0, 0, 500] [3, 4, 5, 7, 8, 9, 34, 35, 36] fun _ => seg [(80, .slice aoq lq.length cq), (83, vi kc)] [(0, none), (1, none), (2, none), (3, none), (4, none), (5, none)] [.e (ν15 0)] trivial fun ac wd hS => ?_
       refine hS.callC 43 #[.slice aoq lq.length cq, vi kc] (r10_Without aoq cq gq oq lq kc _ (hS.mem.get 4 gq (.fn oq (oq + lq.length * 4) (chV (gtD lq) oq))) hvq (by first | assumption | omega | (simp_all; done) | (simp_all; omega))) ?_
       rintro _ wd ⟨ao216, c217, F18, rfl, hN, hF⟩
       refine ⟨.slice ao216 ((cWo lq kc).length) c217, rfl, ?_⟩
       replace hS := (hS.to (hS.mem.newA hN hF)).put (d := 84) (v := .slice ao216 ((cWo lq kc).length) c217) (by decide)
       clear hF
       refine hS.opsC 1 [0] [3, 4, 7, 8, 9, 34, 35, 36] fun _ => seg [(5, .slice ao216 ((cWo lq kc).length) c217)] [(0, none), (1, none), (2, none), (3, none), (5, none)] [] trivial fun ac wd hS => ?_
       refine list_nil ?_
       refine pop_block ?_
       refine pop_then ?_
       refine wp_seq ?_
       obtain ⟨gl19, hl20, hO⟩ := WS.grList (e := 82) (sz := 4) (m := ((cWo lq kc).length)) (F := F18) (f := (chV (gtD (cWo lq kc)) 0)) (ao := ao216) (c2 := c217) hS.mem 1 0 (b := 1) (lo := 0) (hi := 64) (fd := dbT)
       replace hS := hS.to hO
       clear hO
       refine hS.regS [0, 0, 0] [3, 4, 5, 7, 34, 35, 36] fun _ => seg [(87, vb (((if crE M lq kc = 7 then 0 else crE M lq kc) : Int) != 0))] [(0, none), (1, none), (2, none), (3, none), (4, none), (5, none)] [] trivial fun ac wd hS => ?_
       refine hS.condC (((if crE M lq kc = 7 then 0 else crE M lq kc) : Int) != 0) (fun hb21o hb21 => ?_) (fun hb21o hb21 => ?_)
       ·
        refine hS.regS [0] [] fun _ => seg [(2, vb false)] [(0, none)] [] trivial fun ac wd hS => ?_
        refine wp_ret ?_
        refine pop_then_ret ?_
        refine pop_block_ret ?_
        refine pop_then_ret ?_
        refine pop_then_ret ?_
        refine pop_block_ret ?_
        refine pop_then_ret ?_
        refine St.retC 0 hS (vb false) [] trivial fun hw => ?_
        refine ⟨retd (vbool ?_), hw.fr0⟩
        all_goals (first | rfl | (simp; done) | (exfalso; omega))
       ·
        refine wp_skip ?_
        refine pop_then ?_
        have hR9 : ChR M (filM mx kc 32 0)  (cWo lq kc) := by first | exact (i1.write how).2 | exact (i1.wipe hal).2 | exact i1
        clear i1
        refine hS.regS [0, 0, 400, 0, 0, 0] [3, 4, 5, 34, 35, 36] fun ν44 => seg [(91, sc (ν44 0) 0 6 6), (92, vi 6), (93, vi 0)] [(0, none), (1, none), (2, none), (3, none), (5, none), (6, some ((ν44 0), .cells [vi 0, vi 4096, vi 8192, vi 12288, vi 16384, vi kc] 3))] [.e (ν15 0)] trivial fun ac wd hS => ?_
        refine wp_block ?_
        replace hS := hS.to (hS.mem.shareC (b := (ν44 0)) (cs := [vi 0, vi 4096, vi 8192, vi 12288, vi 16384, vi kc]) (T := 3) 5 6 ((i1V (gtD [0, 4096, 8192, 12288, 16384, kc]) 0)) (by intro o_ ho_; (repeat (rcases o_ with _ | o_; rfl)); exact absurd ho_ (by omega)))
        refine St.loopC (σ := Int) (fun (x93 : Int) => ⟨[(3, [], pt b'2 0), (4, [], pt (ν11 0) 0), (5, [], .slice ao216 ((cWo lq kc).length) c217), (34, [], sc g7 o7 l.length c7), (35, [], vi ((l.length : Nat) : Int)), (36, [], vi x36), (91, [], sc (ν44 0) 0 6 6), (92, [], vi 6), (93, [], vi x93)], [(1, .fn 0 64 dbT), (g7, .fn o7 (o7 + l.length * 5) (a10V (gtD l) o7)), (g27, .fn 0 (0 + M.cap) (strs (pgS M) 0)), ((ν11 0), .cells [sc g27 0 M.cap M.cap, vi (-1)] 66), (gl19, .fn 0 (0 + (cWo lq kc).length * 4) (chV (gtD (cWo lq kc)) 0)), ((ν44 0), .fn 0 6 (i1V (gtD [0, 4096, 8192, 12288, 16384, kc]) 0))], [arR b'2 F14 (filM mx kc 32 0)], (0 ≤ x93 ∧ x93 ≤ 6) ∧ True, 6 - Int.toNat x93⟩) 0 ⟨(by omega), trivial⟩ hS ?_
        clear hS
        rintro x93 ⟨j0, -⟩ ac wd hS
        replace j0 : 0 ≤ x93 ∧ x93 ≤ 6 := j0
        refine hS.regS [0] [3, 4, 5, 34, 35, 36, 91, 92, 93] fun _ => seg [(94, vb (decide ((x93 : Int) < 6)))] [(0, none), (1, none), (2, none), (3, none), (4, none), (5, none)] [] trivial fun ac wd hS => ?_
        refine wp_seq ?_
        refine hS.condC (decide ((x93 : Int) < 6)) (fun hb22o hb22 => ?_) (fun hb22o hb22 => ?_)
        ·
         refine wp_skip ?_
         refine pop_then ?_
         refine wp_seq ?_
         refine wp_block ?_
         refine hS.regS [10, fx 500 (vi ((gtD [0, 4096, 8192, 12288, 16384, kc]) (Int.toNat x93))), 0] [3, 4, 5, 34, 35, 36, 91, 92, 93] fun _ => seg [(11, vi ((gtD [0, 4096, 8192, 12288, 16384, kc]) (Int.toNat x93)))] [(0, none), (1, none), (2, none), (3, none), (4, none), (5, none)] [.p ((((i1V (gtD [0, 4096, 8192, 12288, 16384, kc]) 0) (Int.toNat x93)) : Value) = vi ((gtD [0, 4096, 8192, 12288, 16384, kc]) (Int.toNat x93))), .e (ν44 0), .p (0 ≤ Int.toNat x93 ∧ Int.toNat x93 < 6), .p ((0 : Int) ≤ x93 ∧ (x93 : Int) < ((6 : Nat) : Int))] ⟨((i1V_a (gtD [0, 4096, 8192, 12288, 16384, kc]) 0 (Int.toNat x93))), (by omega), (by omega), trivial⟩ fun ac wd hS => ?_
         refine wp_region_seq ?_
         refine hS.opsC 2 [0, 0] [3, 4, 5, 11, 34, 35, 36, 91, 92, 93] fun _ => seg [(98, pt b'2 0), (99, vi ((gtD [0, 4096, 8192, 12288, 16384, kc]) (Int.toNat x93)))] [(0, none), (1, none), (2, none), (3, none), (4, none), (5, none)] [] trivial fun ac wd hS => ?_
         refine hS.call0 46 #[pt b'2 0, vi ((gtD [0, 4096, 8192, 12288, 16384, kc]) (Int.toNat x93))] 100 (chunk_Read_r b'2 F14 (filM mx kc 32 0) ((gtD [0, 4096, 8192, 12288, 16384, kc]) (Int.toNat x93)) M (cWo lq kc) _ (hS.mem.res 0) (by first | with_reducible assumption | exact i1)) fun ac wd hS => ?_
         refine hS.opsC 6 [0, 0, 0, 0, 600, 0] [3, 4, 5, 11, 34, 35, 36, 91, 92, 93] fun ν48 => seg [(12, pt (ν48 0) 0), (13, vi (crE M (cWo lq kc) ((gtD [0, 4096, 8192, 12288, 16384, kc]) (Int.toNat x93))))] [(0, none), (1, none), (2, none), (3, none), (4, none), (5, none), (6, some ((ν48 0), .cells [vi (((crV M (cWo lq kc) ((gtD [0, 4096, 8192, 12288, 16384, kc]) (Int.toNat x93)))).1), vi (((crV M (cWo lq kc) ((gtD [0, 4096, 8192, 12288, 16384, kc]) (Int.toNat x93)))).2.1), vu (((crV M (cWo lq kc) ((gtD [0, 4096, 8192, 12288, 16384, kc]) (Int.toNat x93)))).2.2.1), vi (((crV M (cWo lq kc) ((gtD [0, 4096, 8192, 12288, 16384, kc]) (Int.toNat x93)))).2.2.2)] 78))] [.e (ν48 0), .e (ν48 0), .e (ν48 0), .e (ν48 0)] trivial fun ac wd hS => ?_
         refine list_nil_seq ?_
         refine wp_region_seq ?_
         refine hS.opsC 3 [300, 0, 0] [3, 4, 5, 12, 13, 34, 35, 36, 91, 92, 93] fun _ => seg [(104, .agg #[sc g27 0 M.cap M.cap, vi (-1)]), (105, .slice ao216 ((cWo lq kc).length) c217), (106, vi ((gtD [0, 4096, 8192, 12288, 16384, kc]) (Int.toNat x93)))] [(0, none), (1, none), (2, none), (3, none), (4, none), (5, none), (6, none)] [.e (ν11 0), .e (ν11 0)] trivial fun ac wd hS => ?_
         refine hS.call0 42 #[.agg #[sc g27 0 M.cap M.cap, vi (-1)], .slice ao216 ((cWo lq kc).length) c217, vi ((gtD [0, 4096, 8192, 12288, 16384, kc]) (Int.toNat x93))] 107 (r10_Read g27 0 M.cap M.cap (-1) ao216 c217 gl19 0 (cWo lq kc) ((gtD [0, 4096, 8192, 12288, 16384, kc]) (Int.toNat x93)) (pgS M) M _ (hS.mem.get 2 g27 (.fn 0 (0 + M.cap) (strs (pgS M) 0))) (hS.mem.get 4 gl19 (.fn 0 (0 + (cWo lq kc).length * 4) (chV (gtD (cWo lq kc)) 0))) hl20 (by exact hMc) (by exact hT) (by first | assumption | omega | (simp_all; done) | (simp_all; omega))) fun ac wd hS => ?_
         refine hS.opsC 6 [0, 0, 0, 0, 700, 0] [3, 4, 5, 12, 13, 34, 35, 36, 91, 92, 93] fun ν50 => seg [(14, pt (ν50 0) 0), (15, vi (crE M (cWo lq kc) ((gtD [0, 4096, 8192, 12288, 16384, kc]) (Int.toNat x93))))] [(0, none), (1, none), (2, none), (3, none), (4, none), (5, none), (6, none), (7, some ((ν50 0), .cells [vi (((crV M (cWo lq kc) ((gtD [0, 4096, 8192, 12288, 16384, kc]) (Int.toNat x93)))).1), vi (((crV M (cWo lq kc) ((gtD [0, 4096, 8192, 12288, 16384, kc]) (Int.toNat x93)))).2.1), vu (((crV M (cWo lq kc) ((gtD [0, 4096, 8192, 12288, 16384, kc]) (Int.toNat x93)))).2.2.1), vi (((crV M (cWo lq kc) ((gtD [0, 4096, 8192, 12288, 16384, kc]) (Int.toNat x93)))).2.2.2)] 82))] [.e (ν50 0), .e (ν50 0), .e (ν50 0), .e (ν50 0)] trivial fun ac wd hS => ?_
         refine list_nil_seq ?_
         refine wp_region_seq ?_
         refine hS.opsC 2 [600, 700] [3, 4, 5, 13, 15, 34, 35, 36, 91, 92, 93] fun _ => seg [(110, .agg #[vi (((crV M (cWo lq kc) ((gtD [0, 4096, 8192, 12288, 16384, kc]) (Int.toNat x93)))).1), vi (((crV M (cWo lq kc) ((gtD [0, 4096, 8192, 12288, 16384, kc]) (Int.toNat x93)))).2.1), vu (((crV M (cWo lq kc) ((gtD [0, 4096, 8192, 12288, 16384, kc]) (Int.toNat x93)))).2.2.1), vi (((crV M (cWo lq kc) ((gtD [0, 4096, 8192, 12288, 16384, kc]) (Int.toNat x93)))).2.2.2)]), (111, .agg #[vi (((crV M (cWo lq kc) ((gtD [0, 4096, 8192, 12288, 16384, kc]) (Int.toNat x93)))).1), vi (((crV M (cWo lq kc) ((gtD [0, 4096, 8192, 12288, 16384, kc]) (Int.toNat x93)))).2.1), vu (((crV M (cWo lq kc) ((gtD [0, 4096, 8192, 12288, 16384, kc]) (Int.toNat x93)))).2.2.1), vi (((crV M (cWo lq kc) ((gtD [0, 4096, 8192, 12288, 16384, kc]) (Int.toNat x93)))).2.2.2)])] [(0, none), (1, none), (2, none), (3, none), (4, none), (5, none)] [.e (ν50 0), .e (ν50 0), .e (ν50 0), .e (ν50 0), .e (ν48 0), .e (ν48 0), .e (ν48 0), .e (ν48 0)] trivial fun ac wd hS => ?_
         refine Runs1.list ?_
         refine St.binS hS .neq (.tmp 110) (.tmp 111) 82 82 rfl rfl (by decide) (xs := #[vi (((crV M (cWo lq kc) ((gtD [0, 4096, 8192, 12288, 16384, kc]) (Int.toNat x93)))).1), vi (((crV M (cWo lq kc) ((gtD [0, 4096, 8192, 12288, 16384, kc]) (Int.toNat x93)))).2.1), vu (((crV M (cWo lq kc) ((gtD [0, 4096, 8192, 12288, 16384, kc]) (Int.toNat x93)))).2.2.1), vi (((crV M (cWo lq kc) ((gtD [0, 4096, 8192, 12288, 16384, kc]) (Int.toNat x93)))).2.2.2)]) (ys := #[vi (((crV M (cWo lq kc) ((gtD [0, 4096, 8192, 12288, 16384, kc]) (Int.toNat x93)))).1), vi (((crV M (cWo lq kc) ((gtD [0, 4096, 8192, 12288, 16384, kc]) (Int.toNat x93)))).2.1), vu (((crV M (cWo lq kc) ((gtD [0, 4096, 8192, 12288, 16384, kc]) (Int.toNat x93)))).2.2.1), vi (((crV M (cWo lq kc) ((gtD [0, 4096, 8192, 12288, 16384, kc]) (Int.toNat x93)))).2.2.2)]) (r := vb (!(eqAll [((((crV M (cWo lq kc) ((gtD [0, 4096, 8192, 12288, 16384, kc]) (Int.toNat x93)))).1 : Int), (((crV M (cWo lq kc) ((gtD [0, 4096, 8192, 12288, 16384, kc]) (Int.toNat x93)))).1 : Int)), ((((crV M (cWo lq kc) ((gtD [0, 4096, 8192, 12288, 16384, kc]) (Int.toNat x93)))).2.1 : Int), (((crV M (cWo lq kc) ((gtD [0, 4096, 8192, 12288, 16384, kc]) (Int.toNat x93)))).2.1 : Int)), ((((crV M (cWo lq kc) ((gtD [0, 4096, 8192, 12288, 16384, kc]) (Int.toNat x93)))).2.2.1 : Int), (((crV M (cWo lq kc) ((gtD [0, 4096, 8192, 12288, 16384, kc]) (Int.toNat x93)))).2.2.1 : Int)), ((((crV M (cWo lq kc) ((gtD [0, 4096, 8192, 12288, 16384, kc]) (Int.toNat x93)))).2.2.2 : Int), (((crV M (cWo lq kc) ((gtD [0, 4096, 8192, 12288, 16384, kc]) (Int.toNat x93)))).2.2.2 : Int))]))) (fun w => run_neS (l := [((((crV M (cWo lq kc) ((gtD [0, 4096, 8192, 12288, 16384, kc]) (Int.toNat x93)))).1 : Int), (((crV M (cWo lq kc) ((gtD [0, 4096, 8192, 12288, 16384, kc]) (Int.toNat x93)))).1 : Int)), ((((crV M (cWo lq kc) ((gtD [0, 4096, 8192, 12288, 16384, kc]) (Int.toNat x93)))).2.1 : Int), (((crV M (cWo lq kc) ((gtD [0, 4096, 8192, 12288, 16384, kc]) (Int.toNat x93)))).2.1 : Int)), ((((crV M (cWo lq kc) ((gtD [0, 4096, 8192, 12288, 16384, kc]) (Int.toNat x93)))).2.2.1 : Int), (((crV M (cWo lq kc) ((gtD [0, 4096, 8192, 12288, 16384, kc]) (Int.toNat x93)))).2.2.1 : Int)), ((((crV M (cWo lq kc) ((gtD [0, 4096, 8192, 12288, 16384, kc]) (Int.toNat x93)))).2.2.2 : Int), (((crV M (cWo lq kc) ((gtD [0, 4096, 8192, 12288, 16384, kc]) (Int.toNat x93)))).2.2.2 : Int))]) w (by as_aux_lemma => kernel_rfl) (by as_aux_lemma => kernel_rfl) (by as_aux_lemma => kernel_rfl)) (by as_aux_lemma => kernel_rfl) fun ac hS => ?_
         replace hS := hS.fix 112 (vb false) (show (vb (!(eqAll [((((crV M (cWo lq kc) ((gtD [0, 4096, 8192, 12288, 16384, kc]) (Int.toNat x93)))).1 : Int), (((crV M (cWo lq kc) ((gtD [0, 4096, 8192, 12288, 16384, kc]) (Int.toNat x93)))).1 : Int)), ((((crV M (cWo lq kc) ((gtD [0, 4096, 8192, 12288, 16384, kc]) (Int.toNat x93)))).2.1 : Int), (((crV M (cWo lq kc) ((gtD [0, 4096, 8192, 12288, 16384, kc]) (Int.toNat x93)))).2.1 : Int)), ((((crV M (cWo lq kc) ((gtD [0, 4096, 8192, 12288, 16384, kc]) (Int.toNat x93)))).2.2.1 : Int), (((crV M (cWo lq kc) ((gtD [0, 4096, 8192, 12288, 16384, kc]) (Int.toNat x93)))).2.2.1 : Int)), ((((crV M (cWo lq kc) ((gtD [0, 4096, 8192, 12288, 16384, kc]) (Int.toNat x93)))).2.2.2 : Int), (((crV M (cWo lq kc) ((gtD [0, 4096, 8192, 12288, 16384, kc]) (Int.toNat x93)))).2.2.2 : Int))])) : Value) = vb false from vbool (by simp [eqAll]))
         refine hS.opsC 5 [0, 1, 1, fx 1 (vb false), 60] [3, 4, 5, 34, 35, 36, 91, 92, 93] fun _ => seg [(117, vb false)] [(0, none), (1, none), (2, none), (3, none), (4, none), (5, none)] [.t false, .t false, .p ((vb (((crE M (cWo lq kc) ((gtD [0, 4096, 8192, 12288, 16384, kc]) (Int.toNat x93))) : Int) != (crE M (cWo lq kc) ((gtD [0, 4096, 8192, 12288, 16384, kc]) (Int.toNat x93)))) : Value) = vb false), .t false, .t false] ⟨(congrArg Value.bool (bne_self_eq_false _)), trivial⟩ fun ac wd hS => ?_
         refine list_nil_seq ?_
         refine hS.condF ?_
         refine wp_skip ?_
         refine pop_block ?_
         refine pop_then ?_
         refine hS.regC [20, 0] [3, 4, 5, 34, 35, 36, 91, 92] fun _ => seg [(93, vi (x93 + 1))] [(0, none), (1, none), (2, none), (3, none), (4, none), (5, none)] [.p (fit .i64 (x93 + 1))] ⟨fit_i64 (by omega), trivial⟩ fun ac wd hS => ?_
         exact pop_then (hS.next (x93 + 1) ⟨(by first | omega | assumption | (simp; done) | (simp; omega)), trivial⟩ (by dsimp only; omega))
        ·
         refine wp_exit ?_
         refine pop_then_exit ?_
         refine pop_then_exit ?_
         refine pop_block_hit ?_
         refine pop_block ?_
         refine pop_then ?_
         refine hS.regC [20, 0] [3, 4, 5, 34, 35] fun _ => seg [(36, vi (x36 + 1))] [(0, none), (1, none), (2, none), (3, none), (4, none)] [.p (fit .i64 (x36 + 1))] ⟨fit_i64 (by omega), trivial⟩ fun ac wd hS => ?_
         replace hS := hS.perm (H' := [(1, .fn 0 64 dbT), (g7, .fn o7 (o7 + l.length * 5) (a10V (gtD l) o7)), (g27, .fn 0 (0 + M.cap) (strs (pgS M) 0)), ((ν11 0), .cells [sc g27 0 M.cap M.cap, vi (-1)] 66), (gl19, .fn 0 (0 + (cWo lq kc).length * 4) (chV (gtD (cWo lq kc)) 0))]) [0, 1, 2, 3, 4] (by as_aux_lemma => kernel_rfl) (by decide)
         exact pop_then (hS.next ((x36 + 1), F14, (filM mx kc 32 0), ao216, c217, gl19, 0, (cWo lq kc)) ⟨(by omega), (by first | exact hR9 | exact i1), (by omega), (by exact hl20), trivial⟩ (by dsimp only; omega))
      ·
       refine wp_skip ?_
       refine pop_then ?_
       refine wp_region_lit ?_
       refine hS.opsC 4 [0, 0, 0, 500] [3, 4, 5, 7, 8, 9, 34, 35, 36] fun _ => seg [(80, .slice aoq lq.length cq), (83, vi kc)] [(0, none), (1, none), (2, none), (3, none), (4, none), (5, none)] [.e (ν15 0)] trivial fun ac wd hS => ?_
       refine hS.callC 43 #[.slice aoq lq.length cq, vi kc] (r10_Without aoq cq gq oq lq kc _ (hS.mem.get 4 gq (.fn oq (oq + lq.length * 4) (chV (gtD lq) oq))) hvq (by first | assumption | omega | (simp_all; done) | (simp_all; omega))) ?_
       rintro _ wd ⟨ao223, c224, F25, rfl, hN, hF⟩
       refine ⟨.slice ao223 ((cWo lq kc).length) c224, rfl, ?_⟩
       replace hS := (hS.to (hS.mem.newA hN hF)).put (d := 84) (v := .slice ao223 ((cWo lq kc).length) c224) (by decide)
       clear hF
       refine hS.opsC 1 [0] [3, 4, 7, 8, 9, 34, 35, 36] fun _ => seg [(5, .slice ao223 ((cWo lq kc).length) c224)] [(0, none), (1, none), (2, none), (3, none), (5, none)] [] trivial fun ac wd hS => ?_
       refine list_nil ?_
       refine pop_block ?_
       refine pop_then ?_
       refine wp_seq ?_
       obtain ⟨gl26, hl27, hO⟩ := WS.grList (e := 82) (sz := 4) (m := ((cWo lq kc).length)) (F := F25) (f := (chV (gtD (cWo lq kc)) 0)) (ao := ao223) (c2 := c224) hS.mem 1 0 (b := 1) (lo := 0) (hi := 64) (fd := dbT)
       replace hS := hS.to hO
       clear hO
       refine hS.regS [0, 0, 0] [3, 4, 5, 7, 34, 35, 36] fun _ => seg [(87, vb (((if crE M lq kc = 7 then 0 else crE M lq kc) : Int) != (crE M lq kc)))] [(0, none), (1, none), (2, none), (3, none), (4, none), (5, none)] [] trivial fun ac wd hS => ?_
       refine hS.condC (((if crE M lq kc = 7 then 0 else crE M lq kc) : Int) != (crE M lq kc)) (fun hb28o hb28 => ?_) (fun hb28o hb28 => ?_)
       ·
        refine hS.regS [0] [] fun _ => seg [(2, vb false)] [(0, none)] [] trivial fun ac wd hS => ?_
        refine wp_ret ?_
        refine pop_then_ret ?_
        refine pop_block_ret ?_
        refine pop_then_ret ?_
        refine pop_then_ret ?_
        refine pop_block_ret ?_
        refine pop_then_ret ?_
        refine St.retC 0 hS (vb false) [] trivial fun hw => ?_
        refine ⟨retd (vbool ?_), hw.fr0⟩
        all_goals (first | rfl | (simp; done) | (exfalso; omega))
       ·
        refine wp_skip ?_
        refine pop_then ?_
        have hR9 : ChR M (filM mx kc 32 0)  (cWo lq kc) := by first | exact (i1.write how).2 | exact (i1.wipe hal).2 | exact i1
        clear i1
        refine hS.regS [0, 0, 400, 0, 0, 0] [3, 4, 5, 34, 35, 36] fun ν59 => seg [(91, sc (ν59 0) 0 6 6), (92, vi 6), (93, vi 0)] [(0, none), (1, none), (2, none), (3, none), (5, none), (6, some ((ν59 0), .cells [vi 0, vi 4096, vi 8192, vi 12288, vi 16384, vi kc] 3))] [.e (ν15 0)] trivial fun ac wd hS => ?_
        refine wp_block ?_
        replace hS := hS.to (hS.mem.shareC (b := (ν59 0)) (cs := [vi 0, vi 4096, vi 8192, vi 12288, vi 16384, vi kc]) (T := 3) 5 6 ((i1V (gtD [0, 4096, 8192, 12288, 16384, kc]) 0)) (by intro o_ ho_; (repeat (rcases o_ with _ | o_; rfl)); exact absurd ho_ (by omega)))
        refine St.loopC (σ := Int) (fun (x93 : Int) => ⟨[(3, [], pt b'2 0), (4, [], pt (ν11 0) 0), (5, [], .slice ao223 ((cWo lq kc).length) c224), (34, [], sc g7 o7 l.length c7), (35, [], vi ((l.length : Nat) : Int)), (36, [], vi x36), (91, [], sc (ν59 0) 0 6 6), (92, [], vi 6), (93, [], vi x93)], [(1, .fn 0 64 dbT), (g7, .fn o7 (o7 + l.length * 5) (a10V (gtD l) o7)), (g27, .fn 0 (0 + M.cap) (strs (pgS M) 0)), ((ν11 0), .cells [sc g27 0 M.cap M.cap, vi (-1)] 66), (gl26, .fn 0 (0 + (cWo lq kc).length * 4) (chV (gtD (cWo lq kc)) 0)), ((ν59 0), .fn 0 6 (i1V (gtD [0, 4096, 8192, 12288, 16384, kc]) 0))], [arR b'2 F14 (filM mx kc 32 0)], (0 ≤ x93 ∧ x93 ≤ 6) ∧ True, 6 - Int.toNat x93⟩) 0 ⟨(by omega), trivial⟩ hS ?_
        clear hS
        rintro x93 ⟨j0, -⟩ ac wd hS
        replace j0 : 0 ≤ x93 ∧ x93 ≤ 6 := j0
        refine hS.regS [0] [3, 4, 5, 34, 35, 36, 91, 92, 93] fun _ => seg [(94, vb (decide ((x93 : Int) < 6)))] [(0, none), (1, none), (2, none), (3, none), (4, none), (5, none)] [] trivial fun ac wd hS => ?_
        refine wp_seq ?_
        refine hS.condC (decide ((x93 : Int) < 6)) (fun hb29o hb29 => ?_) (fun hb29o hb29 => ?_)
        ·
         refine wp_skip ?_
         refine pop_then ?_
         refine wp_seq ?_
         refine wp_block ?_
         refine hS.regS [10, fx 500 (vi ((gtD [0, 4096, 8192, 12288, 16384, kc]) (Int.toNat x93))), 0] [3, 4, 5, 34, 35, 36, 91, 92, 93] fun _ => seg [(11, vi ((gtD [0, 4096, 8192, 12288, 16384, kc]) (Int.toNat x93)))] [(0, none), (1, none), (2, none), (3, none), (4, none), (5, none)] [.p ((((i1V (gtD [0, 4096, 8192, 12288, 16384, kc]) 0) (Int.toNat x93)) : Value) = vi ((gtD [0, 4096, 8192, 12288, 16384, kc]) (Int.toNat x93))), .e (ν59 0), .p (0 ≤ Int.toNat x93 ∧ Int.toNat x93 < 6), .p ((0 : Int) ≤ x93 ∧ (x93 : Int) < ((6 : Nat) : Int))] ⟨((i1V_a (gtD [0, 4096, 8192, 12288, 16384, kc]) 0 (Int.toNat x93))), (by omega), (by omega), trivial⟩ fun ac wd hS => ?_
         refine wp_region_seq ?_
         refine hS.opsC 2 [0, 0] [3, 4, 5, 11, 34, 35, 36, 91, 92, 93] fun _ => seg [(98, pt b'2 0), (99, vi ((gtD [0, 4096, 8192, 12288, 16384, kc]) (Int.toNat x93)))] [(0, none), (1, none), (2, none), (3, none), (4, none), (5, none)] [] trivial fun ac wd hS => ?_
         refine hS.call0 46 #[pt b'2 0, vi ((gtD [0, 4096, 8192, 12288, 16384, kc]) (Int.toNat x93))] 100 (chunk_Read_r b'2 F14 (filM mx kc 32 0) ((gtD [0, 4096, 8192, 12288, 16384, kc]) (Int.toNat x93)) M (cWo lq kc) _ (hS.mem.res 0) (by first | with_reducible assumption | exact i1)) fun ac wd hS => ?_
         refine hS.opsC 6 [0, 0, 0, 0, 600, 0] [3, 4, 5, 11, 34, 35, 36, 91, 92, 93] fun ν63 => seg [(12, pt (ν63 0) 0), (13, vi (crE M (cWo lq kc) ((gtD [0, 4096, 8192, 12288, 16384, kc]) (Int.toNat x93))))] [(0, none), (1, none), (2, none), (3, none), (4, none), (5, none), (6, some ((ν63 0), .cells [vi (((crV M (cWo lq kc) ((gtD [0, 4096, 8192, 12288, 16384, kc]) (Int.toNat x93)))).1), vi (((crV M (cWo lq kc) ((gtD [0, 4096, 8192, 12288, 16384, kc]) (Int.toNat x93)))).2.1), vu (((crV M (cWo lq kc) ((gtD [0, 4096, 8192, 12288, 16384, kc]) (Int.toNat x93)))).2.2.1), vi (((crV M (cWo lq kc) ((gtD [0, 4096, 8192, 12288, 16384, kc]) (Int.toNat x93)))).2.2.2)] 78))] [.e (ν63 0), .e (ν63 0), .e (ν63 0), .e (ν63 0)] trivial fun ac wd hS => ?_
         refine list_nil_seq ?_
         refine wp_region_seq ?_
         refine hS.opsC 3 [300, 0, 0] [3, 4, 5, 12, 13, 34, 35, 36, 91, 92, 93] fun _ => seg [(104, .agg #[sc g27 0 M.cap M.cap, vi (-1)]), (105, .slice ao223 ((cWo lq kc).length) c224), (106, vi ((gtD [0, 4096, 8192, 12288, 16384, kc]) (Int.toNat x93)))] [(0, none), (1, none), (2, none), (3, none), (4, none), (5, none), (6, none)] [.e (ν11 0), .e (ν11 0)] trivial fun ac wd hS => ?_
         refine hS.call0 42 #[.agg #[sc g27 0 M.cap M.cap, vi (-1)], .slice ao223 ((cWo lq kc).length) c224, vi ((gtD [0, 4096, 8192, 12288, 16384, kc]) (Int.toNat x93))] 107 (r10_Read g27 0 M.cap M.cap (-1) ao223 c224 gl26 0 (cWo lq kc) ((gtD [0, 4096, 8192, 12288, 16384, kc]) (Int.toNat x93)) (pgS M) M _ (hS.mem.get 2 g27 (.fn 0 (0 + M.cap) (strs (pgS M) 0))) (hS.mem.get 4 gl26 (.fn 0 (0 + (cWo lq kc).length * 4) (chV (gtD (cWo lq kc)) 0))) hl27 (by exact hMc) (by exact hT) (by first | assumption | omega | (simp_all; done) | (simp_all; omega))) fun ac wd hS => ?_
         refine hS.opsC 6 [0, 0, 0, 0, 700, 0] [3, 4, 5, 12, 13, 34, 35, 36, 91, 92, 93] fun ν65 => seg [(14, pt (ν65 0) 0), (15, vi (crE M (cWo lq kc) ((gtD [0, 4096, 8192, 12288, 16384, kc]) (Int.toNat x93))))] [(0, none), (1, none), (2, none), (3, none), (4, none), (5, none), (6, none), (7, some ((ν65 0), .cells [vi (((crV M (cWo lq kc) ((gtD [0, 4096, 8192, 12288, 16384, kc]) (Int.toNat x93)))).1), vi (((crV M (cWo lq kc) ((gtD [0, 4096, 8192, 12288, 16384, kc]) (Int.toNat x93)))).2.1), vu (((crV M (cWo lq kc) ((gtD [0, 4096, 8192, 12288, 16384, kc]) (Int.toNat x93)))).2.2.1), vi (((crV M (cWo lq kc) ((gtD [0, 4096, 8192, 12288, 16384, kc]) (Int.toNat x93)))).2.2.2)] 82))] [.e (ν65 0), .e (ν65 0), .e (ν65 0), .e (ν65 0)] trivial fun ac wd hS => ?_
         refine list_nil_seq ?_
         refine wp_region_seq ?_
         refine hS.opsC 2 [600, 700] [3, 4, 5, 13, 15, 34, 35, 36, 91, 92, 93] fun _ => seg [(110, .agg #[vi (((crV M (cWo lq kc) ((gtD [0, 4096, 8192, 12288, 16384, kc]) (Int.toNat x93)))).1), vi (((crV M (cWo lq kc) ((gtD [0, 4096, 8192, 12288, 16384, kc]) (Int.toNat x93)))).2.1), vu (((crV M (cWo lq kc) ((gtD [0, 4096, 8192, 12288, 16384, kc]) (Int.toNat x93)))).2.2.1), vi (((crV M (cWo lq kc) ((gtD [0, 4096, 8192, 12288, 16384, kc]) (Int.toNat x93)))).2.2.2)]), (111, .agg #[vi (((crV M (cWo lq kc) ((gtD [0, 4096, 8192, 12288, 16384, kc]) (Int.toNat x93)))).1), vi (((crV M (cWo lq kc) ((gtD [0, 4096, 8192, 12288, 16384, kc]) (Int.toNat x93)))).2.1), vu (((crV M (cWo lq kc) ((gtD [0, 4096, 8192, 12288, 16384, kc]) (Int.toNat x93)))).2.2.1), vi (((crV M (cWo lq kc) ((gtD [0, 4096, 8192, 12288, 16384, kc]) (Int.toNat x93)))).2.2.2)])] [(0, none), (1, none), (2, none), (3, none), (4, none), (5, none)] [.e (ν65 0), .e (ν65 0), .e (ν65 0), .e (ν65 0), .e (ν63 0), .e (ν63 0), .e (ν63 0), .e (ν63 0)] trivial fun ac wd hS => ?_
         refine Runs1.list ?_
         refine St.binS hS .neq (.tmp 110) (.tmp 111) 82 82 rfl rfl (by decide) (xs := #[vi (((crV M (cWo lq kc) ((gtD [0, 4096, 8192, 12288, 16384, kc]) (Int.toNat x93)))).1), vi (((crV M (cWo lq kc) ((gtD [0, 4096, 8192, 12288, 16384, kc]) (Int.toNat x93)))).2.1), vu (((crV M (cWo lq kc) ((gtD [0, 4096, 8192, 12288, 16384, kc]) (Int.toNat x93)))).2.2.1), vi (((crV M (cWo lq kc) ((gtD [0, 4096, 8192, 12288, 16384, kc]) (Int.toNat x93)))).2.2.2)]) (ys := #[vi (((crV M (cWo lq kc) ((gtD [0, 4096, 8192, 12288, 16384, kc]) (Int.toNat x93)))).1), vi (((crV M (cWo lq kc) ((gtD [0, 4096, 8192, 12288, 16384, kc]) (Int.toNat x93)))).2.1), vu (((crV M (cWo lq kc) ((gtD [0, 4096, 8192, 12288, 16384, kc]) (Int.toNat x93)))).2.2.1), vi (((crV M (cWo lq kc) ((gtD [0, 4096, 8192, 12288, 16384, kc]) (Int.toNat x93)))).2.2.2)]) (r := vb (!(eqAll [((((crV M (cWo lq kc) ((gtD [0, 4096, 8192, 12288, 16384, kc]) (Int.toNat x93)))).1 : Int), (((crV M (cWo lq kc) ((gtD [0, 4096, 8192, 12288, 16384, kc]) (Int.toNat x93)))).1 : Int)), ((((crV M (cWo lq kc) ((gtD [0, 4096, 8192, 12288, 16384, kc]) (Int.toNat x93)))).2.1 : Int), (((crV M (cWo lq kc) ((gtD [0, 4096, 8192, 12288, 16384, kc]) (Int.toNat x93)))).2.1 : Int)), ((((crV M (cWo lq kc) ((gtD [0, 4096, 8192, 12288, 16384, kc]) (Int.toNat x93)))).2.2.1 : Int), (((crV M (cWo lq kc) ((gtD [0, 4096, 8192, 12288, 16384, kc]) (Int.toNat x93)))).2.2.1 : Int)), ((((crV M (cWo lq kc) ((gtD [0, 4096, 8192, 12288, 16384, kc]) (Int.toNat x93)))).2.2.2 : Int), (((crV M (cWo lq kc) ((gtD [0, 4096, 8192, 12288, 16384, kc]) (Int.toNat x93)))).2.2.2 : Int))]))) (fun w => run_neS (l := [((((crV M (cWo lq kc) ((gtD [0, 4096, 8192, 12288, 16384, kc]) (Int.toNat x93)))).1 : Int), (((crV M (cWo lq kc) ((gtD [0, 4096, 8192, 12288, 16384, kc]) (Int.toNat x93)))).1 : Int)), ((((crV M (cWo lq kc) ((gtD [0, 4096, 8192, 12288, 16384, kc]) (Int.toNat x93)))).2.1 : Int), (((crV M (cWo lq kc) ((gtD [0, 4096, 8192, 12288, 16384, kc]) (Int.toNat x93)))).2.1 : Int)), ((((crV M (cWo lq kc) ((gtD [0, 4096, 8192, 12288, 16384, kc]) (Int.toNat x93)))).2.2.1 : Int), (((crV M (cWo lq kc) ((gtD [0, 4096, 8192, 12288, 16384, kc]) (Int.toNat x93)))).2.2.1 : Int)), ((((crV M (cWo lq kc) ((gtD [0, 4096, 8192, 12288, 16384, kc]) (Int.toNat x93)))).2.2.2 : Int), (((crV M (cWo lq kc) ((gtD [0, 4096, 8192, 12288, 16384, kc]) (Int.toNat x93)))).2.2.2 : Int))]) w (by as_aux_lemma => kernel_rfl) (by as_aux_lemma => kernel_rfl) (by as_aux_lemma => kernel_rfl)) (by as_aux_lemma => kernel_rfl) fun ac hS => ?_
         replace hS := hS.fix 112 (vb false) (show (vb (!(eqAll [((((crV M (cWo lq kc) ((gtD [0, 4096, 8192, 12288, 16384, kc]) (Int.toNat x93)))).1 : Int), (((crV M (cWo lq kc) ((gtD [0, 4096, 8192, 12288, 16384, kc]) (Int.toNat x93)))).1 : Int)), ((((crV M (cWo lq kc) ((gtD [0, 4096, 8192, 12288, 16384, kc]) (Int.toNat x93)))).2.1 : Int), (((crV M (cWo lq kc) ((gtD [0, 4096, 8192, 12288, 16384, kc]) (Int.toNat x93)))).2.1 : Int)), ((((crV M (cWo lq kc) ((gtD [0, 4096, 8192, 12288, 16384, kc]) (Int.toNat x93)))).2.2.1 : Int), (((crV M (cWo lq kc) ((gtD [0, 4096, 8192, 12288, 16384, kc]) (Int.toNat x93)))).2.2.1 : Int)), ((((crV M (cWo lq kc) ((gtD [0, 4096, 8192, 12288, 16384, kc]) (Int.toNat x93)))).2.2.2 : Int), (((crV M (cWo lq kc) ((gtD [0, 4096, 8192, 12288, 16384, kc]) (Int.toNat x93)))).2.2.2 : Int))])) : Value) = vb false from vbool (by simp [eqAll]))
         refine hS.opsC 5 [0, 1, 1, fx 1 (vb false), 60] [3, 4, 5, 34, 35, 36, 91, 92, 93] fun _ => seg [(117, vb false)] [(0, none), (1, none), (2, none), (3, none), (4, none), (5, none)] [.t false, .t false, .p ((vb (((crE M (cWo lq kc) ((gtD [0, 4096, 8192, 12288, 16384, kc]) (Int.toNat x93))) : Int) != (crE M (cWo lq kc) ((gtD [0, 4096, 8192, 12288, 16384, kc]) (Int.toNat x93)))) : Value) = vb false), .t false, .t false] ⟨(congrArg Value.bool (bne_self_eq_false _)), trivial⟩ fun ac wd hS => ?_
         refine list_nil_seq ?_
         refine hS.condF ?_
         refine wp_skip ?_
         refine pop_block ?_
         refine pop_then ?_
         refine hS.regC [20, 0] [3, 4, 5, 34, 35, 36, 91, 92] fun _ => seg [(93, vi (x93 + 1))] [(0, none), (1, none), (2, none), (3, none), (4, none), (5, none)] [.p (fit .i64 (x93 + 1))] ⟨fit_i64 (by omega), trivial⟩ fun ac wd hS => ?_
         exact pop_then (hS.next (x93 + 1) ⟨(by first | omega | assumption | (simp; done) | (simp; omega)), trivial⟩ (by dsimp only; omega))
        ·
         refine wp_exit ?_
         refine pop_then_exit ?_
         refine pop_then_exit ?_
         refine pop_block_hit ?_
         refine pop_block ?_
         refine pop_then ?_
         refine hS.regC [20, 0] [3, 4, 5, 34, 35] fun _ => seg [(36, vi (x36 + 1))] [(0, none), (1, none), (2, none), (3, none), (4, none)] [.p (fit .i64 (x36 + 1))] ⟨fit_i64 (by omega), trivial⟩ fun ac wd hS => ?_
         replace hS := hS.perm (H' := [(1, .fn 0 64 dbT), (g7, .fn o7 (o7 + l.length * 5) (a10V (gtD l) o7)), (g27, .fn 0 (0 + M.cap) (strs (pgS M) 0)), ((ν11 0), .cells [sc g27 0 M.cap M.cap, vi (-1)] 66), (gl26, .fn 0 (0 + (cWo lq kc).length * 4) (chV (gtD (cWo lq kc)) 0))]) [0, 1, 2, 3, 4] (by as_aux_lemma => kernel_rfl) (by decide)
         exact pop_then (hS.next ((x36 + 1), F14, (filM mx kc 32 0), ao223, c224, gl26, 0, (cWo lq kc)) ⟨(by omega), (by first | exact hR9 | exact i1), (by omega), (by exact hl27), trivial⟩ (by dsimp only; omega))
    ·
     refine wp_region_seq ?_
     refine hS.opsC 3 [0, 0, 500] [3, 4, 5, 7, 34, 35, 36] fun _ => seg [(43, pt b'2 0), (45, .agg #[vi kc, vi ko, vu kw, vi kn])] [(0, none), (1, none), (2, none), (3, none), (4, none), (5, none)] [.e (ν15 0), .e (ν15 0), .e (ν15 0), .e (ν15 0)] trivial fun ac wd hS => ?_
     refine hS.callC 44 #[pt b'2 0, .agg #[vi kc, vi ko, vu kw, vi kn]] (chunk_Write_r b'2 Fx mx kc ko kw kn M lq _ (hS.mem.res 0) (by first | with_reducible assumption | exact i1) (by first | assumption | omega | (simp_all; done) | (simp_all; omega))) ?_
     rintro _ wd ⟨F30, rfl, hA, hF⟩
     refine ⟨vi (cwE M kc ko kn), rfl, ?_⟩
     replace hS := (hS.to (hS.mem.stepA 0 rfl hA hF)).put (d := 46) (v := vi (cwE M kc ko kn)) (by decide)
     clear hF
     refine hS.opsC 1 [0] [3, 4, 5, 7, 34, 35, 36] fun _ => seg [(8, vi (cwE M kc ko kn))] [(0, none), (1, none), (2, none), (3, none), (4, none), (5, none)] [] trivial fun ac wd hS => ?_
     refine list_nil_seq ?_
     refine wp_region_lit ?_
     refine hS.opsC 4 [300, 0, 0, 500] [3, 4, 5, 7, 8, 34, 35, 36] fun _ => seg [(48, .agg #[sc g27 0 M.cap M.cap, vi (-1)]), (49, .slice aoq lq.length cq), (51, .agg #[vi kc, vi ko, vu kw, vi kn])] [(0, none), (1, none), (2, none), (3, none), (4, none), (5, none)] [.e (ν15 0), .e (ν15 0), .e (ν15 0), .e (ν15 0), .e (ν11 0), .e (ν11 0)] trivial fun ac wd hS => ?_
     refine hS.callC 45 #[.agg #[sc g27 0 M.cap M.cap, vi (-1)], .slice aoq lq.length cq, .agg #[vi kc, vi ko, vu kw, vi kn]] (r10_Write g27 0 M.cap M.cap (-1) aoq cq gq oq lq kc ko kw kn (pgS M) M _ (hS.mem.get 0 1 (.fn 0 64 dbT)) (hS.mem.get 2 g27 (.fn 0 (0 + M.cap) (strs (pgS M) 0))) (hS.mem.get 4 gq (.fn oq (oq + lq.length * 4) (chV (gtD lq) oq))) hvq (by exact hMc) (by exact hT) (by first | assumption | omega | (simp_all; done) | (simp_all; omega))) ?_
     rintro _ wd ⟨ao231, c232, g233, o234, rfl, hv235, hog0, hoh0, hF⟩
     have ho36 : g233 = gq ∨ g233 = 1 ∨ w.heap.size ≤ g233 := by have := hS.mem.fr.size; have : w.heap.size ≤ _ := this; omega
     refine ⟨.tuple #[.slice ao231 ((cwH M lq kc ko kw kn).length) c232, vi (cwE M kc ko kn)], rfl, ?_⟩
     replace hS := (hS.to (hS.mem.outs hF [(g233, .fn o234 (o234 + (cwH M lq kc ko kw kn).length * 4) (chV (gtD (cwH M lq kc ko kw kn)) o234))] ⟨⟨rfl, hoh0, (fun q_ => q_.elim (fun e => .inl ⟨4, .fn oq (oq + lq.length * 4) (chV (gtD lq) oq), by rw [e]; as_aux_lemma => kernel_rfl, rfl⟩) (fun q_ => q_.elim (fun e => .inl ⟨0, .fn 0 64 dbT, by rw [e]; as_aux_lemma => kernel_rfl, rfl⟩) (fun q_ => .inr q_))) hog0⟩, trivial⟩)).put (d := 52) (v := .tuple #[.slice ao231 ((cwH M lq kc ko kw kn).length) c232, vi (cwE M kc ko kn)]) (by decide)
     clear hF
     refine hS.opsC 5 [0, 0, 0, 0, 0] [3, 4, 7, 8, 34, 35, 36] fun _ => seg [(5, .slice ao231 ((cwH M lq kc ko kw kn).length) c232), (9, vi (cwE M kc ko kn))] [(0, none), (1, none), (2, none), (3, none), (5, none), (6, none)] [] trivial fun ac wd hS => ?_
     refine list_nil ?_
     refine pop_block ?_
     refine pop_then ?_
     refine wp_seq ?_
     refine hS.regS [0, 0, fx 0 (vb false)] [3, 4, 5, 7, 34, 35, 36] fun _ => seg [(87, vb false)] [(0, none), (1, none), (2, none), (3, none), (4, none), (5, none)] [.p ((vb (((cwE M kc ko kn) : Int) != (cwE M kc ko kn)) : Value) = vb false)] ⟨(congrArg Value.bool (bne_self_eq_false _)), trivial⟩ fun ac wd hS => ?_
     refine hS.condF ?_
     refine wp_skip ?_
     refine pop_then ?_
     have hR9 : ChR M (wrcM mx kc ko kw kn)  (cwH M lq kc ko kw kn) := by first | exact (i1.write how).2 | exact (i1.wipe hal).2 | exact i1
     clear i1
     refine hS.regS [0, 0, 400, 0, 0, 0] [3, 4, 5, 34, 35, 36] fun ν75 => seg [(91, sc (ν75 0) 0 6 6), (92, vi 6), (93, vi 0)] [(0, none), (1, none), (2, none), (3, none), (5, none), (6, some ((ν75 0), .cells [vi 0, vi 4096, vi 8192, vi 12288, vi 16384, vi kc] 3))] [.e (ν15 0)] trivial fun ac wd hS => ?_
     refine wp_block ?_
     replace hS := hS.to (hS.mem.shareC (b := (ν75 0)) (cs := [vi 0, vi 4096, vi 8192, vi 12288, vi 16384, vi kc]) (T := 3) 5 6 ((i1V (gtD [0, 4096, 8192, 12288, 16384, kc]) 0)) (by intro o_ ho_; (repeat (rcases o_ with _ | o_; rfl)); exact absurd ho_ (by omega)))
     refine St.loopC (σ := Int) (fun (x93 : Int) => ⟨[(3, [], pt b'2 0), (4, [], pt (ν11 0) 0), (5, [], .slice ao231 ((cwH M lq kc ko kw kn).length) c232), (34, [], sc g7 o7 l.length c7), (35, [], vi ((l.length : Nat) : Int)), (36, [], vi x36), (91, [], sc (ν75 0) 0 6 6), (92, [], vi 6), (93, [], vi x93)], [(1, .fn 0 64 dbT), (g7, .fn o7 (o7 + l.length * 5) (a10V (gtD l) o7)), (g27, .fn 0 (0 + M.cap) (strs (pgS M) 0)), ((ν11 0), .cells [sc g27 0 M.cap M.cap, vi (-1)] 66), (g233, .fn o234 (o234 + (cwH M lq kc ko kw kn).length * 4) (chV (gtD (cwH M lq kc ko kw kn)) o234)), ((ν75 0), .fn 0 6 (i1V (gtD [0, 4096, 8192, 12288, 16384, kc]) 0))], [arR b'2 F30 (wrcM mx kc ko kw kn)], (0 ≤ x93 ∧ x93 ≤ 6) ∧ True, 6 - Int.toNat x93⟩) 0 ⟨(by omega), trivial⟩ hS ?_
     clear hS
     rintro x93 ⟨j0, -⟩ ac wd hS
     replace j0 : 0 ≤ x93 ∧ x93 ≤ 6 := j0
     refine hS.regS [0] [3, 4, 5, 34, 35, 36, 91, 92, 93] fun _ => seg [(94, vb (decide ((x93 : Int) < 6)))] [(0, none), (1, none), (2, none), (3, none), (4, none), (5, none)] [] trivial fun ac wd hS => ?_
     refine wp_seq ?_
     refine hS.condC (decide ((x93 : Int) < 6)) (fun hb37o hb37 => ?_) (fun hb37o hb37 => ?_)
     ·
      refine wp_skip ?_
      refine pop_then ?_
      refine wp_seq ?_
      refine wp_block ?_
      refine hS.regS [10, fx 500 (vi ((gtD [0, 4096, 8192, 12288, 16384, kc]) (Int.toNat x93))), 0] [3, 4, 5, 34, 35, 36, 91, 92, 93] fun _ => seg [(11, vi ((gtD [0, 4096, 8192, 12288, 16384, kc]) (Int.toNat x93)))] [(0, none), (1, none), (2, none), (3, none), (4, none), (5, none)] [.p ((((i1V (gtD [0, 4096, 8192, 12288, 16384, kc]) 0) (Int.toNat x93)) : Value) = vi ((gtD [0, 4096, 8192, 12288, 16384, kc]) (Int.toNat x93))), .e (ν75 0), .p (0 ≤ Int.toNat x93 ∧ Int.toNat x93 < 6), .p ((0 : Int) ≤ x93 ∧ (x93 : Int) < ((6 : Nat) : Int))] ⟨((i1V_a (gtD [0, 4096, 8192, 12288, 16384, kc]) 0 (Int.toNat x93))), (by omega), (by omega), trivial⟩ fun ac wd hS => ?_
      refine wp_region_seq ?_
      refine hS.opsC 2 [0, 0] [3, 4, 5, 11, 34, 35, 36, 91, 92, 93] fun _ => seg [(98, pt b'2 0), (99, vi ((gtD [0, 4096, 8192, 12288, 16384, kc]) (Int.toNat x93)))] [(0, none), (1, none), (2, none), (3, none), (4, none), (5, none)] [] trivial fun ac wd hS => ?_
      refine hS.call0 46 #[pt b'2 0, vi ((gtD [0, 4096, 8192, 12288, 16384, kc]) (Int.toNat x93))] 100 (chunk_Read_r b'2 F30 (wrcM mx kc ko kw kn) ((gtD [0, 4096, 8192, 12288, 16384, kc]) (Int.toNat x93)) M (cwH M lq kc ko kw kn) _ (hS.mem.res 0) (by first | with_reducible assumption | exact i1)) fun ac wd hS => ?_
      refine hS.opsC 6 [0, 0, 0, 0, 600, 0] [3, 4, 5, 11, 34, 35, 36, 91, 92, 93] fun ν79 => seg [(12, pt (ν79 0) 0), (13, vi (crE M (cwH M lq kc ko kw kn) ((gtD [0, 4096, 8192, 12288, 16384, kc]) (Int.toNat x93))))] [(0, none), (1, none), (2, none), (3, none), (4, none), (5, none), (6, some ((ν79 0), .cells [vi (((crV M (cwH M lq kc ko kw kn) ((gtD [0, 4096, 8192, 12288, 16384, kc]) (Int.toNat x93)))).1), vi (((crV M (cwH M lq kc ko kw kn) ((gtD [0, 4096, 8192, 12288, 16384, kc]) (Int.toNat x93)))).2.1), vu (((crV M (cwH M lq kc ko kw kn) ((gtD [0, 4096, 8192, 12288, 16384, kc]) (Int.toNat x93)))).2.2.1), vi (((crV M (cwH M lq kc ko kw kn) ((gtD [0, 4096, 8192, 12288, 16384, kc]) (Int.toNat x93)))).2.2.2)] 78))] [.e (ν79 0), .e (ν79 0), .e (ν79 0), .e (ν79 0)] trivial fun ac wd hS => ?_
      refine list_nil_seq ?_
      refine wp_region_seq ?_
      refine hS.opsC 3 [300, 0, 0] [3, 4, 5, 12, 13, 34, 35, 36, 91, 92, 93] fun _ => seg [(104, .agg #[sc g27 0 M.cap M.cap, vi (-1)]), (105, .slice ao231 ((cwH M lq kc ko kw kn).length) c232), (106, vi ((gtD [0, 4096, 8192, 12288, 16384, kc]) (Int.toNat x93)))] [(0, none), (1, none), (2, none), (3, none), (4, none), (5, none), (6, none)] [.e (ν11 0), .e (ν11 0)] trivial fun ac wd hS => ?_
      refine hS.call0 42 #[.agg #[sc g27 0 M.cap M.cap, vi (-1)], .slice ao231 ((cwH M lq kc ko kw kn).length) c232, vi ((gtD [0, 4096, 8192, 12288, 16384, kc]) (Int.toNat x93))] 107 (r10_Read g27 0 M.cap M.cap (-1) ao231 c232 g233 o234 (cwH M lq kc ko kw kn) ((gtD [0, 4096, 8192, 12288, 16384, kc]) (Int.toNat x93)) (pgS M) M _ (hS.mem.get 2 g27 (.fn 0 (0 + M.cap) (strs (pgS M) 0))) (hS.mem.get 4 g233 (.fn o234 (o234 + (cwH M lq kc ko kw kn).length * 4) (chV (gtD (cwH M lq kc ko kw kn)) o234))) hv235 (by exact hMc) (by exact hT) (by first | assumption | omega | (simp_all; done) | (simp_all; omega))) fun ac wd hS => ?_
      refine hS.opsC 6 [0, 0, 0, 0, 700, 0] [3, 4, 5, 12, 13, 34, 35, 36, 91, 92, 93] fun ν81 => seg [(14, pt (ν81 0) 0), (15, vi (crE M (cwH M lq kc ko kw kn) ((gtD [0, 4096, 8192, 12288, 16384, kc]) (Int.toNat x93))))] [(0, none), (1, none), (2, none), (3, none), (4, none), (5, none), (6, none), (7, some ((ν81 0), .cells [vi (((crV M (cwH M lq kc ko kw kn) ((gtD [0, 4096, 8192, 12288, 16384, kc]) (Int.toNat x93)))).1), vi (((crV M (cwH M lq kc ko kw kn) ((gtD [0, 4096, 8192, 12288, 16384, kc]) (Int.toNat x93)))).2.1), vu (((crV M (cwH M lq kc ko kw kn) ((gtD [0, 4096, 8192, 12288, 16384, kc]) (Int.toNat x93)))).2.2.1), vi (((crV M (cwH M lq kc ko kw kn) ((gtD [0, 4096, 8192, 12288, 16384, kc]) (Int.toNat x93)))).2.2.2)] 82))] [.e (ν81 0), .e (ν81 0), .e (ν81 0), .e (ν81 0)] trivial fun ac wd hS => ?_
      refine list_nil_seq ?_
      refine wp_region_seq ?_
      refine hS.opsC 2 [600, 700] [3, 4, 5, 13, 15, 34, 35, 36, 91, 92, 93] fun _ => seg [(110, .agg #[vi (((crV M (cwH M lq kc ko kw kn) ((gtD [0, 4096, 8192, 12288, 16384, kc]) (Int.toNat x93)))).1), vi (((crV M (cwH M lq kc ko kw kn) ((gtD [0, 4096, 8192, 12288, 16384, kc]) (Int.toNat x93)))).2.1), vu (((crV M (cwH M lq kc ko kw kn) ((gtD [0, 4096, 8192, 12288, 16384, kc]) (Int.toNat x93)))).2.2.1), vi (((crV M (cwH M lq kc ko kw kn) ((gtD [0, 4096, 8192, 12288, 16384, kc]) (Int.toNat x93)))).2.2.2)]), (111, .agg #[vi (((crV M (cwH M lq kc ko kw kn) ((gtD [0, 4096, 8192, 12288, 16384, kc]) (Int.toNat x93)))).1), vi (((crV M (cwH M lq kc ko kw kn) ((gtD [0, 4096, 8192, 12288, 16384, kc]) (Int.toNat x93)))).2.1), vu (((crV M (cwH M lq kc ko kw kn) ((gtD [0, 4096, 8192, 12288, 16384, kc]) (Int.toNat x93)))).2.2.1), vi (((crV M (cwH M lq kc ko kw kn) ((gtD [0, 4096, 8192, 12288, 16384, kc]) (Int.toNat x93)))).2.2.2)])] [(0, none), (1, none), (2, none), (3, none), (4, none), (5, none)] [.e (ν81 0), .e (ν81 0), .e (ν81 0), .e (ν81 0), .e (ν79 0), .e (ν79 0), .e (ν79 0), .e (ν79 0)] trivial fun ac wd hS => ?_
      refine Runs1.list ?_
      refine St.binS hS .neq (.tmp 110) (.tmp 111) 82 82 rfl rfl (by decide) (xs := #[vi (((crV M (cwH M lq kc ko kw kn) ((gtD [0, 4096, 8192, 12288, 16384, kc]) (Int.toNat x93)))).1), vi (((crV M (cwH M lq kc ko kw kn) ((gtD [0, 4096, 8192, 12288, 16384, kc]) (Int.toNat x93)))).2.1), vu (((crV M (cwH M lq kc ko kw kn) ((gtD [0, 4096, 8192, 12288, 16384, kc]) (Int.toNat x93)))).2.2.1), vi (((crV M (cwH M lq kc ko kw kn) ((gtD [0, 4096, 8192, 12288, 16384, kc]) (Int.toNat x93)))).2.2.2)]) (ys := #[vi (((crV M (cwH M lq kc ko kw kn) ((gtD [0, 4096, 8192, 12288, 16384, kc]) (Int.toNat x93)))).1), vi (((crV M (cwH M lq kc ko kw kn) ((gtD [0, 4096, 8192, 12288, 16384, kc]) (Int.toNat x93)))).2.1), vu (((crV M (cwH M lq kc ko kw kn) ((gtD [0, 4096, 8192, 12288, 16384, kc]) (Int.toNat x93)))).2.2.1), vi (((crV M (cwH M lq kc ko kw kn) ((gtD [0, 4096, 8192, 12288, 16384, kc]) (Int.toNat x93)))).2.2.2)]) (r := vb (!(eqAll [((((crV M (cwH M lq kc ko kw kn) ((gtD [0, 4096, 8192, 12288, 16384, kc]) (Int.toNat x93)))).1 : Int), (((crV M (cwH M lq kc ko kw kn) ((gtD [0, 4096, 8192, 12288, 16384, kc]) (Int.toNat x93)))).1 : Int)), ((((crV M (cwH M lq kc ko kw kn) ((gtD [0, 4096, 8192, 12288, 16384, kc]) (Int.toNat x93)))).2.1 : Int), (((crV M (cwH M lq kc ko kw kn) ((gtD [0, 4096, 8192, 12288, 16384, kc]) (Int.toNat x93)))).2.1 : Int)), ((((crV M (cwH M lq kc ko kw kn) ((gtD [0, 4096, 8192, 12288, 16384, kc]) (Int.toNat x93)))).2.2.1 : Int), (((crV M (cwH M lq kc ko kw kn) ((gtD [0, 4096, 8192, 12288, 16384, kc]) (Int.toNat x93)))).2.2.1 : Int)), ((((crV M (cwH M lq kc ko kw kn) ((gtD [0, 4096, 8192, 12288, 16384, kc]) (Int.toNat x93)))).2.2.2 : Int), (((crV M (cwH M lq kc ko kw kn) ((gtD [0, 4096, 8192, 12288, 16384, kc]) (Int.toNat x93)))).2.2.2 : Int))]))) (fun w => run_neS (l := [((((crV M (cwH M lq kc ko kw kn) ((gtD [0, 4096, 8192, 12288, 16384, kc]) (Int.toNat x93)))).1 : Int), (((crV M (cwH M lq kc ko kw kn) ((gtD [0, 4096, 8192, 12288, 16384, kc]) (Int.toNat x93)))).1 : Int)), ((((crV M (cwH M lq kc ko kw kn) ((gtD [0, 4096, 8192, 12288, 16384, kc]) (Int.toNat x93)))).2.1 : Int), (((crV M (cwH M lq kc ko kw kn) ((gtD [0, 4096, 8192, 12288, 16384, kc]) (Int.toNat x93)))).2.1 : Int)), ((((crV M (cwH M lq kc ko kw kn) ((gtD [0, 4096, 8192, 12288, 16384, kc]) (Int.toNat x93)))).2.2.1 : Int), (((crV M (cwH M lq kc ko kw kn) ((gtD [0, 4096, 8192, 12288, 16384, kc]) (Int.toNat x93)))).2.2.1 : Int)), ((((crV M (cwH M lq kc ko kw kn) ((gtD [0, 4096, 8192, 12288, 16384, kc]) (Int.toNat x93)))).2.2.2 : Int), (((crV M (cwH M lq kc ko kw kn) ((gtD [0, 4096, 8192, 12288, 16384, kc]) (Int.toNat x93)))).2.2.2 : Int))]) w (by as_aux_lemma => kernel_rfl) (by as_aux_lemma => kernel_rfl) (by as_aux_lemma => kernel_rfl)) (by as_aux_lemma => kernel_rfl) fun ac hS => ?_
      replace hS := hS.fix 112 (vb false) (show (vb (!(eqAll [((((crV M (cwH M lq kc ko kw kn) ((gtD [0, 4096, 8192, 12288, 16384, kc]) (Int.toNat x93)))).1 : Int), (((crV M (cwH M lq kc ko kw kn) ((gtD [0, 4096, 8192, 12288, 16384, kc]) (Int.toNat x93)))).1 : Int)), ((((crV M (cwH M lq kc ko kw kn) ((gtD [0, 4096, 8192, 12288, 16384, kc]) (Int.toNat x93)))).2.1 : Int), (((crV M (cwH M lq kc ko kw kn) ((gtD [0, 4096, 8192, 12288, 16384, kc]) (Int.toNat x93)))).2.1 : Int)), ((((crV M (cwH M lq kc ko kw kn) ((gtD [0, 4096, 8192, 12288, 16384, kc]) (Int.toNat x93)))).2.2.1 : Int), (((crV M (cwH M lq kc ko kw kn) ((gtD [0, 4096, 8192, 12288, 16384, kc]) (Int.toNat x93)))).2.2.1 : Int)), ((((crV M (cwH M lq kc ko kw kn) ((gtD [0, 4096, 8192, 12288, 16384, kc]) (Int.toNat x93)))).2.2.2 : Int), (((crV M (cwH M lq kc ko kw kn) ((gtD [0, 4096, 8192, 12288, 16384, kc]) (Int.toNat x93)))).2.2.2 : Int))])) : Value) = vb false from vbool (by simp [eqAll]))
      refine hS.opsC 5 [0, 1, 1, fx 1 (vb false), 60] [3, 4, 5, 34, 35, 36, 91, 92, 93] fun _ => seg [(117, vb false)] [(0, none), (1, none), (2, none), (3, none), (4, none), (5, none)] [.t false, .t false, .p ((vb (((crE M (cwH M lq kc ko kw kn) ((gtD [0, 4096, 8192, 12288, 16384, kc]) (Int.toNat x93))) : Int) != (crE M (cwH M lq kc ko kw kn) ((gtD [0, 4096, 8192, 12288, 16384, kc]) (Int.toNat x93)))) : Value) = vb false), .t false, .t false] ⟨(congrArg Value.bool (bne_self_eq_false _)), trivial⟩ fun ac wd hS => ?_
      refine list_nil_seq ?_
      refine hS.condF ?_
      refine wp_skip ?_
      refine pop_block ?_
      refine pop_then ?_
      refine hS.regC [20, 0] [3, 4, 5, 34, 35, 36, 91, 92] fun _ => seg [(93, vi (x93 + 1))] [(0, none), (1, none), (2, none), (3, none), (4, none), (5, none)] [.p (fit .i64 (x93 + 1))] ⟨fit_i64 (by omega), trivial⟩ fun ac wd hS => ?_
      exact pop_then (hS.next (x93 + 1) ⟨(by first | omega | assumption | (simp; done) | (simp; omega)), trivial⟩ (by dsimp only; omega))
     ·
      refine wp_exit ?_
      refine pop_then_exit ?_
      refine pop_then_exit ?_
      refine pop_block_hit ?_
      refine pop_block ?_
      refine pop_then ?_
      refine hS.regC [20, 0] [3, 4, 5, 34, 35] fun _ => seg [(36, vi (x36 + 1))] [(0, none), (1, none), (2, none), (3, none), (4, none)] [.p (fit .i64 (x36 + 1))] ⟨fit_i64 (by omega), trivial⟩ fun ac wd hS => ?_
      replace hS := hS.perm (H' := [(1, .fn 0 64 dbT), (g7, .fn o7 (o7 + l.length * 5) (a10V (gtD l) o7)), (g27, .fn 0 (0 + M.cap) (strs (pgS M) 0)), ((ν11 0), .cells [sc g27 0 M.cap M.cap, vi (-1)] 66), (g233, .fn o234 (o234 + (cwH M lq kc ko kw kn).length * 4) (chV (gtD (cwH M lq kc ko kw kn)) o234))]) [0, 1, 2, 3, 4] (by as_aux_lemma => kernel_rfl) (by decide)
      exact pop_then (hS.next ((x36 + 1), F30, (wrcM mx kc ko kw kn), ao231, c232, g233, o234, (cwH M lq kc ko kw kn)) ⟨(by omega), (by first | exact hR9 | exact i1), (by omega), (by exact hv235), trivial⟩ (by dsimp only; omega))
  ·
   refine wp_exit ?_
   refine pop_then_exit ?_
   refine pop_then_exit ?_
   refine pop_block_hit ?_
   refine pop_then ?_
   refine wp_region_seq ?_
   refine hS.call0 46 #[pnil, vi 0] 121 (chunk_Read_nil 0 _  ) fun ac wd hS => ?_
   refine hS.opsC 6 [0, 0, 0, 0, 500, 0] [] fun ν86 => seg [(17, vi 1)] [(0, none)] [.e (ν86 0), .e (ν86 0), .e (ν86 0), .e (ν86 0)] trivial fun ac wd hS => ?_
   refine list_nil_seq ?_
   refine wp_region_seq ?_
   refine hS.opsC 3 [0, 0, 0] [] fun _ => seg [(126, vb true)] [(0, none)] [] trivial fun ac wd hS => ?_
   refine hS.opsC 1 [1] [126] fun _ => seg [(127, .agg #[vi 0, vi 0, vu 0, vi 0])] [(0, none)] [.t true] trivial fun ac wd hS => ?_
   refine hS.callG true 44 #[pnil, .agg #[vi 0, vi 0, vu 0, vi 0]] (chunk_Write_nil 0 0 0 0 _  ) ?_
   rintro _ wd ⟨rfl, hF⟩
   refine ⟨vi 1, rfl, ?_⟩
   replace hS := (hS.to (hS.mem.keep0 hF)).put (d := 128) (v := vi 1) (by decide)
   clear hF
   refine hS.opsC 3 [1, 70, 0] [] fun _ => seg [(131, vb true)] [(0, none)] [.t true, .t true] trivial fun ac wd hS => ?_
   refine hS.callG true 41 #[pnil, vi 0] (chunk_Wipe_nil 0 _  ) ?_
   rintro _ wd ⟨rfl, hF⟩
   refine ⟨vi 1, rfl, ?_⟩
   replace hS := (hS.to (hS.mem.keep0 hF)).put (d := 132) (v := vi 1) (by decide)
   clear hF
   refine hS.opsC 3 [1, 70, 0] [] fun _ => seg [(2, vb true)] [(0, none)] [.t true, .t true] trivial fun ac wd hS => ?_
   refine list_nil_seq ?_
   refine wp_ret ?_
   refine St.retC 0 hS (vb true) [] trivial fun hw => ?_
   refine ⟨retd rfl, hw.fr0⟩

end Go.Proofs.YtindbpffbjhfaaaDoor.K
