/-
  Walks, printed by w2.py.
-/
import Derived.Test.YtlnecfdbmoilbaaDoorCb
import Derived.Test.YtlnecfdbmoilbaaDoorAp
import Derived.Test.YtlnecfdbmoilbaaDoorKq
import Derived.Test.YtlnecfdbmoilbaaDoorProg
namespace Go.Proofs.YtlnecfdbmoilbaaDoor.K
set_option linter.unusedVariables false
set_option linter.unusedSimpArgs false

theorem zf_page91 (o : Nat) (ho : o < 4096) : bytes (fun _ => 0) 0 o = zf Tryd.prog 91 o := zf_all (n := 4096) (v := .int .u8 0) (by as_aux_lemma => kernel_rfl) o ho

set_option maxRecDepth 100000 in
set_option maxHeartbeats 1000000 in
theorem ar_Refuse (b : Nat) (F : Nat → Prop) (m : AM) (n : Int) (w : World) (hr : (arR b F m).R w) (hn : n ≤ 9223372036854775807) :
    Calls Tryd.prog 34 #[pt b 0, vi n] w fun e w' => ∃ (F' : Nat → Prop), e = .returned (.tuple #[]) ∧ (arR b F' (refM m n)).R w' ∧ Fr w w' F F' := by
 have hb_ : (imax 0 n).toNat < 2 ^ 63 := by unfold imax; split <;> omega
 refine enter (args := [pt b 0, vi n]) (D := F) (A := [arR b F m]) Tryd.func34 rfl 14 rfl [] (WS.startA (r := arR b F m) hr trivial trivial) fun ac hS => ?_
 refine hS.regS [0, 0] [0, 1] fun _ => seg [(5, vb true)] [] [] trivial fun ac wd hS => ?_
 refine hS.condT ?_
 obtain ⟨d, hd, hO, hbw⟩ := hS.mem.openA
 replace hS := hS.to hO
 clear hO
 have hcnt := countTo_le m.com m.cap
 have hW : Words d.ws d.nw m.cap m.com := hd.set
 have hcl : m.cap ≤ 1048576 := hd.capLe
 have hrl : m.refuse < 2 ^ 63 := hd.refuseLe
 refine hS.regC [0, 0, 0, fx 0 (vi (((imax 0 n).toNat : Nat) : Int)), 0, 0, 0, 0, 0, 0] [] fun _ => seg [] [(0, some (b, .cells [sc d.bp 0 m.cap m.cap, vi ((m.cap : Nat) : Int), sc d.bw d.ow d.nw d.cw, vi ((countTo m.com m.cap : Nat) : Int), vb true, vi (((imax 0 n).toNat : Nat) : Int)] d.TA)), (1, none), (2, none)] [.e b, .e b, .p ((vi (imax 0 n) : Value) = vi (((imax 0 n).toNat : Nat) : Int))] ⟨(vint (refuse_set n)), trivial⟩ fun ac wd hS => ?_
 replace hS := hS.to (WS.closeA (cap := m.cap) (cnt := (countTo m.com m.cap)) (refuse := ((imax 0 n).toNat)) (com := m.com) (mem := m.mem) (pb := d.pb) (Fq := (Fp m.cap m.com d.pb)) hS.mem 0 1 2 b d.bp d.bw d.ow d.nw d.cw true d.TA d.TP d.ws hW hcl (by have := hb_; omega) hbw rfl)
 refine St.fallC 0 hS (.tuple #[]) [] trivial fun hw => ?_
 refine ⟨(fun k => k = b ∨ k = d.bp ∨ k = d.bw ∨ (Fp m.cap m.com d.pb) k), retd rfl, (res_eq (r := arR b (fun k => k = b ∨ k = d.bp ∨ k = d.bw ∨ (Fp m.cap m.com d.pb) k) (⟨m.cap, m.com, m.mem, true, (imax 0 n).toNat⟩)) (by rfl) (hw.res 0)), hw.frA⟩

set_option maxRecDepth 100000 in
set_option maxHeartbeats 1000000 in
theorem ar_Commit (b : Nat) (F : Nat → Prop) (m : AM) (f : Int) (n : Int) (w : World) (hr : (arR b F m).R w) :
    Calls Tryd.prog 15 #[pt b 0, vi f, vi n] w fun e w' => ∃ (F' : Nat → Prop), e = .returned (vi (comE m f n)) ∧ (arR b F' (comM m f n)).R w' ∧ Fr w w' F F' := by
 refine enter (args := [pt b 0, vi f, vi n]) (D := F) (A := [arR b F m]) Tryd.func15 rfl 84 rfl [] (WS.startA (r := arR b F m) hr trivial trivial) fun ac hS => ?_
 refine hS.regS [0] [0, 1, 2] fun _ => seg [] [] [] trivial fun ac wd hS => ?_
 refine wp_seq ?_
 refine wp_region_seq ?_
 refine hS.opsC 3 [0, 0, 0] [0, 1, 2] fun _ => seg [(11, pt b 0), (12, vi f), (13, vi n)] [] [] trivial fun ac wd hS => ?_
 refine hS.call0 57 #[pt b 0, vi f, vi n] 14 (ar_row b F m f n _ (hS.mem.res 0) ) fun ac wd hS => ?_
 refine hS.opsC 5 [0, 0, 0, 0, 0] [0, 1, 2] fun _ => seg [(7, vi (rowC m f n)), (8, vi (rowE m f n))] [] [] trivial fun ac wd hS => ?_
 refine list_nil_seq ?_
 refine wp_block ?_
 refine hS.regS [0, 0, 0] [0, 1, 2, 7, 8] fun _ => seg [(17, vb (((rowE m f n) : Int) != 0))] [] [] trivial fun ac wd hS => ?_
 refine hS.condC (((rowE m f n) : Int) != 0) (fun hb1o hb1 => ?_) (fun hb1o hb1 => ?_)
 ·
  refine hS.regS [0, 0] [] fun _ => seg [(6, vi (rowE m f n))] [] [] trivial fun ac wd hS => ?_
  refine wp_ret ?_
  refine pop_block_ret ?_
  refine pop_then_ret ?_
  refine St.retC 0 hS (vi (rowE m f n)) [] trivial fun hw => ?_
  refine ⟨F, retd (vint ?_), (res_eq (r := arR b F m) (by first | exact congrArg _ (com_no (by omega)) | exact congrArg _ (com_ref hr0 hc0 ha1 (by omega)) | (rw [i1, i2, show (x9 - f).toNat = n.toNat by omega]; exact congrArg _ (com_yes hr0 hc0 ha3))) (hw.res 0)), hw.frA⟩
  all_goals (first | exact (com_e1 (by omega)).symm | exact (com_e2 (by omega) (by omega)).symm | exact (com_e3 hr0 hc0 ha1 (by omega)).symm | exact (com_e4 hr0 hc0 ha3).symm)
 ·
  have hr0 := hb1
  refine hS.regS [0, 0, 0] [0, 1, 2] fun _ => seg [(21, vb (decide ((0 : Int) < (rowC m f n))))] [] [] trivial fun ac wd hS => ?_
  refine hS.condC (decide ((0 : Int) < (rowC m f n))) (fun hb2o hb2 => ?_) (fun hb2o hb2 => ?_)
  ·
   refine hS.regS [0] [] fun _ => seg [(6, vi 9)] [] [] trivial fun ac wd hS => ?_
   refine wp_ret ?_
   refine pop_block_ret ?_
   refine pop_then_ret ?_
   refine St.retC 0 hS (vi 9) [] trivial fun hw => ?_
   refine ⟨F, retd (vint ?_), (res_eq (r := arR b F m) (by first | exact congrArg _ (com_no (by omega)) | exact congrArg _ (com_ref hr0 hc0 ha1 (by omega)) | (rw [i1, i2, show (x9 - f).toNat = n.toNat by omega]; exact congrArg _ (com_yes hr0 hc0 ha3))) (hw.res 0)), hw.frA⟩
   all_goals (first | exact (com_e1 (by omega)).symm | exact (com_e2 (by omega) (by omega)).symm | exact (com_e3 hr0 hc0 ha1 (by omega)).symm | exact (com_e4 hr0 hc0 ha3).symm)
  ·
   have hc0 := hb2
   obtain ⟨d, hd, hO, hbw⟩ := hS.mem.openA
   replace hS := hS.to hO
   clear hO
   have hcnt := countTo_le m.com m.cap
   have hW : Words d.ws d.nw m.cap m.com := hd.set
   have hcl : m.cap ≤ 1048576 := hd.capLe
   have hrl : m.refuse < 2 ^ 63 := hd.refuseLe
   refine hS.regS [0, 0, 0, 0, 0, 3, 3, 3, 3, 3, 80, 0] [0, 1, 2] fun _ => seg [(24, vb (m.armed && ((((m.refuse : Nat) : Int) : Int) == 0)))] [(0, none), (1, none), (2, none)] [.p (((m.armed = true) ∧ True) → AllP [(b : Nat) = b]), .e b] ⟨(fun ⟨hc0, _⟩ => by replace hc0 := nrm hc0; exact ⟨rfl, trivial⟩), trivial⟩ fun ac wd hS => ?_
   refine hS.condC (m.armed && ((((m.refuse : Nat) : Int) : Int) == 0)) (fun hb3o hb3 => ?_) (fun hb3o hb3 => ?_)
   ·
    obtain ⟨ha1, ha2⟩ := hb3
    refine hS.regS [0, 0, 0, 0] [] fun _ => seg [] [(0, some (b, .cells [sc d.bp 0 m.cap m.cap, vi ((m.cap : Nat) : Int), sc d.bw d.ow d.nw d.cw, vi ((countTo m.com m.cap : Nat) : Int), vb false, vi ((m.refuse : Nat) : Int)] d.TA)), (1, none), (2, none)] [.e b] trivial fun ac wd hS => ?_
    refine hS.regS [0] [] fun _ => seg [(6, vi 4)] [(0, none), (1, none), (2, none)] [] trivial fun ac wd hS => ?_
    refine wp_ret ?_
    refine pop_block_ret ?_
    refine pop_then_ret ?_
    replace hS := hS.to (WS.closeA (cap := m.cap) (cnt := (countTo m.com m.cap)) (refuse := m.refuse) (com := m.com) (mem := m.mem) (pb := d.pb) (Fq := (Fp m.cap m.com d.pb)) hS.mem 0 1 2 b d.bp d.bw d.ow d.nw d.cw false d.TA d.TP d.ws hW hcl hrl hbw rfl)
    refine St.retC 0 hS (vi 4) [] trivial fun hw => ?_
    refine ⟨(fun k => k = b ∨ k = d.bp ∨ k = d.bw ∨ (Fp m.cap m.com d.pb) k), retd (vint ?_), (res_eq (r := arR b (fun k => k = b ∨ k = d.bp ∨ k = d.bw ∨ (Fp m.cap m.com d.pb) k) (⟨m.cap, m.com, m.mem, false, m.refuse⟩)) (by first | exact congrArg _ (com_no (by omega)) | exact congrArg _ (com_ref hr0 hc0 ha1 (by omega)) | (rw [i1, i2, show (x9 - f).toNat = n.toNat by omega]; exact congrArg _ (com_yes hr0 hc0 ha3))) (hw.res 0)), hw.frA⟩
    all_goals (first | exact (com_e1 (by omega)).symm | exact (com_e2 (by omega) (by omega)).symm | exact (com_e3 hr0 hc0 ha1 (by omega)).symm | exact (com_e4 hr0 hc0 ha3).symm)
   ·
    have ha3 : ¬ (m.armed = true ∧ m.refuse = 0) := fun q => by rcases hb3 with h | h; rw [q.1] at h; cases h; omega
    refine wp_skip ?_
    refine pop_block ?_
    refine pop_then ?_
    refine hS.regS [0, 0, 0, 0, 0, 20, fx 0 (vi ((m.refuse - 1 : Nat) : Int)), 0, 0, 0] [0, 1, 2] fun _ => seg [] [(0, some (b, .cells [sc d.bp 0 m.cap m.cap, vi ((m.cap : Nat) : Int), sc d.bw d.ow d.nw d.cw, vi ((countTo m.com m.cap : Nat) : Int), vb m.armed, vi ((m.refuse - 1 : Nat) : Int)] d.TA)), (1, none), (2, none)] [.e b, .p ((vi (imax 0 (((m.refuse : Nat) : Int) - 1)) : Value) = vi ((m.refuse - 1 : Nat) : Int)), .p (fit .i64 (((m.refuse : Nat) : Int) - 1)), .e b] ⟨(vint (refuse_dec _)), fit_i64 (by omega), trivial⟩ fun ac wd hS => ?_
    refine wp_seq ?_
    refine hS.regS [0, 0] [0, 1, 2] fun _ => seg [(9, vi f)] [(0, none), (1, none), (2, none)] [] trivial fun ac wd hS => ?_
    refine wp_block ?_
    obtain ⟨hr1, hr2, hr3, hr4, hr5⟩ := row_facts hr0
    have hfree := com_free hr0 hc0
    refine St.loopC (σ := Int × (Nat → Prop) × (Nat → Bool) × (Nat → UInt8) × (Nat → Nat)) (fun (x : Int × (Nat → Prop) × (Nat → Bool) × (Nat → UInt8) × (Nat → Nat)) => match x with | (x9, Fx, comx, memx, pbx) => ⟨[(0, [], pt b 0), (1, [], vi f), (2, [], vi n), (9, [], vi x9)], [(b, .cells [sc d.bp 0 m.cap m.cap, vi ((m.cap : Nat) : Int), sc d.bw d.ow d.nw d.cw, vi ((countTo m.com m.cap : Nat) : Int), vb m.armed, vi ((m.refuse - 1 : Nat) : Int)] d.TA), (d.bp, .row d.TP m.cap m.cap (pagesV comx pbx 0)), (d.bw, .fn d.ow (d.ow + d.nw) (u64s d.ws d.ow))], [pgR 0 Fx (⟨m.cap, comx, memx, pbx⟩)], (f ≤ x9 ∧ x9 ≤ f + n) ∧ (comx = setR m.com f.toNat (x9 - f).toNat true) ∧ (memx = zeroP m.mem f.toNat (x9 - f).toNat) ∧ True, Int.toNat (f + n - x9)⟩) (f, (Fp m.cap m.com d.pb), m.com, m.mem, d.pb) ⟨(by first | omega | (rw [show (f - f).toNat = 0 by omega]; first | exact (setR_none _ _ _).symm | exact (zeroP_none _ _).symm)), (by first | omega | (rw [show (f - f).toNat = 0 by omega]; first | exact (setR_none _ _ _).symm | exact (zeroP_none _ _).symm)), (by first | omega | (rw [show (f - f).toNat = 0 by omega]; first | exact (setR_none _ _ _).symm | exact (zeroP_none _ _).symm)), trivial⟩ hS ?_
    clear hS
    rintro ⟨x9, Fx, comx, memx, pbx⟩ ⟨i0, i1, i2, -⟩ ac wd hS
    replace i0 : f ≤ x9 ∧ x9 ≤ f + n := i0
    replace i1 : comx = setR m.com f.toNat (x9 - f).toNat true := i1
    replace i2 : memx = zeroP m.mem f.toNat (x9 - f).toNat := i2
    refine wp_seq ?_
    refine hS.regS [0, 0, 0, 20, 0] [0, 1, 2, 9] fun _ => seg [(53, vb (decide ((x9 : Int) < (f + n))))] [(0, none), (1, none), (2, none)] [.p (fit .i64 (f + n))] ⟨fit_i64 (by omega), trivial⟩ fun ac wd hS => ?_
    refine hS.condC (decide ((x9 : Int) < (f + n))) (fun hb4o hb4 => ?_) (fun hb4o hb4 => ?_)
    ·
     refine wp_skip ?_
     refine pop_then ?_
     refine wp_seq ?_
     refine wp_block ?_
     refine hS.regC [0, 0, 0, 0, 0, 50, 10, 100] [0, 1, 2, 9] fun ν14 => seg [] [(0, none), (1, some (d.bp, .row d.TP m.cap m.cap (fun x => if x = Int.toNat x9 then pt (ν14 0) 0 else (pagesV comx pbx 0) x))), (2, none), (3, some ((ν14 0), .row 91 4096 4096 (zf Tryd.prog 91)))] [.e d.bp, .p (Int.toNat x9 < m.cap), .p (0 ≤ x9 ∧ x9 < ((m.cap : Nat) : Int)), .p ((4096 : Nat) = 4096), .e b] ⟨(by omega), (by omega), rfl, trivial⟩ fun ac wd hS => ?_
     replace hS := hS.to (hS.mem.tellR 1 (b := d.bp) (e := d.TP) (m := m.cap) (tot := m.cap) (f := (fun x => if x = Int.toNat x9 then pt (ν14 0) 0 else (pagesV comx pbx 0) x)) (pagesV (setB comx (Int.toNat x9) true) (putN pbx (Int.toNat x9) (ν14 0)) 0) (fun o ho => pagesV_putv comx pbx (Int.toNat x9) (ν14 0) o))
     replace hS := hS.to (hS.mem.tellR 3 (b := (ν14 0)) (e := 91) (m := 4096) (tot := 4096) (f := (zf Tryd.prog 91)) (bytes (fun _ => 0) 0) (fun o ho => zf_page91 o ho))
     refine pop_block ?_
     refine pop_then ?_
     refine hS.regC [0, 20, 0] [0, 1, 2] fun _ => seg [(9, vi (x9 + 1))] [(0, none), (1, none), (2, none), (3, none)] [.p (fit .i64 (x9 + 1))] ⟨fit_i64 (by omega), trivial⟩ fun ac wd hS => ?_
     replace hS := hS.to (WS.absorb (H' := [(b, .cells [sc d.bp 0 m.cap m.cap, vi ((m.cap : Nat) : Int), sc d.bw d.ow d.nw d.cw, vi ((countTo m.com m.cap : Nat) : Int), vb m.armed, vi ((m.refuse - 1 : Nat) : Int)] d.TA), (d.bp, .row d.TP m.cap m.cap (pagesV (setB comx (Int.toNat x9) true) (putN pbx (Int.toNat x9) (ν14 0)) 0)), (d.bw, .fn d.ow (d.ow + d.nw) (u64s d.ws d.ow))]) hS.mem 3 (ν14 0) (Int.toNat x9) 91 (fun _ => 0) [0, 1, 2] (by omega) (by rw [i1]; exact com_next hr0 (by omega) (by omega) hfree))
     exact pop_then (hS.next ((x9 + 1), (fun k => Fx k ∨ k = (ν14 0)), (setB comx (Int.toNat x9) true), (putPg memx (Int.toNat x9) (fun _ => 0)), (putN pbx (Int.toNat x9) (ν14 0))) ⟨(by first | omega | assumption | (simp; done) | (simp; omega)), (by rw [i1]; exact comX_step (by omega) (by omega)), (by rw [i2]; exact memX_step (by omega) (by omega)), trivial⟩ (by dsimp only; omega))
    ·
     refine wp_exit ?_
     refine pop_then_exit ?_
     refine pop_then_exit ?_
     refine pop_block_hit ?_
     refine pop_then ?_
     refine wp_region_seq ?_
     refine hS.opsC 7 [0, 0, 0, 0, 0, 0, 0] [0, 2] fun _ => seg [(64, pt b 0), (68, .agg #[vi ((m.cap : Nat) : Int), sc d.bw d.ow d.nw d.cw]), (69, vi f), (70, vi n)] [(0, none), (1, none), (2, none)] [.e b, .e b] trivial fun ac wd hS => ?_
     refine hS.callC 58 #[.agg #[vi ((m.cap : Nat) : Int), sc d.bw d.ow d.nw d.cw], vi f, vi n] (bits_With d.bw d.ow d.cw d.nw d.ws m.cap f n m.com _ (hS.mem.get 2 d.bw (.fn d.ow (d.ow + d.nw) (u64s d.ws d.ow))) (by first | assumption | omega | (simp_all; done) | (simp_all; omega)) (by first | assumption | omega | (simp_all; done) | (simp_all; omega))) ?_
     rintro _ wd ⟨g25, o26, c27, ws28, rfl, hW29, hog0, hoh0, hF⟩
     have ho10 : g25 = d.bw ∨ w.heap.size ≤ g25 := by rcases hog0 with hx | hx; rw [hx]; exact (.inl rfl); exact .inr (Nat.le_trans hS.mem.fr.size hx)
     refine ⟨.tuple #[.agg #[vi ((m.cap : Nat) : Int), sc g25 o26 d.nw c27], vi (trnE m.cap f n)], rfl, ?_⟩
     replace hS := (hS.to (hS.mem.outs hF [(g25, .fn o26 (o26 + d.nw) (u64s ws28 o26))] ⟨⟨rfl, hoh0, hog0.imp (fun e => ⟨2, .fn d.ow (d.ow + d.nw) (u64s d.ws d.ow), by rw [e]; rfl, rfl⟩) id⟩, trivial⟩)).put (d := 71) (v := .tuple #[.agg #[vi ((m.cap : Nat) : Int), sc g25 o26 d.nw c27], vi (trnE m.cap f n)]) (by decide)
     clear hF
     refine hS.opsC 6 [0, 0, 0, 0, 0, 0] [0, 2] fun _ => seg [] [(0, some (b, .cells [sc d.bp 0 m.cap m.cap, vi ((m.cap : Nat) : Int), sc g25 o26 d.nw c27, vi ((countTo m.com m.cap : Nat) : Int), vb m.armed, vi ((m.refuse - 1 : Nat) : Int)] d.TA)), (1, none), (2, none), (3, none)] [.e b, .e b] trivial fun ac wd hS => ?_
     refine list_nil_seq ?_
     refine hS.regS [0, 0, 0, 0, 0, fx 20 (vi ((countTo m.com m.cap + n.toNat : Nat) : Int)), 0, 0, 0] [] fun _ => seg [] [(0, some (b, .cells [sc d.bp 0 m.cap m.cap, vi ((m.cap : Nat) : Int), sc g25 o26 d.nw c27, vi ((countTo m.com m.cap + n.toNat : Nat) : Int), vb m.armed, vi ((m.refuse - 1 : Nat) : Int)] d.TA)), (1, none), (2, none), (3, none)] [.e b, .p ((vi (((countTo m.com m.cap : Nat) : Int) + n) : Value) = vi ((countTo m.com m.cap + n.toNat : Nat) : Int)), .p (fit .i64 (((countTo m.com m.cap : Nat) : Int) + n)), .e b] ⟨(vint (add_nat (by omega))), fit_i64 (by omega), trivial⟩ fun ac wd hS => ?_
     refine hS.regS [0] [] fun _ => seg [(6, vi 0)] [(0, none), (1, none), (2, none), (3, none)] [] trivial fun ac wd hS => ?_
     refine wp_ret ?_
     replace hS := hS.to (WS.closeA (cap := m.cap) (cnt := (countTo m.com m.cap + n.toNat)) (refuse := (m.refuse - 1)) (com := comx) (mem := memx) (pb := pbx) (Fq := Fx) hS.mem 0 1 3 b d.bp g25 o26 d.nw c27 m.armed d.TA d.TP ws28 (by rw [i1, show (x9 - f).toNat = n.toNat by omega]; exact (trn_yes hr4) ▸ ‹Words _ _ _ (trn m.com m.cap f n true)›) hcl (by omega) (ho10.elim (fun e => e ▸ hbw) Or.inr) (by rw [i1, show (x9 - f).toNat = n.toNat by omega]; exact cnt_up hr0 hc0))
     refine St.retC 0 hS (vi 0) [] trivial fun hw => ?_
     refine ⟨(fun k => k = b ∨ k = d.bp ∨ k = g25 ∨ Fx k), retd (vint ?_), (res_eq (r := arR b (fun k => k = b ∨ k = d.bp ∨ k = g25 ∨ Fx k) (⟨m.cap, comx, memx, m.armed, m.refuse - 1⟩)) (by first | exact congrArg _ (com_no (by omega)) | exact congrArg _ (com_ref hr0 hc0 ha1 (by omega)) | (rw [i1, i2, show (x9 - f).toNat = n.toNat by omega]; exact congrArg _ (com_yes hr0 hc0 ha3))) (hw.res 0)), hw.frA⟩
     all_goals (first | exact (com_e1 (by omega)).symm | exact (com_e2 (by omega) (by omega)).symm | exact (com_e3 hr0 hc0 ha1 (by omega)).symm | exact (com_e4 hr0 hc0 ha3).symm)

end Go.Proofs.YtlnecfdbmoilbaaDoor.K
