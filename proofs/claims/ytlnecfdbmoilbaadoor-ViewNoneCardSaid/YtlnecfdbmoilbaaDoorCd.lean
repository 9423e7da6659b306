/-
  Walks, printed by w2.py.
-/
import Derived.Test.YtlnecfdbmoilbaaDoorCc
import Derived.Test.YtlnecfdbmoilbaaDoorProg
namespace Go.Proofs.YtlnecfdbmoilbaaDoor.K
set_option linter.unusedVariables false
set_option linter.unusedSimpArgs false

set_option maxRecDepth 100000 in
set_option maxHeartbeats 1000000 in
theorem ar_Decommit (b : Nat) (F : Nat → Prop) (m : AM) (f : Int) (n : Int) (w : World) (hr : (arR b F m).R w) :
    Calls Tryd.prog 24 #[pt b 0, vi f, vi n] w fun e w' => ∃ (F' : Nat → Prop), e = .returned (vi (decE m f n)) ∧ (arR b F' (decM m f n)).R w' ∧ Fr w w' F F' := by
 refine enter (args := [pt b 0, vi f, vi n]) (D := F) (A := [arR b F m]) Tryd.func24 rfl 54 rfl [] (WS.startA (r := arR b F m) hr trivial trivial) fun ac hS => ?_
 refine hS.regS [0] [0, 1, 2] fun _ => seg [] [] [] trivial fun ac wd hS => ?_
 refine wp_seq ?_
 refine wp_region_seq ?_
 refine hS.opsC 3 [0, 0, 0] [0, 1, 2] fun _ => seg [(10, pt b 0), (11, vi f), (12, vi n)] [] [] trivial fun ac wd hS => ?_
 refine hS.call0 57 #[pt b 0, vi f, vi n] 13 (ar_row b F m f n _ (hS.mem.res 0) ) fun ac wd hS => ?_
 refine hS.opsC 5 [0, 0, 0, 0, 0] [0, 1, 2] fun _ => seg [(7, vi (rowC m f n)), (8, vi (rowE m f n))] [] [] trivial fun ac wd hS => ?_
 refine list_nil_seq ?_
 refine wp_block ?_
 refine hS.regS [0, 0, 0] [0, 1, 2, 7, 8] fun _ => seg [(16, vb (((rowE m f n) : Int) != 0))] [] [] trivial fun ac wd hS => ?_
 refine hS.condC (((rowE m f n) : Int) != 0) (fun hb1o hb1 => ?_) (fun hb1o hb1 => ?_)
 ·
  refine hS.regS [0, 0] [] fun _ => seg [(6, vi (rowE m f n))] [] [] trivial fun ac wd hS => ?_
  refine wp_ret ?_
  refine pop_block_ret ?_
  refine pop_then_ret ?_
  refine St.retC 0 hS (vi (rowE m f n)) [] trivial fun hw => ?_
  refine ⟨F, retd (vint ?_), (res_eq (r := arR b F m) (by first | exact congrArg _ (dec_no (by omega)) | exact congrArg _ (dec_yes hr0 hc0)) (hw.res 0)), hw.frA⟩
  all_goals (first | exact (dec_e1 (by omega)).symm | exact (dec_e2 (by omega) (by omega)).symm | exact (dec_e3 hr0 hc0).symm)
 ·
  have hr0 := hb1
  refine hS.regS [0, 0, 0, 0] [0, 1, 2] fun _ => seg [(20, vb (decide (((rowC m f n) : Int) < n)))] [] [] trivial fun ac wd hS => ?_
  refine hS.condC (decide (((rowC m f n) : Int) < n)) (fun hb2o hb2 => ?_) (fun hb2o hb2 => ?_)
  ·
   refine hS.regS [0] [] fun _ => seg [(6, vi 8)] [] [] trivial fun ac wd hS => ?_
   refine wp_ret ?_
   refine pop_block_ret ?_
   refine pop_then_ret ?_
   refine St.retC 0 hS (vi 8) [] trivial fun hw => ?_
   refine ⟨F, retd (vint ?_), (res_eq (r := arR b F m) (by first | exact congrArg _ (dec_no (by omega)) | exact congrArg _ (dec_yes hr0 hc0)) (hw.res 0)), hw.frA⟩
   all_goals (first | exact (dec_e1 (by omega)).symm | exact (dec_e2 (by omega) (by omega)).symm | exact (dec_e3 hr0 hc0).symm)
  ·
   have hc0 := hb2
   obtain ⟨hr1, hr2, hr3, hr4, hr5⟩ := row_facts hr0
   refine wp_skip ?_
   refine pop_block ?_
   refine pop_then ?_
   obtain ⟨d, hd, hO, hbw⟩ := hS.mem.openA
   replace hS := hS.to hO
   clear hO
   have hcnt := countTo_le m.com m.cap
   have hW : Words d.ws d.nw m.cap m.com := hd.set
   have hcl : m.cap ≤ 1048576 := hd.capLe
   have hrl : m.refuse < 2 ^ 63 := hd.refuseLe
   refine wp_region_seq ?_
   refine hS.opsC 9 [0, 0, 0, 0, 0, 0, 0, 20, fx 10 (sc d.bp (Int.toNat f) (Int.toNat n) (m.cap - (Int.toNat f)))] [0, 1, 2] fun _ => seg [(32, sc d.bp (Int.toNat f) (Int.toNat n) (m.cap - (Int.toNat f)))] [(0, none), (1, none), (2, none)] [.p ((sc d.bp (sadd m.cap (Int.toNat (f : Int)) 0 1) (Int.toNat ((f + n) : Int) - Int.toNat (f : Int)) (m.cap - Int.toNat (f : Int)) : Value) = sc d.bp (Int.toNat f) (Int.toNat n) (m.cap - (Int.toNat f))), .p (0 ≤ (f : Int) ∧ (f : Int) ≤ ((f + n) : Int) ∧ ((f + n) : Int) ≤ ((m.cap : Nat) : Int) ∧ m.cap ≤ m.cap), .p (fit .i64 (f + n)), .e b] ⟨(by rw [sadd_ne (by omega), show (0 : Nat) + Int.toNat (f : Int) * 1 = (Int.toNat f) by omega, show Int.toNat ((f + n) : Int) - Int.toNat (f : Int) = (Int.toNat n) by omega]), (by omega), fit_i64 (by omega), trivial⟩ fun ac wd hS => ?_
   refine Runs1.list ?_
   obtain ⟨i_, hi_, hz_, hs_, hb_⟩ := info_get (P := Tryd.prog) (e := 90) (z := pnil) (s := 1) (b := 8) (by kernel_rfl)
   refine St.clearR hS (.tmp 32) 87 rfl rfl Tryd.underlying87 hi_ hz_ hs_ rfl rfl (b := d.bp) (off := (Int.toNat f)) (k := (Int.toNat n)) (cp := (m.cap - (Int.toNat f))) (m := m.cap) (tot := m.cap) (e2 := d.TP) (f := (pagesV m.com d.pb 0)) 1 (by omega) (by omega) fun wd hS => ?_
   replace hS := hS.to (hS.mem.tellR 1 (b := d.bp) (e := d.TP) (m := m.cap) (tot := m.cap) (f := (segV (pagesV m.com d.pb 0) (Int.toNat f) (Int.toNat n) (fun _ => pnil))) (pagesV (setR m.com (Int.toNat f) (Int.toNat n) false) d.pb 0) (fun o ho => pagesV_clear m.com d.pb (Int.toNat f) (Int.toNat n) o))
   refine list_nil_seq ?_
   replace hS := hS.to (WS.less (com' := (setR m.com (Int.toNat f) (Int.toNat n) false)) hS.mem (fun i hi h => setR_sub h))
   refine wp_region_seq ?_
   refine hS.opsC 7 [0, 0, 0, 0, 0, 0, 0] [0, 2] fun _ => seg [(34, pt b 0), (38, .agg #[vi ((m.cap : Nat) : Int), sc d.bw d.ow d.nw d.cw]), (39, vi f), (40, vi n)] [(0, none), (1, none), (2, none)] [.e b, .e b] trivial fun ac wd hS => ?_
   refine hS.callC 66 #[.agg #[vi ((m.cap : Nat) : Int), sc d.bw d.ow d.nw d.cw], vi f, vi n] (bits_Without d.bw d.ow d.cw d.nw d.ws m.cap f n m.com _ (hS.mem.get 2 d.bw (.fn d.ow (d.ow + d.nw) (u64s d.ws d.ow))) (by first | assumption | omega | (simp_all; done) | (simp_all; omega)) (by first | assumption | omega | (simp_all; done) | (simp_all; omega))) ?_
   rintro _ wd ⟨g23, o24, c25, ws26, rfl, hW27, hog0, hoh0, hF⟩
   have ho8 : g23 = d.bw ∨ w.heap.size ≤ g23 := by rcases hog0 with hx | hx; rw [hx]; exact (.inl rfl); exact .inr (Nat.le_trans hS.mem.fr.size hx)
   refine ⟨.tuple #[.agg #[vi ((m.cap : Nat) : Int), sc g23 o24 d.nw c25], vi (trnE m.cap f n)], rfl, ?_⟩
   replace hS := (hS.to (hS.mem.outs hF [(g23, .fn o24 (o24 + d.nw) (u64s ws26 o24))] ⟨⟨rfl, hoh0, hog0.imp (fun e => ⟨2, .fn d.ow (d.ow + d.nw) (u64s d.ws d.ow), by rw [e]; rfl, rfl⟩) id⟩, trivial⟩)).put (d := 41) (v := .tuple #[.agg #[vi ((m.cap : Nat) : Int), sc g23 o24 d.nw c25], vi (trnE m.cap f n)]) (by decide)
   clear hF
   refine hS.opsC 6 [0, 0, 0, 0, 0, 0] [0, 2] fun _ => seg [] [(0, some (b, .cells [sc d.bp 0 m.cap m.cap, vi ((m.cap : Nat) : Int), sc g23 o24 d.nw c25, vi ((countTo m.com m.cap : Nat) : Int), vb m.armed, vi ((m.refuse : Nat) : Int)] d.TA)), (1, none), (2, none), (3, none)] [.e b, .e b] trivial fun ac wd hS => ?_
   refine list_nil_seq ?_
   refine hS.regS [0, 0, 0, 0, 0, fx 20 (vi ((countTo m.com m.cap - n.toNat : Nat) : Int)), 0, 0, 0] [] fun _ => seg [] [(0, some (b, .cells [sc d.bp 0 m.cap m.cap, vi ((m.cap : Nat) : Int), sc g23 o24 d.nw c25, vi ((countTo m.com m.cap - n.toNat : Nat) : Int), vb m.armed, vi ((m.refuse : Nat) : Int)] d.TA)), (1, none), (2, none), (3, none)] [.e b, .p ((vi (((countTo m.com m.cap : Nat) : Int) - n) : Value) = vi ((countTo m.com m.cap - n.toNat : Nat) : Int)), .p (fit .i64 (((countTo m.com m.cap : Nat) : Int) - n)), .e b] ⟨(vint (by have := (cnt_down hr0 hc0).2; omega)), fit_i64 (by omega), trivial⟩ fun ac wd hS => ?_
   refine hS.regS [0] [] fun _ => seg [(6, vi 0)] [(0, none), (1, none), (2, none), (3, none)] [] trivial fun ac wd hS => ?_
   refine wp_ret ?_
   replace hS := hS.to (WS.closeA (cap := m.cap) (cnt := (countTo m.com m.cap - n.toNat)) (refuse := m.refuse) (com := (setR m.com (Int.toNat f) (Int.toNat n) false)) (mem := m.mem) (pb := d.pb) (Fq := (Fp m.cap (setR m.com (Int.toNat f) (Int.toNat n) false) d.pb)) hS.mem 0 1 3 b d.bp g23 o24 d.nw c25 m.armed d.TA d.TP ws26 ((trn_yes hr4) ▸ ‹Words _ _ _ (trn m.com m.cap f n false)›) hcl hrl (ho8.elim (fun e => e ▸ hbw) Or.inr) (cnt_down hr0 hc0).1)
   refine St.retC 0 hS (vi 0) [] trivial fun hw => ?_
   refine ⟨(fun k => k = b ∨ k = d.bp ∨ k = g23 ∨ (Fp m.cap (setR m.com (Int.toNat f) (Int.toNat n) false) d.pb) k), retd (vint ?_), (res_eq (r := arR b (fun k => k = b ∨ k = d.bp ∨ k = g23 ∨ (Fp m.cap (setR m.com (Int.toNat f) (Int.toNat n) false) d.pb) k) (⟨m.cap, (setR m.com (Int.toNat f) (Int.toNat n) false), m.mem, m.armed, m.refuse⟩)) (by first | exact congrArg _ (dec_no (by omega)) | exact congrArg _ (dec_yes hr0 hc0)) (hw.res 0)), hw.frA⟩
   all_goals (first | exact (dec_e1 (by omega)).symm | exact (dec_e2 (by omega) (by omega)).symm | exact (dec_e3 hr0 hc0).symm)

end Go.Proofs.YtlnecfdbmoilbaaDoor.K
