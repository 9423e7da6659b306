/-
  Walks, printed by w2.py.
-/
import Derived.Test.YtdjhdcaanmkblaaDoorPt
import Derived.Test.YtdjhdcaanmkblaaDoorM3
import Derived.Test.YtdjhdcaanmkblaaDoorOb
import Derived.Test.YtdjhdcaanmkblaaDoorProg
namespace Go.Proofs.YtdjhdcaanmkblaaDoor.K
set_option linter.unusedVariables false
set_option linter.unusedSimpArgs false

set_option maxRecDepth 100000 in
set_option maxHeartbeats 1000000 in
theorem ar_rowO (b : Nat) (f : Int) (n : Int) (m : AM) (d : Lie) (w : World) (hh0 : HE.holds w b (.fn 0 6 (roF [sc d.bp 0 m.cap m.cap, vi ((m.cap : Nat) : Int), sc d.bw d.ow d.nw d.cw, vi ((countTo m.com m.cap : Nat) : Int), vb m.armed, vi ((m.refuse : Nat) : Int)]))) (hh1 : HE.holds w d.bw (.fn d.ow (d.ow + d.nw) (u64s d.ws d.ow))) (hW : Words d.ws d.nw m.cap m.com) (hcl : m.cap ≤ 1048576) :
    Calls Tryd.prog 69 #[pt b 0, vi f, vi n] w fun e w' => e = .returned (.tuple #[vi (rowC m f n), vi (rowE m f n)]) ∧ Fr w w' no no := by
 refine enter (args := [pt b 0, vi f, vi n]) (D := no) (A := []) Tryd.func69 rfl 23 rfl [(b, .fn 0 6 (roF [sc d.bp 0 m.cap m.cap, vi ((m.cap : Nat) : Int), sc d.bw d.ow d.nw d.cw, vi ((countTo m.com m.cap : Nat) : Int), vb m.armed, vi ((m.refuse : Nat) : Int)])), (d.bw, .fn d.ow (d.ow + d.nw) (u64s d.ws d.ow))] (WS.startL ⟨⟨rfl, hh0⟩, ⟨rfl, hh1⟩, trivial⟩) fun ac hS => ?_
 refine hS.regS [0, 0] [0, 1, 2] fun _ => seg [] [(0, none), (1, none)] [] trivial fun ac wd hS => ?_
 refine wp_seq ?_
 refine wp_block ?_
 refine hS.regS [0, 0, 0] [0, 1, 2] fun _ => seg [(8, vb false)] [(0, none), (1, none)] [] trivial fun ac wd hS => ?_
 refine hS.condF ?_
 refine hS.regS [0, 0, 0] [0, 1, 2] fun _ => seg [(11, vb (decide ((n : Int) < 1)))] [(0, none), (1, none)] [] trivial fun ac wd hS => ?_
 refine hS.condC (decide ((n : Int) < 1)) (fun hb1o hb1 => ?_) (fun hb1o hb1 => ?_)
 ·
  refine hS.regS [0, 0] [] fun _ => seg [(6, vi 0), (7, vi 2)] [] [] trivial fun ac wd hS => ?_
  refine wp_ret ?_
  refine pop_block_ret ?_
  refine pop_then_ret ?_
  refine St.retC 0 hS (.tuple #[vi 0, vi 2]) [] trivial fun hw => ?_
  refine ⟨retd (tuple2 (vint ?_) (vint ?_)), hw.fr0⟩
  all_goals (first | exact (rowE_lt (by omega)).symm | exact (rowC_lt (by omega)).symm | exact (rowE_ge (by omega)).symm | exact (rowC_ge (by omega)).symm)
 ·
  refine wp_skip ?_
  refine pop_block ?_
  refine pop_then ?_
  refine wp_region_seq ?_
  refine hS.opsC 6 [0, 0, 0, 0, 0, 0] [] fun _ => seg [(17, .agg #[vi ((m.cap : Nat) : Int), sc d.bw d.ow d.nw d.cw]), (18, vi f), (19, vi n)] [(1, none)] [.e b, .p (0 ≤ 2 ∧ 2 < 6), .e b, .p (0 ≤ 1 ∧ 1 < 6)] ⟨(by decide), (by decide), trivial⟩ fun ac wd hS => ?_
  refine hS.call0 17 #[.agg #[vi ((m.cap : Nat) : Int), sc d.bw d.ow d.nw d.cw], vi f, vi n] 20 (bits_Count d.bw d.ow d.cw d.nw d.ws m.cap f n m.com _ (hS.mem.get 0 d.bw (.fn d.ow (d.ow + d.nw) (u64s d.ws d.ow))) (by first | assumption | omega | (simp_all; done) | (simp_all; omega)) (by first | assumption | omega | (simp_all; done) | (simp_all; omega))) fun ac wd hS => ?_
  refine hS.opsC 4 [0, 0, 0, 0] [] fun _ => seg [(6, vi (cntV m.com m.cap f n)), (7, vi (trnE m.cap f n))] [] [] trivial fun ac wd hS => ?_
  refine list_nil_seq ?_
  refine wp_ret ?_
  refine St.retC 0 hS (.tuple #[vi (cntV m.com m.cap f n), vi (trnE m.cap f n)]) [] trivial fun hw => ?_
  refine ⟨retd (tuple2 (vint ?_) (vint ?_)), hw.fr0⟩
  all_goals (first | exact (rowE_lt (by omega)).symm | exact (rowC_lt (by omega)).symm | exact (rowE_ge (by omega)).symm | exact (rowC_ge (by omega)).symm)

set_option maxRecDepth 100000 in
set_option maxHeartbeats 1000000 in
theorem ar_PagesO (b : Nat) (m : AM) (d : Lie) (w : World) (hh0 : HE.holds w b (.fn 0 6 (roF [sc d.bp 0 m.cap m.cap, vi ((m.cap : Nat) : Int), sc d.bw d.ow d.nw d.cw, vi ((countTo m.com m.cap : Nat) : Int), vb m.armed, vi ((m.refuse : Nat) : Int)]))) :
    Calls Tryd.prog 16 #[pt b 0] w fun e w' => e = .returned (.agg #[vi ((m.cap : Nat) : Int), sc d.bw d.ow d.nw d.cw]) ∧ Fr w w' no no := by
 refine enter (args := [pt b 0]) (D := no) (A := []) Tryd.func16 rfl 10 rfl [(b, .fn 0 6 (roF [sc d.bp 0 m.cap m.cap, vi ((m.cap : Nat) : Int), sc d.bw d.ow d.nw d.cw, vi ((countTo m.com m.cap : Nat) : Int), vb m.armed, vi ((m.refuse : Nat) : Int)]))] (WS.startL ⟨⟨rfl, hh0⟩, trivial⟩) fun ac hS => ?_
 refine hS.regS [0] [0] fun ν1 => seg [(2, pt (ν1 0) 0)] [(0, none), (1, some ((ν1 0), .cells [vi 0, vnil] 46))] [] trivial fun ac wd hS => ?_
 refine wp_seq ?_
 refine hS.regS [0, 0] [0, 2] fun _ => seg [(4, vb false)] [(0, none), (1, none)] [] trivial fun ac wd hS => ?_
 refine hS.condF ?_
 refine wp_skip ?_
 refine pop_then ?_
 refine hS.regS [0, 0, 0, 0, 100] [2] fun _ => seg [] [(1, some ((ν1 0), .cells [vi ((m.cap : Nat) : Int), sc d.bw d.ow d.nw d.cw] 46))] [.e (ν1 0), .e (ν1 0), .e b, .p (0 ≤ 2 ∧ 2 < 6), .e b, .p (0 ≤ 1 ∧ 1 < 6)] ⟨(by decide), (by decide), trivial⟩ fun ac wd hS => ?_
 refine wp_ret ?_
 refine St.retC 0 hS (.agg #[vi ((m.cap : Nat) : Int), sc d.bw d.ow d.nw d.cw]) [.e (ν1 0), .e (ν1 0)] trivial fun hw => ?_
 refine ⟨retd rfl, hw.fr0⟩

set_option maxRecDepth 100000 in
set_option maxHeartbeats 1000000 in
theorem ar_DecommitX (b : Nat) (f : Int) (n : Int) (m : AM) (d : Lie) (F : Nat → Prop) (w : World) (hd : ArAt w ⟨b, F, m⟩ d) :
    Calls Tryd.prog 50 #[pt b 0, vi f, vi n] w fun e w' => e = .returned (vi (decE m f n)) ∧ OffX w w' b F d (decM m f n) ∧ Fr w w' (offW F d.bw) no := by
 have hcnt := countTo_le m.com m.cap
 have hW : Words d.ws d.nw m.cap m.com := hd.set
 have hcl : m.cap ≤ 1048576 := hd.capLe
 have hrl : m.refuse < 2 ^ 63 := hd.refuseLe
 refine enter (args := [pt b 0, vi f, vi n]) (D := (offW F d.bw)) (A := [pgR 0 (Fp m.cap m.com d.pb) (⟨m.cap, m.com, m.mem, d.pb⟩)]) Tryd.func50 rfl 54 rfl [(b, .cells [sc d.bp 0 m.cap m.cap, vi ((m.cap : Nat) : Int), sc d.bw d.ow d.nw d.cw, vi ((countTo m.com m.cap : Nat) : Int), vb m.armed, vi ((m.refuse : Nat) : Int)] d.TA), (d.bp, .row d.TP m.cap m.cap (pagesV m.com d.pb 0)), (d.bw, .fn d.ow (d.ow + d.nw) (u64s d.ws d.ow))] (WS.startO hd) fun ac hS => ?_
 refine hS.regS [0] [0, 1, 2] fun _ => seg [] [(0, none), (1, none), (2, none)] [] trivial fun ac wd hS => ?_
 refine wp_seq ?_
 refine wp_region_seq ?_
 refine hS.opsC 3 [0, 0, 0] [0, 1, 2] fun _ => seg [(10, pt b 0), (11, vi f), (12, vi n)] [(0, none), (1, none), (2, none)] [] trivial fun ac wd hS => ?_
 refine hS.call0 69 #[pt b 0, vi f, vi n] 13 (ar_rowO b f n m d _ (HE.ro (hS.mem.get 0 b (.cells [sc d.bp 0 m.cap m.cap, vi ((m.cap : Nat) : Int), sc d.bw d.ow d.nw d.cw, vi ((countTo m.com m.cap : Nat) : Int), vb m.armed, vi ((m.refuse : Nat) : Int)] d.TA))) (hS.mem.get 2 d.bw (.fn d.ow (d.ow + d.nw) (u64s d.ws d.ow))) (by first | assumption | omega | (simp_all; done) | (simp_all; omega)) (by first | assumption | omega | (simp_all; done) | (simp_all; omega))) fun ac wd hS => ?_
 refine hS.opsC 5 [0, 0, 0, 0, 0] [0, 1, 2] fun _ => seg [(7, vi (rowC m f n)), (8, vi (rowE m f n))] [(0, none), (1, none), (2, none)] [] trivial fun ac wd hS => ?_
 refine list_nil_seq ?_
 refine wp_block ?_
 refine hS.regS [0, 0, 0] [0, 1, 2, 7, 8] fun _ => seg [(16, vb (((rowE m f n) : Int) != 0))] [(0, none), (1, none), (2, none)] [] trivial fun ac wd hS => ?_
 refine hS.condC (((rowE m f n) : Int) != 0) (fun hb1o hb1 => ?_) (fun hb1o hb1 => ?_)
 ·
  refine hS.regS [0, 0] [] fun _ => seg [(6, vi (rowE m f n))] [(0, none), (1, none), (2, none)] [] trivial fun ac wd hS => ?_
  refine wp_ret ?_
  refine pop_block_ret ?_
  refine pop_then_ret ?_
  refine St.retC 0 hS (vi (rowE m f n)) [] trivial fun hw => ?_
  obtain ⟨hX9, hF9⟩ := WS.endO (d := d) (m' := decM m f n) (cap := m.cap) (cnt := (countTo m.com m.cap)) (refuse := m.refuse) (com := m.com) (mem := m.mem) (pb := d.pb) (Fq := (Fp m.cap m.com d.pb)) hw 0 1 2 b d.bp d.bw d.ow d.nw d.cw m.armed d.TA d.TP d.ws hW hcl hrl (.inl rfl) rfl (by first | exact dec_no (m := m) (by omega) | exact dec_yes (m := m) hr0 hc0)
  refine ⟨retd (vint ?_), hX9, hF9⟩
  first | exact (dec_e1 (by omega)).symm | exact (dec_e2 (by omega) (by omega)).symm | exact (dec_e3 hr0 hc0).symm
 ·
  have hr0 := hb1
  refine hS.regS [0, 0, 0, 0] [0, 1, 2] fun _ => seg [(20, vb (decide (((rowC m f n) : Int) < n)))] [(0, none), (1, none), (2, none)] [] trivial fun ac wd hS => ?_
  refine hS.condC (decide (((rowC m f n) : Int) < n)) (fun hb2o hb2 => ?_) (fun hb2o hb2 => ?_)
  ·
   refine hS.regS [0] [] fun _ => seg [(6, vi 8)] [(0, none), (1, none), (2, none)] [] trivial fun ac wd hS => ?_
   refine wp_ret ?_
   refine pop_block_ret ?_
   refine pop_then_ret ?_
   refine St.retC 0 hS (vi 8) [] trivial fun hw => ?_
   obtain ⟨hX9, hF9⟩ := WS.endO (d := d) (m' := decM m f n) (cap := m.cap) (cnt := (countTo m.com m.cap)) (refuse := m.refuse) (com := m.com) (mem := m.mem) (pb := d.pb) (Fq := (Fp m.cap m.com d.pb)) hw 0 1 2 b d.bp d.bw d.ow d.nw d.cw m.armed d.TA d.TP d.ws hW hcl hrl (.inl rfl) rfl (by first | exact dec_no (m := m) (by omega) | exact dec_yes (m := m) hr0 hc0)
   refine ⟨retd (vint ?_), hX9, hF9⟩
   first | exact (dec_e1 (by omega)).symm | exact (dec_e2 (by omega) (by omega)).symm | exact (dec_e3 hr0 hc0).symm
  ·
   have hc0 := hb2
   obtain ⟨hr1, hr2, hr3, hr4, hr5⟩ := row_facts hr0
   refine wp_skip ?_
   refine pop_block ?_
   refine pop_then ?_
   refine wp_region_seq ?_
   refine hS.opsC 9 [0, 0, 0, 0, 0, 0, 0, 20, fx 10 (sc d.bp (Int.toNat f) (Int.toNat n) (m.cap - (Int.toNat f)))] [0, 1, 2] fun _ => seg [(32, sc d.bp (Int.toNat f) (Int.toNat n) (m.cap - (Int.toNat f)))] [(0, none), (1, none), (2, none)] [.p ((sc d.bp (sadd m.cap (Int.toNat (f : Int)) 0 1) (Int.toNat ((f + n) : Int) - Int.toNat (f : Int)) (m.cap - Int.toNat (f : Int)) : Value) = sc d.bp (Int.toNat f) (Int.toNat n) (m.cap - (Int.toNat f))), .p (0 ≤ (f : Int) ∧ (f : Int) ≤ ((f + n) : Int) ∧ ((f + n) : Int) ≤ ((m.cap : Nat) : Int) ∧ m.cap ≤ m.cap), .p (fit .i64 (f + n)), .e b] ⟨(by rw [sadd_ne (by omega), show (0 : Nat) + Int.toNat (f : Int) * 1 = (Int.toNat f) by omega, show Int.toNat ((f + n) : Int) - Int.toNat (f : Int) = (Int.toNat n) by omega]), (by omega), fit_i64 (by omega), trivial⟩ fun ac wd hS => ?_
   refine Runs1.list ?_
   obtain ⟨i_, hi_, hz_, hs_, hb_⟩ := info_get (P := Tryd.prog) (e := 127) (z := pnil) (s := 1) (b := 8) (by kernel_rfl)
   refine St.clearR hS (.tmp 32) 109 rfl rfl Tryd.underlying109 hi_ hz_ hs_ rfl rfl (b := d.bp) (off := (Int.toNat f)) (k := (Int.toNat n)) (cp := (m.cap - (Int.toNat f))) (m := m.cap) (tot := m.cap) (e2 := d.TP) (f := (pagesV m.com d.pb 0)) 1 (by omega) (by omega) fun wd hS => ?_
   replace hS := hS.to (hS.mem.tellR 1 (b := d.bp) (e := d.TP) (m := m.cap) (tot := m.cap) (f := (segV (pagesV m.com d.pb 0) (Int.toNat f) (Int.toNat n) (fun _ => pnil))) (pagesV (setR m.com (Int.toNat f) (Int.toNat n) false) d.pb 0) (fun o ho => pagesV_clear m.com d.pb (Int.toNat f) (Int.toNat n) o))
   refine list_nil_seq ?_
   replace hS := hS.to (WS.less (com' := (setR m.com (Int.toNat f) (Int.toNat n) false)) hS.mem (fun i hi h => setR_sub h))
   refine wp_region_seq ?_
   refine hS.opsC 7 [0, 0, 0, 0, 0, 0, 0] [0, 2] fun _ => seg [(34, pt b 0), (38, .agg #[vi ((m.cap : Nat) : Int), sc d.bw d.ow d.nw d.cw]), (39, vi f), (40, vi n)] [(0, none), (1, none), (2, none)] [.e b, .e b] trivial fun ac wd hS => ?_
   refine hS.callC 100 #[.agg #[vi ((m.cap : Nat) : Int), sc d.bw d.ow d.nw d.cw], vi f, vi n] (bits_Without d.bw d.ow d.cw d.nw d.ws m.cap f n m.com _ (hS.mem.get 2 d.bw (.fn d.ow (d.ow + d.nw) (u64s d.ws d.ow))) (by first | assumption | omega | (simp_all; done) | (simp_all; omega)) (by first | assumption | omega | (simp_all; done) | (simp_all; omega))) ?_
   rintro _ wd ⟨g23, o24, c25, ws26, rfl, hW27, hog0, hoh0, hF⟩
   have ho8 : g23 = d.bw ∨ w.heap.size ≤ g23 := by rcases hog0 with hx | hx; rw [hx]; exact (.inl rfl); exact .inr (Nat.le_trans hS.mem.fr.size hx)
   refine ⟨.tuple #[.agg #[vi ((m.cap : Nat) : Int), sc g23 o24 d.nw c25], vi (trnE m.cap f n)], rfl, ?_⟩
   replace hS := (hS.to (hS.mem.outs hF [(g23, .fn o24 (o24 + d.nw) (u64s ws26 o24))] ⟨⟨rfl, hoh0, hog0.imp (fun e => ⟨2, .fn d.ow (d.ow + d.nw) (u64s d.ws d.ow), by rw [e]; rfl, rfl⟩) id⟩, trivial⟩)).put (d := 41) (v := .tuple #[.agg #[vi ((m.cap : Nat) : Int), sc g23 o24 d.nw c25], vi (trnE m.cap f n)]) (by decide)
   clear hF
   refine hS.opsC 6 [0, 0, 0, 0, 0, 0] [0, 2] fun _ => seg [] [(0, some (b, .cells [sc d.bp 0 m.cap m.cap, vi ((m.cap : Nat) : Int), sc g23 o24 d.nw c25, vi ((countTo m.com m.cap : Nat) : Int), vb m.armed, vi ((m.refuse : Nat) : Int)] d.TA)), (1, none), (2, none), (3, none)] [.e b, .e b] trivial fun ac wd hS => ?_
   refine list_nil_seq ?_
   refine hS.regS [0, 0, 0, 0, 0, fx 20 (vi ((countTo m.com m.cap - n.toNat : Nat) : Int)), 0, 0, 0] [] fun _ => seg [] [(0, some (b, .cells [sc d.bp 0 m.cap m.cap, vi ((m.cap : Nat) : Int), sc g23 o24 d.nw c25, vi ((countTo m.com m.cap - n.toNat : Nat) : Int), vb m.armed, vi ((m.refuse : Nat) : Int)] d.TA)), (1, none), (2, none), (3, none)] [.e b, .p ((vi (((countTo m.com m.cap : Nat) : Int) - n) : Value) = vi ((countTo m.com m.cap - n.toNat : Nat) : Int)), .p (fit .i64 (((countTo m.com m.cap : Nat) : Int) - n)), .e b] ⟨(vint (by have := (cnt_down hr0 hc0).2; omega)), fit_i64 (by omega), trivial⟩ fun ac wd hS => ?_
   refine hS.regS [0] [] fun _ => seg [(6, vi 0)] [(0, none), (1, none), (2, none), (3, none)] [] trivial fun ac wd hS => ?_
   refine wp_ret ?_
   refine St.retC 0 hS (vi 0) [] trivial fun hw => ?_
   obtain ⟨hX9, hF9⟩ := WS.endO (d := d) (m' := decM m f n) (cap := m.cap) (cnt := (countTo m.com m.cap - n.toNat)) (refuse := m.refuse) (com := (setR m.com (Int.toNat f) (Int.toNat n) false)) (mem := m.mem) (pb := d.pb) (Fq := (Fp m.cap (setR m.com (Int.toNat f) (Int.toNat n) false) d.pb)) hw 0 1 3 b d.bp g23 o24 d.nw c25 m.armed d.TA d.TP ws26 ((trn_yes hr4) ▸ ‹Words _ _ _ (trn m.com m.cap f n false)›) hcl hrl ho8 (cnt_down hr0 hc0).1 (by first | exact dec_no (m := m) (by omega) | exact dec_yes (m := m) hr0 hc0)
   refine ⟨retd (vint ?_), hX9, hF9⟩
   first | exact (dec_e1 (by omega)).symm | exact (dec_e2 (by omega) (by omega)).symm | exact (dec_e3 hr0 hc0).symm

set_option maxRecDepth 100000 in
set_option maxHeartbeats 1000000 in
theorem ar_CommitX (b : Nat) (f : Int) (n : Int) (m : AM) (d : Lie) (F : Nat → Prop) (w : World) (hd : ArAt w ⟨b, F, m⟩ d) :
    Calls Tryd.prog 21 #[pt b 0, vi f, vi n] w fun e w' => e = .returned (vi (comE m f n)) ∧ OffX w w' b F d (comM m f n) ∧ Fr w w' (offW F d.bw) no := by
 have hcnt := countTo_le m.com m.cap
 have hW : Words d.ws d.nw m.cap m.com := hd.set
 have hcl : m.cap ≤ 1048576 := hd.capLe
 have hrl : m.refuse < 2 ^ 63 := hd.refuseLe
 refine enter (args := [pt b 0, vi f, vi n]) (D := (offW F d.bw)) (A := [pgR 0 (Fp m.cap m.com d.pb) (⟨m.cap, m.com, m.mem, d.pb⟩)]) Tryd.func21 rfl 84 rfl [(b, .cells [sc d.bp 0 m.cap m.cap, vi ((m.cap : Nat) : Int), sc d.bw d.ow d.nw d.cw, vi ((countTo m.com m.cap : Nat) : Int), vb m.armed, vi ((m.refuse : Nat) : Int)] d.TA), (d.bp, .row d.TP m.cap m.cap (pagesV m.com d.pb 0)), (d.bw, .fn d.ow (d.ow + d.nw) (u64s d.ws d.ow))] (WS.startO hd) fun ac hS => ?_
 refine hS.regS [0] [0, 1, 2] fun _ => seg [] [(0, none), (1, none), (2, none)] [] trivial fun ac wd hS => ?_
 refine wp_seq ?_
 refine wp_region_seq ?_
 refine hS.opsC 3 [0, 0, 0] [0, 1, 2] fun _ => seg [(11, pt b 0), (12, vi f), (13, vi n)] [(0, none), (1, none), (2, none)] [] trivial fun ac wd hS => ?_
 refine hS.call0 69 #[pt b 0, vi f, vi n] 14 (ar_rowO b f n m d _ (HE.ro (hS.mem.get 0 b (.cells [sc d.bp 0 m.cap m.cap, vi ((m.cap : Nat) : Int), sc d.bw d.ow d.nw d.cw, vi ((countTo m.com m.cap : Nat) : Int), vb m.armed, vi ((m.refuse : Nat) : Int)] d.TA))) (hS.mem.get 2 d.bw (.fn d.ow (d.ow + d.nw) (u64s d.ws d.ow))) (by first | assumption | omega | (simp_all; done) | (simp_all; omega)) (by first | assumption | omega | (simp_all; done) | (simp_all; omega))) fun ac wd hS => ?_
 refine hS.opsC 5 [0, 0, 0, 0, 0] [0, 1, 2] fun _ => seg [(7, vi (rowC m f n)), (8, vi (rowE m f n))] [(0, none), (1, none), (2, none)] [] trivial fun ac wd hS => ?_
 refine list_nil_seq ?_
 refine wp_block ?_
 refine hS.regS [0, 0, 0] [0, 1, 2, 7, 8] fun _ => seg [(17, vb (((rowE m f n) : Int) != 0))] [(0, none), (1, none), (2, none)] [] trivial fun ac wd hS => ?_
 refine hS.condC (((rowE m f n) : Int) != 0) (fun hb1o hb1 => ?_) (fun hb1o hb1 => ?_)
 ·
  refine hS.regS [0, 0] [] fun _ => seg [(6, vi (rowE m f n))] [(0, none), (1, none), (2, none)] [] trivial fun ac wd hS => ?_
  refine wp_ret ?_
  refine pop_block_ret ?_
  refine pop_then_ret ?_
  refine St.retC 0 hS (vi (rowE m f n)) [] trivial fun hw => ?_
  obtain ⟨hX9, hF9⟩ := WS.endO (d := d) (m' := comM m f n) (cap := m.cap) (cnt := (countTo m.com m.cap)) (refuse := m.refuse) (com := m.com) (mem := m.mem) (pb := d.pb) (Fq := (Fp m.cap m.com d.pb)) hw 0 1 2 b d.bp d.bw d.ow d.nw d.cw m.armed d.TA d.TP d.ws hW hcl hrl (.inl rfl) rfl (by first | exact com_no (m := m) (by omega) | exact com_ref (m := m) hr0 hc0 ha1 (by omega) | (rw [i1, i2, show (x9 - f).toNat = n.toNat by omega]; exact com_yes (m := m) hr0 hc0 ha3))
  refine ⟨retd (vint ?_), hX9, hF9⟩
  first | exact (com_e1 (by omega)).symm | exact (com_e2 (by omega) (by omega)).symm | exact (com_e3 hr0 hc0 ha1 (by omega)).symm | exact (com_e4 hr0 hc0 ha3).symm
 ·
  have hr0 := hb1
  refine hS.regS [0, 0, 0] [0, 1, 2] fun _ => seg [(21, vb (decide ((0 : Int) < (rowC m f n))))] [(0, none), (1, none), (2, none)] [] trivial fun ac wd hS => ?_
  refine hS.condC (decide ((0 : Int) < (rowC m f n))) (fun hb2o hb2 => ?_) (fun hb2o hb2 => ?_)
  ·
   refine hS.regS [0] [] fun _ => seg [(6, vi 9)] [(0, none), (1, none), (2, none)] [] trivial fun ac wd hS => ?_
   refine wp_ret ?_
   refine pop_block_ret ?_
   refine pop_then_ret ?_
   refine St.retC 0 hS (vi 9) [] trivial fun hw => ?_
   obtain ⟨hX9, hF9⟩ := WS.endO (d := d) (m' := comM m f n) (cap := m.cap) (cnt := (countTo m.com m.cap)) (refuse := m.refuse) (com := m.com) (mem := m.mem) (pb := d.pb) (Fq := (Fp m.cap m.com d.pb)) hw 0 1 2 b d.bp d.bw d.ow d.nw d.cw m.armed d.TA d.TP d.ws hW hcl hrl (.inl rfl) rfl (by first | exact com_no (m := m) (by omega) | exact com_ref (m := m) hr0 hc0 ha1 (by omega) | (rw [i1, i2, show (x9 - f).toNat = n.toNat by omega]; exact com_yes (m := m) hr0 hc0 ha3))
   refine ⟨retd (vint ?_), hX9, hF9⟩
   first | exact (com_e1 (by omega)).symm | exact (com_e2 (by omega) (by omega)).symm | exact (com_e3 hr0 hc0 ha1 (by omega)).symm | exact (com_e4 hr0 hc0 ha3).symm
  ·
   have hc0 := hb2
   refine hS.regS [0, 0, 0, 0, 0, 3, 3, 3, 3, 3, 80, 0] [0, 1, 2] fun _ => seg [(24, vb (m.armed && ((((m.refuse : Nat) : Int) : Int) == 0)))] [(0, none), (1, none), (2, none)] [.p (((m.armed = true) ∧ True) → AllP [(b : Nat) = b]), .e b] ⟨(fun ⟨hc0, _⟩ => by replace hc0 := nrm hc0; exact ⟨rfl, trivial⟩), trivial⟩ fun ac wd hS => ?_
   refine hS.condC (m.armed && ((((m.refuse : Nat) : Int) : Int) == 0)) (fun hb3o hb3 => ?_) (fun hb3o hb3 => ?_)
   ·
    obtain ⟨ha1, ha2⟩ := hb3
    refine hS.regS [0, 0, 0, 0] [] fun _ => seg [] [(0, some (b, .cells [sc d.bp 0 m.cap m.cap, vi ((m.cap : Nat) : Int), sc d.bw d.ow d.nw d.cw, vi ((countTo m.com m.cap : Nat) : Int), vb false, vi ((m.refuse : Nat) : Int)] d.TA)), (1, none), (2, none)] [.e b] trivial fun ac wd hS => ?_
    refine hS.regS [0] [] fun _ => seg [(6, vi 4)] [(0, none), (1, none), (2, none)] [] trivial fun ac wd hS => ?_
    refine wp_ret ?_
    refine pop_block_ret ?_
    refine pop_then_ret ?_
    refine St.retC 0 hS (vi 4) [] trivial fun hw => ?_
    obtain ⟨hX9, hF9⟩ := WS.endO (d := d) (m' := comM m f n) (cap := m.cap) (cnt := (countTo m.com m.cap)) (refuse := m.refuse) (com := m.com) (mem := m.mem) (pb := d.pb) (Fq := (Fp m.cap m.com d.pb)) hw 0 1 2 b d.bp d.bw d.ow d.nw d.cw false d.TA d.TP d.ws hW hcl hrl (.inl rfl) rfl (by first | exact com_no (m := m) (by omega) | exact com_ref (m := m) hr0 hc0 ha1 (by omega) | (rw [i1, i2, show (x9 - f).toNat = n.toNat by omega]; exact com_yes (m := m) hr0 hc0 ha3))
    refine ⟨retd (vint ?_), hX9, hF9⟩
    first | exact (com_e1 (by omega)).symm | exact (com_e2 (by omega) (by omega)).symm | exact (com_e3 hr0 hc0 ha1 (by omega)).symm | exact (com_e4 hr0 hc0 ha3).symm
   ·
    have ha3 : ¬ (m.armed = true ∧ m.refuse = 0) := fun q => by rcases hb3 with h | h; rw [q.1] at h; cases h; omega
    refine wp_skip ?_
    refine pop_block ?_
    refine pop_then ?_
    refine hS.regS [0, 0, 0, 0, 0, 20, fx 0 (vi ((m.refuse - 1 : Nat) : Int)), 0, 0, 0] [0, 1, 2] fun _ => seg [] [(0, some (b, .cells [sc d.bp 0 m.cap m.cap, vi ((m.cap : Nat) : Int), sc d.bw d.ow d.nw d.cw, vi ((countTo m.com m.cap : Nat) : Int), vb m.armed, vi ((m.refuse - 1 : Nat) : Int)] d.TA)), (1, none), (2, none)] [.e b, .p ((vi (imax 0 (((m.refuse : Nat) : Int) - 1)) : Value) = vi ((m.refuse - 1 : Nat) : Int)), .p (fit .i64 (((m.refuse : Nat) : Int) - 1)), .e b] ⟨(vint (refuse_dec _)), fit_i64 (by omega), trivial⟩ fun ac wd hS => ?_
    refine wp_seq ?_
    refine hS.regS [0, 0] [0, 1, 2] fun _ => seg [(9, vi f)] [(0, none), (1, none), (2, none)] [] trivial fun ac wd hS => ?_
    refine wp_block ?_
    obtain ⟨hr1, hr2, hr3, hr4, hr5⟩ := row_facts hr0
    have hfree := com_free hr0 hc0
    refine St.loopC (σ := Int × (Nat → Prop) × (Nat → Bool) × (Nat → UInt8) × (Nat → Nat)) (fun (x : Int × (Nat → Prop) × (Nat → Bool) × (Nat → UInt8) × (Nat → Nat)) => match x with | (x9, Fx, comx, memx, pbx) => ⟨[(0, [], pt b 0), (1, [], vi f), (2, [], vi n), (9, [], vi x9)], [(b, .cells [sc d.bp 0 m.cap m.cap, vi ((m.cap : Nat) : Int), sc d.bw d.ow d.nw d.cw, vi ((countTo m.com m.cap : Nat) : Int), vb m.armed, vi ((m.refuse - 1 : Nat) : Int)] d.TA), (d.bp, .row d.TP m.cap m.cap (pagesV comx pbx 0)), (d.bw, .fn d.ow (d.ow + d.nw) (u64s d.ws d.ow))], [pgR 0 Fx (⟨m.cap, comx, memx, pbx⟩)], (f ≤ x9 ∧ x9 ≤ f + n) ∧ (comx = setR m.com f.toNat (x9 - f).toNat true) ∧ (memx = zeroP m.mem f.toNat (x9 - f).toNat) ∧ True, Int.toNat (f + n - x9)⟩) (f, (Fp m.cap m.com d.pb), m.com, m.mem, d.pb) ⟨(by first | omega | (rw [show (f - f).toNat = 0 by omega]; first | exact (setR_none _ _ _).symm | exact (zeroP_none _ _).symm)), (by first | omega | (rw [show (f - f).toNat = 0 by omega]; first | exact (setR_none _ _ _).symm | exact (zeroP_none _ _).symm)), (by first | omega | (rw [show (f - f).toNat = 0 by omega]; first | exact (setR_none _ _ _).symm | exact (zeroP_none _ _).symm)), trivial⟩ hS ?_
    clear hS
    rintro ⟨x9, Fx, comx, memx, pbx⟩ ⟨i0, i1, i2, -⟩ ac wd hS
    replace i0 : f ≤ x9 ∧ x9 ≤ f + n := i0
    replace i1 : comx = setR m.com f.toNat (x9 - f).toNat true := i1
    replace i2 : memx = zeroP m.mem f.toNat (x9 - f).toNat := i2
    refine wp_seq ?_
    refine hS.regS [0, 0, 0, 20, 0] [0, 1, 2, 9] fun _ => seg [(53, vb (decide ((x9 : Int) < (f + n))))] [(0, none), (1, none), (2, none)] [.p (fit .i64 (f + n))] ⟨fit_i64 (by omega), trivial⟩ fun ac wd hS => ?_
    refine hS.condC (decide ((x9 : Int) < (f + n))) (fun hb4o hb4 => ?_) (fun hb4o hb4 => ?_)
    ·
     refine wp_skip ?_
     refine pop_then ?_
     refine wp_seq ?_
     refine wp_block ?_
     refine hS.regC [0, 0, 0, 0, 0, 50, 10, 100] [0, 1, 2, 9] fun ν14 => seg [] [(0, none), (1, some (d.bp, .row d.TP m.cap m.cap (fun x => if x = Int.toNat x9 then pt (ν14 0) 0 else (pagesV comx pbx 0) x))), (2, none), (3, some ((ν14 0), .row 128 4096 4096 (zf Tryd.prog 128)))] [.e d.bp, .p (Int.toNat x9 < m.cap), .p ((0 : Int) ≤ x9 ∧ (x9 : Int) < ((m.cap : Nat) : Int)), .p ((4096 : Nat) = 4096), .e b] ⟨(by omega), (by omega), rfl, trivial⟩ fun ac wd hS => ?_
     replace hS := hS.to (hS.mem.tellR 1 (b := d.bp) (e := d.TP) (m := m.cap) (tot := m.cap) (f := (fun x => if x = Int.toNat x9 then pt (ν14 0) 0 else (pagesV comx pbx 0) x)) (pagesV (setB comx (Int.toNat x9) true) (putN pbx (Int.toNat x9) (ν14 0)) 0) (fun o ho => pagesV_putv comx pbx (Int.toNat x9) (ν14 0) o))
     replace hS := hS.to (hS.mem.tellR 3 (b := (ν14 0)) (e := 128) (m := 4096) (tot := 4096) (f := (zf Tryd.prog 128)) (bytes (fun _ => 0) 0) (fun o ho => zf_page128 o ho))
     refine pop_block ?_
     refine pop_then ?_
     refine hS.regC [0, 20, 0] [0, 1, 2] fun _ => seg [(9, vi (x9 + 1))] [(0, none), (1, none), (2, none), (3, none)] [.p (fit .i64 (x9 + 1))] ⟨fit_i64 (by omega), trivial⟩ fun ac wd hS => ?_
     replace hS := hS.to (WS.absorb (H' := [(b, .cells [sc d.bp 0 m.cap m.cap, vi ((m.cap : Nat) : Int), sc d.bw d.ow d.nw d.cw, vi ((countTo m.com m.cap : Nat) : Int), vb m.armed, vi ((m.refuse - 1 : Nat) : Int)] d.TA), (d.bp, .row d.TP m.cap m.cap (pagesV (setB comx (Int.toNat x9) true) (putN pbx (Int.toNat x9) (ν14 0)) 0)), (d.bw, .fn d.ow (d.ow + d.nw) (u64s d.ws d.ow))]) hS.mem 3 (ν14 0) (Int.toNat x9) 128 (fun _ => 0) [0, 1, 2] (by omega) (by rw [i1]; exact com_next hr0 (by omega) (by omega) hfree))
     exact pop_then (hS.next ((x9 + 1), (fun k => Fx k ∨ k = (ν14 0)), (setB comx (Int.toNat x9) true), (putPg memx (Int.toNat x9) (fun _ => 0)), (putN pbx (Int.toNat x9) (ν14 0))) ⟨(by first | omega | assumption | (simp; done) | (simp; omega)), (by rw [i1]; exact comX_step (by omega) (by omega)), (by rw [i2]; exact memX_step (by omega) (by omega)), trivial⟩ (by dsimp only; omega))
    ·
     refine wp_exit ?_
     refine pop_then_exit ?_
     refine pop_then_exit ?_
     refine pop_block_hit ?_
     refine pop_then ?_
     refine wp_region_seq ?_
     refine hS.opsC 7 [0, 0, 0, 0, 0, 0, 0] [0, 2] fun _ => seg [(64, pt b 0), (68, .agg #[vi ((m.cap : Nat) : Int), sc d.bw d.ow d.nw d.cw]), (69, vi f), (70, vi n)] [(0, none), (1, none), (2, none)] [.e b, .e b] trivial fun ac wd hS => ?_
     refine hS.callC 70 #[.agg #[vi ((m.cap : Nat) : Int), sc d.bw d.ow d.nw d.cw], vi f, vi n] (bits_With d.bw d.ow d.cw d.nw d.ws m.cap f n m.com _ (hS.mem.get 2 d.bw (.fn d.ow (d.ow + d.nw) (u64s d.ws d.ow))) (by first | assumption | omega | (simp_all; done) | (simp_all; omega)) (by first | assumption | omega | (simp_all; done) | (simp_all; omega))) ?_
     rintro _ wd ⟨g25, o26, c27, ws28, rfl, hW29, hog0, hoh0, hF⟩
     have ho10 : g25 = d.bw ∨ w.heap.size ≤ g25 := by rcases hog0 with hx | hx; rw [hx]; exact (.inl rfl); exact .inr (Nat.le_trans hS.mem.fr.size hx)
     refine ⟨.tuple #[.agg #[vi ((m.cap : Nat) : Int), sc g25 o26 d.nw c27], vi (trnE m.cap f n)], rfl, ?_⟩
     replace hS := (hS.to (hS.mem.outs hF [(g25, .fn o26 (o26 + d.nw) (u64s ws28 o26))] ⟨⟨rfl, hoh0, hog0.imp (fun e => ⟨2, .fn d.ow (d.ow + d.nw) (u64s d.ws d.ow), by rw [e]; rfl, rfl⟩) id⟩, trivial⟩)).put (d := 71) (v := .tuple #[.agg #[vi ((m.cap : Nat) : Int), sc g25 o26 d.nw c27], vi (trnE m.cap f n)]) (by decide)
     clear hF
     refine hS.opsC 6 [0, 0, 0, 0, 0, 0] [0, 2] fun _ => seg [] [(0, some (b, .cells [sc d.bp 0 m.cap m.cap, vi ((m.cap : Nat) : Int), sc g25 o26 d.nw c27, vi ((countTo m.com m.cap : Nat) : Int), vb m.armed, vi ((m.refuse - 1 : Nat) : Int)] d.TA)), (1, none), (2, none), (3, none)] [.e b, .e b] trivial fun ac wd hS => ?_
     refine list_nil_seq ?_
     refine hS.regS [0, 0, 0, 0, 0, fx 20 (vi ((countTo m.com m.cap + n.toNat : Nat) : Int)), 0, 0, 0] [] fun _ => seg [] [(0, some (b, .cells [sc d.bp 0 m.cap m.cap, vi ((m.cap : Nat) : Int), sc g25 o26 d.nw c27, vi ((countTo m.com m.cap + n.toNat : Nat) : Int), vb m.armed, vi ((m.refuse - 1 : Nat) : Int)] d.TA)), (1, none), (2, none), (3, none)] [.e b, .p ((vi (((countTo m.com m.cap : Nat) : Int) + n) : Value) = vi ((countTo m.com m.cap + n.toNat : Nat) : Int)), .p (fit .i64 (((countTo m.com m.cap : Nat) : Int) + n)), .e b] ⟨(vint (add_nat (by omega))), fit_i64 (by omega), trivial⟩ fun ac wd hS => ?_
     refine hS.regS [0] [] fun _ => seg [(6, vi 0)] [(0, none), (1, none), (2, none), (3, none)] [] trivial fun ac wd hS => ?_
     refine wp_ret ?_
     refine St.retC 0 hS (vi 0) [] trivial fun hw => ?_
     obtain ⟨hX9, hF9⟩ := WS.endO (d := d) (m' := comM m f n) (cap := m.cap) (cnt := (countTo m.com m.cap + n.toNat)) (refuse := (m.refuse - 1)) (com := comx) (mem := memx) (pb := pbx) (Fq := Fx) hw 0 1 3 b d.bp g25 o26 d.nw c27 m.armed d.TA d.TP ws28 (by rw [i1, show (x9 - f).toNat = n.toNat by omega]; exact (trn_yes hr4) ▸ ‹Words _ _ _ (trn m.com m.cap f n true)›) hcl (by omega) ho10 (by rw [i1, show (x9 - f).toNat = n.toNat by omega]; exact cnt_up hr0 hc0) (by first | exact com_no (m := m) (by omega) | exact com_ref (m := m) hr0 hc0 ha1 (by omega) | (rw [i1, i2, show (x9 - f).toNat = n.toNat by omega]; exact com_yes (m := m) hr0 hc0 ha3))
     refine ⟨retd (vint ?_), hX9, hF9⟩
     first | exact (com_e1 (by omega)).symm | exact (com_e2 (by omega) (by omega)).symm | exact (com_e3 hr0 hc0 ha1 (by omega)).symm | exact (com_e4 hr0 hc0 ha3).symm

set_option maxRecDepth 100000 in
set_option maxHeartbeats 1000000 in
theorem ar_CloneT (b : Nat) (F : Nat → Prop) (m : AM) (w : World) (hr : (arR b F m).R w) :
    Calls Tryd.prog 38 #[pt b 0] w fun e w' => ∃ (b' : Nat) (F' : Nat → Prop), e = .returned (pt b' 0) ∧ (twR b F' (b', m, m)).R w' ∧ Fr w w' F F' := by
 obtain ⟨d, hd⟩ := id hr
 have hcl : m.cap ≤ 1048576 := hd.capLe
 refine enter (args := [pt b 0]) (D := no) (A := []) Tryd.func38 rfl 39 rfl [(b, .fn 0 6 (roF [sc d.bp 0 m.cap m.cap, vi ((m.cap : Nat) : Int), sc d.bw d.ow d.nw d.cw, vi ((countTo m.com m.cap : Nat) : Int), vb m.armed, vi ((m.refuse : Nat) : Int)])), (d.bp, .fn 0 (0 + m.cap) (pagesV m.com d.pb 0)), (d.bw, .fn d.ow (d.ow + d.nw) (u64s d.ws d.ow))] (WS.startL ⟨⟨rfl, hd.ro⟩, ⟨rfl, hd.po⟩, ⟨rfl, hd.wo⟩, trivial⟩) fun ac hS => ?_
 refine hS.regS [0] [0] fun _ => seg [] [(0, none), (1, none), (2, none)] [] trivial fun ac wd hS => ?_
 refine wp_seq ?_
 refine hS.regS [0, 0] [0] fun _ => seg [(8, vb false)] [(0, none), (1, none), (2, none)] [] trivial fun ac wd hS => ?_
 refine hS.condF ?_
 refine wp_skip ?_
 refine pop_then ?_
 refine hS.regS [0, 0, 0, 0, 300] [0] fun ν3 => seg [(3, pt (ν3 0) 0)] [(0, none), (1, none), (2, none), (3, some ((ν3 0), .cells [sc d.bp 0 m.cap m.cap, vi ((m.cap : Nat) : Int), sc d.bw d.ow d.nw d.cw, vi ((countTo m.com m.cap : Nat) : Int), vb m.armed, vi ((m.refuse : Nat) : Int)] 111))] [.e (ν3 0), .e (ν3 0), .e (ν3 0), .e (ν3 0), .e (ν3 0), .e (ν3 0), .e b, .p (0 ≤ 5 ∧ 5 < 6), .e b, .p (0 ≤ 4 ∧ 4 < 6), .e b, .p (0 ≤ 3 ∧ 3 < 6), .e b, .p (0 ≤ 2 ∧ 2 < 6), .e b, .p (0 ≤ 1 ∧ 1 < 6), .e b, .p (0 ≤ 0 ∧ 0 < 6)] ⟨(by decide), (by decide), (by decide), (by decide), (by decide), (by decide), trivial⟩ fun ac wd hS => ?_
 refine hS.regS [0, 0, 0, 0, 0, 90, 0, 300] [0, 3] fun ν4 => seg [] [(0, none), (1, none), (2, none), (3, some ((ν3 0), .cells [sc (ν4 0) 0 m.cap m.cap, vi ((m.cap : Nat) : Int), sc d.bw d.ow d.nw d.cw, vi ((countTo m.com m.cap : Nat) : Int), vb m.armed, vi ((m.refuse : Nat) : Int)] 111)), (4, some ((ν4 0), .row 127 m.cap m.cap zerosP))] [.e (ν3 0), .p ((((m.cap : Nat) : Int) : Int) = ((m.cap : Nat) : Int)), .p ((0 : Int) ≤ ((m.cap : Nat) : Int) ∧ (((m.cap : Nat) : Int) : Int) ≤ 2 ^ 32 ∧ 8 ≤ 64), .e b, .p (0 ≤ 0 ∧ 0 < 6)] ⟨rfl, (by omega), (by decide), trivial⟩ fun ac wd hS => ?_
 refine wp_seq ?_
 refine hS.regS [0, 0, 0, 0, 0, 0] [3] fun _ => seg [(22, sc d.bp 0 m.cap m.cap), (23, vi ((m.cap : Nat) : Int)), (24, vi 0)] [(0, none), (1, none), (2, none), (3, none), (4, none)] [.e b, .p (0 ≤ 0 ∧ 0 < 6)] ⟨(by decide), trivial⟩ fun ac wd hS => ?_
 refine wp_block ?_
 replace hS := hS.to (hS.mem.tellR 4 (b := (ν4 0)) (e := 127) (m := m.cap) (tot := m.cap) (f := zerosP) (pagesV (comC m.com 0) (fun _ => 0) 0) (fun o _ => by rw [← comC_zero]; rfl))
 replace hS := hS.to (WS.pgNilC hS.mem m.cap m.com m.mem (fun _ => 0))
 refine St.loopC (σ := Int × (Nat → Prop) × (Nat → Nat)) (fun (x : Int × (Nat → Prop) × (Nat → Nat)) => match x with | (x24, Fx, pbx) => ⟨[(3, [], pt (ν3 0) 0), (22, [], sc d.bp 0 m.cap m.cap), (23, [], vi ((m.cap : Nat) : Int)), (24, [], vi x24)], [(b, .fn 0 6 (roF [sc d.bp 0 m.cap m.cap, vi ((m.cap : Nat) : Int), sc d.bw d.ow d.nw d.cw, vi ((countTo m.com m.cap : Nat) : Int), vb m.armed, vi ((m.refuse : Nat) : Int)])), (d.bp, .fn 0 (0 + m.cap) (pagesV m.com d.pb 0)), (d.bw, .fn d.ow (d.ow + d.nw) (u64s d.ws d.ow)), ((ν3 0), .cells [sc (ν4 0) 0 m.cap m.cap, vi ((m.cap : Nat) : Int), sc d.bw d.ow d.nw d.cw, vi ((countTo m.com m.cap : Nat) : Int), vb m.armed, vi ((m.refuse : Nat) : Int)] 111), ((ν4 0), .row 127 m.cap m.cap (pagesV (comC m.com (Int.toNat x24)) pbx 0))], [pgR 0 Fx (⟨m.cap, (comC m.com (Int.toNat x24)), m.mem, pbx⟩)], (0 ≤ x24 ∧ x24 ≤ (m.cap : Int)) ∧ True, m.cap - Int.toNat x24⟩) (0, no, (fun _ => 0)) ⟨(by omega), trivial⟩ hS ?_
 clear hS
 rintro ⟨x24, Fx, pbx⟩ ⟨i0, -⟩ ac wd hS
 replace i0 : 0 ≤ x24 ∧ x24 ≤ (m.cap : Int) := i0
 refine hS.regS [0] [3, 22, 23, 24] fun _ => seg [(25, vb (decide ((x24 : Int) < ((m.cap : Nat) : Int))))] [(0, none), (1, none), (2, none), (3, none), (4, none)] [] trivial fun ac wd hS => ?_
 refine wp_seq ?_
 refine hS.condC (decide ((x24 : Int) < ((m.cap : Nat) : Int))) (fun hb1o hb1 => ?_) (fun hb1o hb1 => ?_)
 ·
  refine wp_skip ?_
  refine pop_then ?_
  refine wp_seq ?_
  refine wp_block ?_
  refine hS.regS [0, 10, fx 100 (.pointer (if m.com (Int.toNat x24) then some (⟨d.pb (Int.toNat x24), 0, none⟩ : Addr) else none)), 0, 0] [3, 22, 23, 24] fun _ => seg [(4, vi x24), (5, .pointer (if m.com (Int.toNat x24) then some (⟨d.pb (Int.toNat x24), 0, none⟩ : Addr) else none))] [(0, none), (1, none), (2, none), (3, none), (4, none)] [.p ((((pagesV m.com d.pb 0) (Int.toNat x24)) : Value) = .pointer (if m.com (Int.toNat x24) then some (⟨d.pb (Int.toNat x24), 0, none⟩ : Addr) else none)), .e d.bp, .p (0 ≤ Int.toNat x24 ∧ Int.toNat x24 < (0 + m.cap)), .p ((0 : Int) ≤ x24 ∧ (x24 : Int) < ((m.cap : Nat) : Int))] ⟨((pagesV_abs m.com d.pb (Int.toNat x24)).trans (rfl)), (by omega), (by omega), trivial⟩ fun ac wd hS => ?_
  refine wp_region_seq ?_
  refine hS.opsC 1 [0] [3, 4, 5, 22, 23, 24] fun _ => seg [(29, .pointer (if m.com (Int.toNat x24) then some (⟨d.pb (Int.toNat x24), 0, none⟩ : Addr) else none))] [(0, none), (1, none), (2, none), (3, none), (4, none)] [] trivial fun ac wd hS => ?_
  refine Runs1.list ?_
  refine St.bin1 hS .neq (.tmp 29) (.const (.pointer none)) 127 127 rfl rfl (by decide) (u := .pointer (if m.com (Int.toNat x24) then some (⟨d.pb (Int.toNat x24), 0, none⟩ : Addr) else none)) (v := pnil) (r := vb (!Option.isNone (if m.com (Int.toNat x24) then some (⟨d.pb (Int.toNat x24), 0, none⟩ : Addr) else none))) (run_neq_pointer_nil _ 127 (if m.com (Int.toNat x24) then some (⟨d.pb (Int.toNat x24), 0, none⟩ : Addr) else none) Tryd.underlying127) rfl fun ac hS => ?_
  refine list_nil_seq ?_
  refine hS.condC (!Option.isNone (if m.com (Int.toNat x24) then some (⟨d.pb (Int.toNat x24), 0, none⟩ : Addr) else none)) (fun hb2o hb2 => ?_) (fun hb2o hb2 => ?_)
  ·
   have hpc : m.com (Int.toNat x24) = true := by cases hq : m.com (Int.toNat x24) with | true => rfl | false => (have hz := hb2o; rw [hq] at hz; cases hz)
   replace hS := hS.fix 5 (pt (d.pb (Int.toNat x24)) 0) (pt_if hpc)
   obtain ⟨TQ, hTQ⟩ := hd.pw (show (Int.toNat x24) < m.cap by omega) hpc
   refine wp_region_seq ?_
   refine hS.opsC 2 [0, 0] [3, 4, 22, 23, 24] fun _ => seg [(32, pt (d.pb (Int.toNat x24)) 0)] [(0, none), (1, none), (2, none), (3, none), (4, none)] [] trivial fun ac wd hS => ?_
   refine Runs1.list ?_
   refine St.ldRow hS (.tmp 32) 128 rfl rfl (by decide) (g := (d.pb (Int.toNat x24))) (N := 4096) (T := TQ) (f := (bytes (fun o => m.mem (4096 * (Int.toNat x24) + o)) 0)) (hTQ.congr (hS.mem.fr.block _ hTQ.lt (fun q => q))) Tryd.underlying128 rfl (by kernel_rfl) fun ac hS => ?_
   refine hS.opsC 1 [50] [3, 4, 22, 23, 24, 33] fun ν10 => seg [(6, pt (ν10 0) 0)] [(0, none), (1, none), (2, none), (3, none), (4, none), (5, some ((ν10 0), .row 128 4096 4096 (zf Tryd.prog 128)))] [.p ((4096 : Nat) = 4096)] ⟨rfl, trivial⟩ fun ac wd hS => ?_
   replace hS := hS.to (hS.mem.tellR 5 (b := (ν10 0)) (e := 128) (m := 4096) (tot := 4096) (f := (zf Tryd.prog 128)) (bytes (fun _ => 0) 0) (fun o ho => zf_page128 o ho))
   refine St.stRow hS (.tmp 6) (.tmp 33) 128 rfl rfl rfl (g := (ν10 0)) (N := 4096) (T := 128) (f0 := (bytes (fun _ => 0) 0)) (f := (bytes (fun o => m.mem (4096 * (Int.toNat x24) + o)) 0)) 5 (by as_aux_lemma => kernel_rfl) (fun _ _ => rfl) (by kernel_rfl) fun wd hS => ?_
   refine list_nil_seq ?_
   refine hS.regC [0, 300, 0, 10, 400] [3, 22, 23, 24] fun _ => seg [] [(0, none), (1, none), (2, none), (3, none), (4, some ((ν4 0), .row 127 m.cap m.cap (fun x => if x = Int.toNat x24 then pt (ν10 0) 0 else (pagesV (comC m.com (Int.toNat x24)) pbx 0) x))), (5, none)] [.e (ν4 0), .p (Int.toNat x24 < m.cap), .p ((0 : Int) ≤ x24 ∧ (x24 : Int) < ((m.cap : Nat) : Int)), .e (ν3 0)] ⟨(by omega), (by omega), trivial⟩ fun ac wd hS => ?_
   replace hS := hS.to (hS.mem.tellR 4 (b := (ν4 0)) (e := 127) (m := m.cap) (tot := m.cap) (f := (fun x => if x = Int.toNat x24 then pt (ν10 0) 0 else (pagesV (comC m.com (Int.toNat x24)) pbx 0) x)) (pagesV (setB (comC m.com (Int.toNat x24)) (Int.toNat x24) true) (putN pbx (Int.toNat x24) (ν10 0)) 0) (fun o ho => pagesV_putv (comC m.com (Int.toNat x24)) pbx (Int.toNat x24) (ν10 0) o))
   refine pop_block ?_
   refine pop_then ?_
   refine hS.regC [20, 0] [3, 22, 23] fun _ => seg [(24, vi (x24 + 1))] [(0, none), (1, none), (2, none), (3, none), (4, none), (5, none)] [.p (fit .i64 (x24 + 1))] ⟨fit_i64 (by omega), trivial⟩ fun ac wd hS => ?_
   have hx1 : Int.toNat (x24 + 1) = Int.toNat x24 + 1 := by omega
   replace hS := hS.to (WS.absorb (H' := [(b, .fn 0 6 (roF [sc d.bp 0 m.cap m.cap, vi ((m.cap : Nat) : Int), sc d.bw d.ow d.nw d.cw, vi ((countTo m.com m.cap : Nat) : Int), vb m.armed, vi ((m.refuse : Nat) : Int)])), (d.bp, .fn 0 (0 + m.cap) (pagesV m.com d.pb 0)), (d.bw, .fn d.ow (d.ow + d.nw) (u64s d.ws d.ow)), ((ν3 0), .cells [sc (ν4 0) 0 m.cap m.cap, vi ((m.cap : Nat) : Int), sc d.bw d.ow d.nw d.cw, vi ((countTo m.com m.cap : Nat) : Int), vb m.armed, vi ((m.refuse : Nat) : Int)] 111), ((ν4 0), .row 127 m.cap m.cap (pagesV (setB (comC m.com (Int.toNat x24)) (Int.toNat x24) true) (putN pbx (Int.toNat x24) (ν10 0)) 0))]) hS.mem 5 (ν10 0) (Int.toNat x24) 128 (fun o => m.mem (4096 * (Int.toNat x24) + o)) [0, 1, 2, 3, 4] (by omega) (comC_at _ _))
   replace hS := hS.to (WS.pgTell (com' := (comC m.com (Int.toNat (x24 + 1)))) (mem' := m.mem) hS.mem (by rw [hx1]; exact comC_yes hpc) (putPg_self _ _))
   replace hS := hS.to (hS.mem.tellR 4 (b := (ν4 0)) (e := 127) (m := m.cap) (tot := m.cap) (f := (pagesV (setB (comC m.com (Int.toNat x24)) (Int.toNat x24) true) (putN pbx (Int.toNat x24) (ν10 0)) 0)) (pagesV (comC m.com (Int.toNat (x24 + 1))) (putN pbx (Int.toNat x24) (ν10 0)) 0) (fun o _ => congrArg (fun q => pagesV q (putN pbx (Int.toNat x24) (ν10 0)) 0 o) (show (comC m.com (Int.toNat (x24 + 1))) = (setB (comC m.com (Int.toNat x24)) (Int.toNat x24) true) from (show (setB (comC m.com (Int.toNat x24)) (Int.toNat x24) true) = (comC m.com (Int.toNat (x24 + 1))) by rw [hx1]; exact comC_yes hpc).symm)))
   exact pop_then (hS.next ((x24 + 1), (fun k => Fx k ∨ k = (ν10 0)), (putN pbx (Int.toNat x24) (ν10 0))) ⟨(by first | omega | assumption | (simp; done) | (simp; omega)), trivial⟩ (by dsimp only; omega))
  ·
   have hpc : m.com (Int.toNat x24) = false := by cases hq : m.com (Int.toNat x24) with | false => rfl | true => (have hz := hb2o; rw [hq] at hz; cases hz)
   refine wp_skip ?_
   refine pop_block ?_
   refine pop_then ?_
   refine hS.regC [20, 0] [3, 22, 23] fun _ => seg [(24, vi (x24 + 1))] [(0, none), (1, none), (2, none), (3, none), (4, none)] [.p (fit .i64 (x24 + 1))] ⟨fit_i64 (by omega), trivial⟩ fun ac wd hS => ?_
   have hx1 : Int.toNat (x24 + 1) = Int.toNat x24 + 1 := by omega
   replace hS := hS.to (WS.pgTell (com' := (comC m.com (Int.toNat (x24 + 1)))) (mem' := m.mem) hS.mem (by rw [hx1]; exact comC_no hpc) (rfl))
   replace hS := hS.to (hS.mem.tellR 4 (b := (ν4 0)) (e := 127) (m := m.cap) (tot := m.cap) (f := (pagesV (comC m.com (Int.toNat x24)) pbx 0)) (pagesV (comC m.com (Int.toNat (x24 + 1))) pbx 0) (fun o _ => congrArg (fun q => pagesV q pbx 0 o) (show (comC m.com (Int.toNat (x24 + 1))) = (comC m.com (Int.toNat x24)) from (show (comC m.com (Int.toNat x24)) = (comC m.com (Int.toNat (x24 + 1))) by rw [hx1]; exact comC_no hpc).symm)))
   exact pop_then (hS.next ((x24 + 1), Fx, pbx) ⟨(by first | omega | assumption | (simp; done) | (simp; omega)), trivial⟩ (by dsimp only; omega))
 ·
  refine wp_exit ?_
  refine pop_then_exit ?_
  refine pop_then_exit ?_
  refine pop_block_hit ?_
  refine pop_then ?_
  refine hS.regS [0] [] fun _ => seg [(2, pt (ν3 0) 0)] [(0, none), (1, none), (2, none), (3, none), (4, none)] [] trivial fun ac wd hS => ?_
  refine wp_ret ?_
  refine St.retC 0 hS (pt (ν3 0) 0) [] trivial fun hw => ?_
  have hxe : Int.toNat x24 = m.cap := by omega
  have h1 := hw.get 3 (ν3 0) (.cells [sc (ν4 0) 0 m.cap m.cap, vi ((m.cap : Nat) : Int), sc d.bw d.ow d.nw d.cw, vi ((countTo m.com m.cap : Nat) : Int), vb m.armed, vi ((m.refuse : Nat) : Int)] 111)
  have h2 := hw.get 4 (ν4 0) (.row 127 m.cap m.cap (pagesV (comC m.com (Int.toNat x24)) pbx 0))
  have h3 := hw.res (r := pgR 0 Fx (⟨m.cap, (comC m.com (Int.toNat x24)), m.mem, pbx⟩)) 0
  rw [hxe] at h2 h3
  have m1 := (hw.getm 3 (ν3 0) (.cells [sc (ν4 0) 0 m.cap m.cap, vi ((m.cap : Nat) : Int), sc d.bw d.ow d.nw d.cw, vi ((countTo m.com m.cap : Nat) : Int), vb m.armed, vi ((m.refuse : Nat) : Int)] 111)).resolve_right (fun h => h)
  have m2 := (hw.getm 4 (ν4 0) (.row 127 m.cap m.cap (pagesV (comC m.com (Int.toNat x24)) pbx 0))).resolve_right (fun h => h)
  have n1 := hw.nF (g := (ν3 0)) (r := pgR 0 Fx (⟨m.cap, (comC m.com (Int.toNat x24)), m.mem, pbx⟩)) 3 0
  have n2 := hw.nF (g := (ν4 0)) (r := pgR 0 Fx (⟨m.cap, (comC m.com (Int.toNat x24)), m.mem, pbx⟩)) 4 0
  obtain ⟨F2, hR, hfr⟩ := ar_cloneT hd h1 h2 h3 hw.fr (hw.nq 3 4 (ν3 0) (ν4 0)) n1 n2 m1 m2 (fun k hk => (hw.fr.foot k (.inl hk)).resolve_left (fun q => q))
  exact ⟨_, F2, rfl, hR, hfr⟩

theorem tw_Decommit (b : Nat) (F : Nat → Prop) (q : Nat × AM × AM) (f : Int) (n : Int) (w : World) (hr : (twR b F q).R w) :
    Calls Tryd.prog 50 #[pt b 0, vi f, vi n] w fun e w' => ∃ (F' : Nat → Prop), e = .returned (vi (decE q.2.1 f n)) ∧ (twR b F' (q.1, decM q.2.1 f n, q.2.2)).R w' ∧ Fr w w' F F' := by
 obtain ⟨d, F1, F2, hA, hB, hD, hF⟩ : Tw w b F q := hr
 refine (ar_DecommitX b f n q.2.1 d F1 w hA).mono ?_
 rintro e w2 ⟨rfl, hX, hf⟩
 obtain ⟨F', hR, hf2⟩ := tw_step hB hD ((hA.foot _).2 (.inr (.inr (.inl rfl)))) hF hX hf
 exact ⟨F', rfl, hR, hf2⟩

theorem tw_Commit (b : Nat) (F : Nat → Prop) (q : Nat × AM × AM) (f : Int) (n : Int) (w : World) (hr : (twR b F q).R w) :
    Calls Tryd.prog 21 #[pt b 0, vi f, vi n] w fun e w' => ∃ (F' : Nat → Prop), e = .returned (vi (comE q.2.1 f n)) ∧ (twR b F' (q.1, comM q.2.1 f n, q.2.2)).R w' ∧ Fr w w' F F' := by
 obtain ⟨d, F1, F2, hA, hB, hD, hF⟩ : Tw w b F q := hr
 refine (ar_CommitX b f n q.2.1 d F1 w hA).mono ?_
 rintro e w2 ⟨rfl, hX, hf⟩
 obtain ⟨F', hR, hf2⟩ := tw_step hB hD ((hA.foot _).2 (.inr (.inr (.inl rfl)))) hF hX hf
 exact ⟨F', rfl, hR, hf2⟩

theorem tw_Cap (b : Nat) (F : Nat → Prop) (q : Nat × AM × AM) (w : World) (hr : (twR b F q).R w) :
    Calls Tryd.prog 19 #[pt b 0] w fun e w' => e = .returned (vi ((q.2.1.cap : Nat) : Int)) ∧ Fr w w' no no := by
 obtain ⟨d, F1, F2, hA, hB, hD, hF⟩ : Tw w b F q := hr
 exact ar_Cap b F1 q.2.1 w ⟨d, hA⟩

theorem ar_PagesD (b : Nat) (F : Nat → Prop) (q : AM × Lie) (w : World) (hr : (arD b F q).R w) :
    Calls Tryd.prog 16 #[pt b 0] w fun e w' => e = .returned (.agg #[vi ((q.1.cap : Nat) : Int), sc q.2.bw q.2.ow q.2.nw q.2.cw]) ∧ Fr w w' no no := by
 have hd : ArAt w ⟨b, F, q.1⟩ q.2 := hr
 exact ar_PagesO b q.1 q.2 w hd.ro

end Go.Proofs.YtdjhdcaanmkblaaDoor.K
