import Derived.Test.YtdjhdcaanmkblaaDoorM4
import Derived.Test.YtdjhdcaanmkblaaDoorProg
import Derived.LoopN
import Derived.Laws.StructEq
/-
  Sizes and chunks, plainly.
-/
namespace Go.Proofs.YtdjhdcaanmkblaaDoor.K
set_option linter.unusedSimpArgs false
set_option linter.unusedVariables false

def z_whole (a : Int) : Bool := decide (1 ≤ a) && decide (a ≤ 4096) && (iand .i64 a (IntKind.wrap .i64 (a - 1)) == 0)
/-! ## Bits of z_whole numbers -/

def z_spanOk (o : Int) : Bool := decide (0 ≤ o) && decide (o ≤ 10)
def spanV (o : Int) : Int := if z_spanOk o then 4096 * 2 ^ o.toNat else 0

theorem span_eq {o : Int} (h0 : 0 ≤ o) (h1 : o ≤ 10) : IntKind.wrap .i64 (4096 * 2 ^ (min (Int.toNat o) 64)) = spanV o := by
  have : o = 0 ∨ o = 1 ∨ o = 2 ∨ o = 3 ∨ o = 4 ∨ o = 5 ∨ o = 6 ∨ o = 7 ∨ o = 8 ∨ o = 9 ∨ o = 10 := by omega
  rcases this with rfl | rfl | rfl | rfl | rfl | rfl | rfl | rfl | rfl | rfl | rfl <;> decide

theorem spanV_bd (o : Int) : 0 ≤ spanV o ∧ spanV o ≤ 4194304 := by
  by_cases h : z_spanOk o = true
  · have h' := h
    simp only [z_spanOk, Bool.and_eq_true, decide_eq_true_eq] at h'
    have : o = 0 ∨ o = 1 ∨ o = 2 ∨ o = 3 ∨ o = 4 ∨ o = 5 ∨ o = 6 ∨ o = 7 ∨ o = 8 ∨ o = 9 ∨ o = 10 := by omega
    rcases this with rfl | rfl | rfl | rfl | rfl | rfl | rfl | rfl | rfl | rfl | rfl <;> decide
  · simp [spanV, h]

/-- Bytes that are there: each page of theirs is. -/
theorem thr_sub {m : AM} {a n a' n' : Int} (h : thr m a n = true) (h1 : a ≤ a') (h2 : a' + n' ≤ a + n) (h0 : 0 ≤ n') : thr m a' n' = true := by
  obtain ⟨g1, g2, g3, g4⟩ := inB_facts (thr_in h)
  have hp := fun x => thr_page (x := x) h
  unfold thr inB
  simp only [Bool.and_eq_true, Bool.or_eq_true, decide_eq_true_eq]
  refine ⟨by omega, ?_⟩
  rcases Int.lt_or_le 0 n' with h3 | h3
  · right
    rw [cntR_all (b := true) (pgN a' n') (pg0 a')]
    · rfl
    · intro x hx1 hx2
      unfold pg0 at hx1 hx2
      unfold pgN at hx2
      have hq : ∃ y : Int, a' ≤ y ∧ y < a' + n' ∧ (y / 4096).toNat = x := by
        rcases Int.lt_or_le (4096 * (x : Int)) a' with h4 | h4
        · exact ⟨a', by omega, by omega, by omega⟩
        · exact ⟨4096 * (x : Int), h4, by omega, by omega⟩
      obtain ⟨y, y1, y2, y3⟩ := hq
      have := (hp y (by omega) (by omega)).2
      rwa [y3] at this
  · left; omega

/-- A chunk's record: the widths of its header's fields. -/
def cRec : List Int := [4, 4, 8, 8]
def oRec : List Int := [8, 8]
theorem cRec_ok : okW cRec := by decide
theorem oRec_ok : okW oRec := by decide
theorem vby_all {m : AM} {a s : Int} {l : List Int} (h : thr m a s = true) (hl : okW l) (hs : sumT l l.length ≤ s) : vbyE m a s 0 (sumT l l.length) = 0 := by
  have hb := sumT_bd hl l.length
  have e : vchE s 0 (sumT l l.length) = 0 := by unfold vchE; rw [if_neg (by omega)]
  unfold vbyE
  rw [if_pos e, chk_thr (thr_sub h (by omega) (by omega) hb.1)]

def badC (at_ ord nx : Int) : Bool := ((decide (at_ < 0) || at_ % 4096 != 0) || decide (nx < 0)) || spanV ord == 0
def cNum (ord own nx : Int) (i : Nat) : Nat := if i = 0 then 1263421507 else if i = 1 then ord.toNat else if i = 2 then own.toNat else nx.toNat
def wrcE (m : AM) (at_ ord own nx : Int) : Int := if badC at_ ord nx then 2 else if thr m at_ 32 then pRE cRec 4 (cNum ord own nx) m at_ 32 else 3
def wrcM (m : AM) (at_ ord own nx : Int) : AM := if badC at_ ord nx then m else if thr m at_ 32 then pRM cRec 4 (cNum ord own nx) m at_ 32 else m
theorem span_pos {o : Int} (h : spanV o ≠ 0) : 0 ≤ o ∧ o ≤ 10 := by
  unfold spanV at h
  split at h
  · rename_i hs; unfold z_spanOk at hs; simpa using hs
  · exact absurd rfl h
theorem badC_no {at_ ord nx : Int} (h1 : ¬ at_ < 0) (h2 : at_ % 4096 = 0) (h3 : ¬ nx < 0) (h4 : spanV ord ≠ 0) : badC at_ ord nx = false := by
  unfold badC; simp [h1, h2, h3, h4]
theorem cNum_cells {ord own nx : Int} (h1 : 0 ≤ ord) (h2 : 0 ≤ own) (h3 : 0 ≤ nx) : ∀ o, o < 4 → [vu 1263421507, vu ord, vu own, vu nx][o]? = some (u64s (cNum ord own nx) 0 o) := by
  intro o ho
  rcases (by omega : o = 0 ∨ o = 1 ∨ o = 2 ∨ o = 3) with rfl | rfl | rfl | rfl
  · rfl
  · exact congrArg (fun x => some (vu x)) (Int.toNat_of_nonneg h1).symm
  · exact congrArg (fun x => some (vu x)) (Int.toNat_of_nonneg h2).symm
  · exact congrArg (fun x => some (vu x)) (Int.toNat_of_nonneg h3).symm

/-- What stands where a chunk's header should be. -/
def rdN (m : AM) (at_ : Int) (i : Int) : Int := getW cRec m at_ 32 i
def badR (m : AM) (at_ : Int) : Bool := ((rdN m at_ 0 != 1263421507 || at_ % 4096 != 0) || spanV (IntKind.wrap .i64 (rdN m at_ 1)) == 0) || decide (IntKind.wrap .i64 (rdN m at_ 3) < 0)
def rdE (m : AM) (at_ : Int) : Int := if thr m at_ 32 then (if badR m at_ then 7 else 0) else 3
def rdOk (m : AM) (at_ : Int) : Bool := thr m at_ 32 && !badR m at_
def rdAt (m : AM) (at_ : Int) : Int := if rdOk m at_ then at_ else 0
def rdOrd (m : AM) (at_ : Int) : Int := if rdOk m at_ then IntKind.wrap .i64 (rdN m at_ 1) else 0
def rdOwn (m : AM) (at_ : Int) : Int := if rdOk m at_ then rdN m at_ 2 else 0
def rdNx (m : AM) (at_ : Int) : Int := if rdOk m at_ then IntKind.wrap .i64 (rdN m at_ 3) else 0
theorem rd_no {m : AM} {at_ : Int} (h : rdOk m at_ = false) : 0 = rdAt m at_ ∧ 0 = rdOrd m at_ ∧ 0 = rdOwn m at_ ∧ 0 = rdNx m at_ := by
  unfold rdAt rdOrd rdOwn rdNx; rw [h]; exact ⟨rfl, rfl, rfl, rfl⟩
theorem rd_yes {m : AM} {at_ : Int} (h : rdOk m at_ = true) : at_ = rdAt m at_ ∧ IntKind.wrap .i64 (rdN m at_ 1) = rdOrd m at_ ∧ rdN m at_ 2 = rdOwn m at_ ∧ IntKind.wrap .i64 (rdN m at_ 3) = rdNx m at_ := by
  unfold rdAt rdOrd rdOwn rdNx; rw [h]; exact ⟨rfl, rfl, rfl, rfl⟩
theorem rdOk_no1 {m : AM} {at_ : Int} (h : thr m at_ 32 = false) : rdOk m at_ = false ∧ rdE m at_ = 3 := by unfold rdOk rdE; rw [h]; exact ⟨rfl, rfl⟩
theorem rdOk_no2 {m : AM} {at_ : Int} (h : thr m at_ 32 = true) (hb : badR m at_ = true) : rdOk m at_ = false ∧ rdE m at_ = 7 := by unfold rdOk rdE; rw [h, hb]; exact ⟨rfl, rfl⟩
theorem rdOk_yes {m : AM} {at_ : Int} (h : thr m at_ 32 = true) (hb : badR m at_ = false) : rdOk m at_ = true ∧ rdE m at_ = 0 := by unfold rdOk rdE; rw [h, hb]; exact ⟨rfl, rfl⟩

/-- Do bytes lie in a chunk, behind its header? -/
def cHas (at_ ord a n : Int) : Bool := ((decide (0 ≤ n) && decide (n ≤ spanV ord)) && decide (at_ + 32 ≤ a)) && decide (a ≤ at_ + spanV ord - n)
end Go.Proofs.YtdjhdcaanmkblaaDoor.K

/-
  Walks, printed by w2.py.
-/
namespace Go.Proofs.YtdjhdcaanmkblaaDoor.K
set_option linter.unusedVariables false
set_option linter.unusedSimpArgs false

set_option maxRecDepth 100000 in
set_option maxHeartbeats 1000000 in
theorem size_Span (r : Int) (w : World) :
    Calls Tryd.prog 89 #[vi r] w fun e w' => e = .returned (vi (spanV r)) ∧ Fr w w' no no := by
 refine enter (args := [vi r]) (D := no) (A := []) Tryd.func89 rfl 11 rfl [] (WS.startL trivial) fun ac hS => ?_
 refine hS.regS [0] [0] fun _ => seg [] [] [] trivial fun ac wd hS => ?_
 refine wp_seq ?_
 refine hS.regS [0, 0, 0, 3, 3, 80] [0] fun _ => seg [(8, vb ((decide ((r : Int) < 0)) || (decide ((10 : Int) < r))))] [] [] trivial fun ac wd hS => ?_
 refine hS.condC ((decide ((r : Int) < 0)) || (decide ((10 : Int) < r))) (fun hb1o hb1 => ?_) (fun hb1o hb1 => ?_)
 ·
  refine hS.regS [0] [] fun _ => seg [(2, vi 0)] [] [] trivial fun ac wd hS => ?_
  refine wp_ret ?_
  refine pop_then_ret ?_
  refine St.retC 0 hS (vi 0) [] trivial fun hw => ?_
  refine ⟨retd (vint ?_), hw.fr0⟩
  all_goals (first | exact span_eq (by omega) (by omega) | (rw [spanV, if_neg (by simp [z_spanOk]; omega)]))
 ·
  refine wp_skip ?_
  refine pop_then ?_
  refine hS.regS [0, 10, 0] [] fun _ => seg [(2, vi (IntKind.wrap .i64 (4096 * 2 ^ (min (Int.toNat r) 64))))] [] [.p (0 ≤ r)] ⟨by omega, trivial⟩ fun ac wd hS => ?_
  refine wp_ret ?_
  refine St.retC 0 hS (vi (IntKind.wrap .i64 (4096 * 2 ^ (min (Int.toNat r) 64)))) [] trivial fun hw => ?_
  refine ⟨retd (vint ?_), hw.fr0⟩
  all_goals (first | exact span_eq (by omega) (by omega) | (rw [spanV, if_neg (by simp [z_spanOk]; omega)]))

set_option maxRecDepth 100000 in
set_option maxHeartbeats 1000000 in
theorem chunk_End (at_ : Int) (ord : Int) (own : Int) (nx : Int) (w : World) (hat : 0 ≤ at_ ∧ at_ ≤ 4611686018427387904) :
    Calls Tryd.prog 136 #[.agg #[vi at_, vi ord, vu own, vi nx]] w fun e w' => e = .returned (vi (at_ + (spanV ord))) ∧ Fr w w' no no := by
 have hsp := spanV_bd ord
 refine enter (args := [.agg #[vi at_, vi ord, vu own, vi nx]]) (D := no) (A := []) Tryd.func136 rfl 9 rfl [] (WS.startL trivial) fun ac hS => ?_
 refine hS.regS [0, 0] [] fun ν1 => seg [(1, pt (ν1 0) 0)] [(0, some ((ν1 0), .cells [vi at_, vi ord, vu own, vi nx] 76))] [] trivial fun ac wd hS => ?_
 refine St.ordBeginS [(0, 1), (1, 1), (2, 1), (3, 1), (4, 0), (5, 1), (6, 1)] [((ν1 0), .cells [vi at_, vi ord, vu own, vi nx] 76)] [0] hS fun wd hS => ?_
 have hap := hS.mem.pairs (Hf := [((ν1 0), .cells [vi at_, vi ord, vu own, vi nx] 76)]) (l := [0])
 refine St.ordF [0, 0, 0, 0] [0, 1, 2, 3] [] (rest := [(4, 0), (5, 1), (6, 1)]) hS hap <| segF [(4, vi at_), (6, vi ord)] [.e (ν1 0), .e (ν1 0)] trivial fun ac hS => ?_
 refine hS.ordC 4 89 #[vi ord] (size_Span ord _  ) ?_
 rintro _ wd ⟨rfl, hF⟩
 refine ⟨vi (spanV ord), rfl, ?_⟩
 replace hS := (hS.to (hS.mem.keep0 hF)).put (d := 7) (v := vi (spanV ord)) (by decide)
 clear hF
 refine hS.ordV (l := [0]) ?_
 refine St.ordF [20, 0] [5, 6] [] (rest := []) hS hap <| segF [(2, vi (at_ + (spanV ord)))] [.p (fit .i64 (at_ + (spanV ord)))] ⟨fit_i64 (by omega), trivial⟩ fun ac hS => ?_
 refine ord_nil ?_
 refine wp_ret ?_
 refine St.retC 0 hS (vi (at_ + (spanV ord))) [] trivial fun hw => ?_
 refine ⟨retd rfl, hw.fr0⟩

set_option maxRecDepth 100000 in
set_option maxHeartbeats 1000000 in
theorem chunk_Has (at_ : Int) (ord : Int) (own : Int) (nx : Int) (a : Int) (n : Int) (w : World) (hat : 0 ≤ at_ ∧ at_ ≤ 4611686018427387904) :
    Calls Tryd.prog 137 #[.agg #[vi at_, vi ord, vu own, vi nx], vi a, vi n] w fun e w' => e = .returned (vb (cHas at_ ord a n)) ∧ Fr w w' no no := by
 have hsp := spanV_bd ord
 refine enter (args := [.agg #[vi at_, vi ord, vu own, vi nx], vi a, vi n]) (D := no) (A := []) Tryd.func137 rfl 31 rfl [] (WS.startL trivial) fun ac hS => ?_
 refine hS.regS [0, 0] [1, 2] fun ν1 => seg [(3, pt (ν1 0) 0)] [(0, some ((ν1 0), .cells [vi at_, vi ord, vu own, vi nx] 76))] [] trivial fun ac wd hS => ?_
 refine wp_region_seq ?_
 refine hS.opsC 3 [0, 0, 0] [1, 2, 3] fun _ => seg [(9, vb (decide ((0 : Int) ≤ n)))] [(0, none)] [] trivial fun ac wd hS => ?_
 rcases Bool.eq_false_or_eq_true (decide ((0 : Int) ≤ n)) with hg1o | hg1o
 ·
  have hg1 := nrm hg1o
  replace hS := hS.fix 9 (vb true) (congrArg Value.bool hg1o)
  refine hS.opsC 3 [1, 1, 1] [1, 2, 3, 9] fun _ => seg [(10, vi n), (12, vi ord)] [(0, none)] [.t true, .e (ν1 0), .t true, .t true] trivial fun ac wd hS => ?_
  refine hS.callG true 89 #[vi ord] (size_Span ord _  ) ?_
  rintro _ wd ⟨rfl, hF⟩
  refine ⟨vi (spanV ord), rfl, ?_⟩
  replace hS := (hS.to (hS.mem.keep0 hF)).put (d := 13) (v := vi (spanV ord)) (by decide)
  clear hF
  refine hS.opsC 10 [1, 70, 0, 3, 3, 3, 23, 3, 80, 0] [1, 2, 3] fun _ => seg [(23, vb ((decide ((n : Int) ≤ (spanV ord))) && (decide (((at_ + 32) : Int) ≤ a))))] [(0, none)] [.p ((((decide ((n : Int) ≤ (spanV ord))) = true) ∧ True) → AllP [fit .i64 (at_ + 32)]), .p ((((decide ((n : Int) ≤ (spanV ord))) = true) ∧ True) → AllP [((ν1 0) : Nat) = (ν1 0)]), .t true, .t true] ⟨(fun ⟨hc0, _⟩ => by replace hc0 := nrm hc0; exact ⟨fit_i64 (by omega), trivial⟩), (fun ⟨hc0, _⟩ => by replace hc0 := nrm hc0; exact ⟨rfl, trivial⟩), trivial⟩ fun ac wd hS => ?_
  rcases Bool.eq_false_or_eq_true ((decide ((n : Int) ≤ (spanV ord))) && (decide (((at_ + 32) : Int) ≤ a))) with hg2o | hg2o
  ·
   have hg2 := nrm hg2o
   replace hS := hS.fix 23 (vb true) (congrArg Value.bool hg2o)
   refine hS.opsC 2 [1, 1] [2, 23] fun _ => seg [(24, vi a), (25, .agg #[vi at_, vi ord, vu own, vi nx])] [] [.t true, .e (ν1 0), .e (ν1 0), .e (ν1 0), .e (ν1 0), .t true] trivial fun ac wd hS => ?_
   refine hS.callG true 136 #[.agg #[vi at_, vi ord, vu own, vi nx]] (chunk_End at_ ord own nx _  (by first | assumption | omega | (simp_all; done) | (simp_all; omega))) ?_
   rintro _ wd ⟨rfl, hF⟩
   refine ⟨vi (at_ + (spanV ord)), rfl, ?_⟩
   replace hS := (hS.to (hS.mem.keep0 hF)).put (d := 26) (v := vi (at_ + (spanV ord))) (by decide)
   clear hF
   refine hS.opsC 5 [1, 21, 1, 70, 0] [] fun _ => seg [(6, vb (decide ((a : Int) ≤ ((at_ + (spanV ord)) - n))))] [] [.t true, .t true, .t true, .p (fit .i64 ((at_ + (spanV ord)) - n)), .t true] ⟨fit_i64 (by omega), trivial⟩ fun ac wd hS => ?_
   refine list_nil_seq ?_
   refine wp_ret ?_
   refine St.retC 0 hS (vb (decide ((a : Int) ≤ ((at_ + (spanV ord)) - n)))) [] trivial fun hw => ?_
   refine ⟨retd (vbool ?_), hw.fr0⟩
   all_goals (first | rfl | (unfold cHas; simp_all; done) | (unfold cHas; simp_all; omega))
  ·
   have hg2 := nrm hg2o
   replace hS := hS.fix 23 (vb false) (congrArg Value.bool hg2o)
   refine hS.opsC 8 [2, 2, 2, 2, 2, 2, 60, 0] [] fun _ => seg [(6, vb false)] [] [.t false, .t false, .t false, .t false, .t false, .t false, .t false] trivial fun ac wd hS => ?_
   refine list_nil_seq ?_
   refine wp_ret ?_
   refine St.retC 0 hS (vb false) [] trivial fun hw => ?_
   refine ⟨retd (vbool ?_), hw.fr0⟩
   all_goals (first | rfl | (unfold cHas; simp_all; done) | (unfold cHas; simp_all; omega))
 ·
  have hg1 := nrm hg1o
  replace hS := hS.fix 9 (vb false) (congrArg Value.bool hg1o)
  refine hS.opsC 14 [2, 2, 2, 2, 2, 60, 0, 2, 2, 2, 2, 2, 60, 0] [1, 2, 3] fun _ => seg [(23, vb false)] [(0, none)] [.t false, .t false, .t false, .t false, .t false, .t false, .t false, .t false, .t false, .t false, .t false, .t false] trivial fun ac wd hS => ?_
  refine hS.opsC 8 [2, 2, 2, 2, 2, 2, 60, 0] [] fun _ => seg [(6, vb false)] [] [.t false, .t false, .t false, .t false, .t false, .t false, .t false] trivial fun ac wd hS => ?_
  refine list_nil_seq ?_
  refine wp_ret ?_
  refine St.retC 0 hS (vb false) [] trivial fun hw => ?_
  refine ⟨retd (vbool ?_), hw.fr0⟩
  all_goals (first | rfl | (unfold cHas; simp_all; done) | (unfold cHas; simp_all; omega))

end Go.Proofs.YtdjhdcaanmkblaaDoor.K

/-
  Walks, printed by w2.py.
-/
namespace Go.Proofs.YtdjhdcaanmkblaaDoor.K
set_option linter.unusedVariables false
set_option linter.unusedSimpArgs false

set_option maxRecDepth 100000 in
set_option maxHeartbeats 1000000 in
theorem chunk_record (w : World) :
    Calls Tryd.prog 90 #[] w fun e w' => ∃ (g2 : Nat) (c2 : Nat), e = .returned (.agg #[sc g2 0 cRec.length c2]) ∧ cRec.length ≤ c2 ∧ w.heap.size ≤ g2 ∧ HE.holds w' g2 (.fn 0 (0 + cRec.length) (ints cRec 0)) ∧ Fr w w' no no := by
 refine enter (args := []) (D := no) (A := []) Tryd.func90 rfl 9 rfl [] (WS.startL trivial) fun ac hS => ?_
 refine hS.regS [0] [] fun ν1 => seg [(0, pt (ν1 0) 0)] [(0, some ((ν1 0), .cells [vnil] 146))] [] trivial fun ac wd hS => ?_
 refine wp_region_seq ?_
 refine hS.opsC 1 [0] [0] fun ν2 => seg [(4, sc (ν2 0) 0 4 4)] [(0, none), (1, some ((ν2 0), .cells [vi 4, vi 4, vi 8, vi 8] 3))] [] trivial fun ac wd hS => ?_
 refine hS.callC 123 #[sc (ν2 0) 0 4 4] (field_Of (ν2 0) 0 4 cRec _ (HE.of_cells (hS.mem.get 1 (ν2 0) (.cells [vi 4, vi 4, vi 8, vi 8] 3)) (fun o_ ho => by have ho : o_ < 4 := ho; rcases (by omega : o_ = 0 ∨ o_ = 1 ∨ o_ = 2 ∨ o_ = 3) with rfl | rfl | rfl | rfl <;> rfl)) (by exact cRec_ok)) ?_
 rintro _ wd ⟨g21, c22, rfl, hc23, hog0, hoh0, hF⟩
 have ho4 : w.heap.size ≤ g21 := Nat.le_trans hS.mem.fr.size hog0
 refine ⟨.tuple #[.agg #[sc g21 0 cRec.length c22], vi 0], rfl, ?_⟩
 replace hS := (hS.to (hS.mem.outs hF [(g21, .fn 0 (0 + cRec.length) (ints cRec 0))] ⟨⟨rfl, hoh0, .inr hog0⟩, trivial⟩)).put (d := 5) (v := .tuple #[.agg #[sc g21 0 cRec.length c22], vi 0]) (by decide)
 clear hF
 refine hS.opsC 6 [0, 0, 0, 0, 300, 0] [0] fun ν3 => seg [(1, pt (ν3 0) 0)] [(0, none), (2, none), (3, some ((ν3 0), .cells [sc g21 0 cRec.length c22] 146))] [.e (ν3 0)] trivial fun ac wd hS => ?_
 refine list_nil_seq ?_
 refine hS.regS [200, 0] [0] fun _ => seg [] [(0, some ((ν1 0), .cells [sc g21 0 cRec.length c22] 146)), (1, none)] [.e (ν1 0), .e (ν3 0)] trivial fun ac wd hS => ?_
 refine wp_ret ?_
 refine St.retC 0 hS (.agg #[sc g21 0 cRec.length c22]) [.e (ν1 0)] trivial fun hw => ?_
 refine ⟨g21, c22, retd rfl, ?_, ho4, (hw.get 1 g21 (.fn 0 (0 + cRec.length) (ints cRec 0))), hw.fr0⟩
 all_goals (first | rfl | assumption | (simp; done) | (simp; omega) | omega | (simp_all; done) | (simp_all; omega))

set_option maxRecDepth 100000 in
set_option maxHeartbeats 1000000 in
theorem chunk_Write_ok (b : Nat) (F : Nat → Prop) (m : AM) (at_ : Int) (ord : Int) (own : Int) (nx : Int) (w : World) (hr : (arR b F m).R w) (hown : 0 ≤ own ∧ own ≤ 18446744073709551615 ∧ nx ≤ 9223372036854775807) (ht : thr m at_ 32 = true) :
    Calls Tryd.prog 33 #[pt b 0, .agg #[vi at_, vi ord, vu own, vi nx]] w fun e w' => ∃ (F' : Nat → Prop), e = .returned (vi (wrcE m at_ ord own nx)) ∧ (arR b F' (wrcM m at_ ord own nx)).R w' ∧ Fr w w' F F' := by
 have hsp := spanV_bd ord
 have hcl : m.cap ≤ 1048576 := by obtain ⟨d, hd⟩ := id hr; exact hd.capLe
 refine enter (args := [pt b 0, .agg #[vi at_, vi ord, vu own, vi nx]]) (D := F) (A := [arR b F m]) Tryd.func33 rfl 53 rfl [] (WS.startA (r := arR b F m) hr trivial trivial) fun ac hS => ?_
 refine hS.regS [0, 0] [0] fun ν1 => seg [(3, pt (ν1 0) 0)] [(0, some ((ν1 0), .cells [vi at_, vi ord, vu own, vi nx] 76))] [] trivial fun ac wd hS => ?_
 refine wp_seq ?_
 refine wp_block ?_
 refine hS.regS [0, 0, 0] [0, 3] fun _ => seg [(7, vb false)] [(0, none)] [] trivial fun ac wd hS => ?_
 refine hS.condF ?_
 refine wp_region_seq ?_
 refine hS.opsC 15 [0, 0, 0, 0, 3, 3, 23, 3, 80, 0, 3, 3, 3, 80, 0] [0, 3] fun _ => seg [(25, vb (((decide ((at_ : Int) < 0)) || (((at_ % 4096) : Int) != 0)) || (decide ((nx : Int) < 0))))] [(0, none)] [.p (((((decide ((at_ : Int) < 0)) || (((at_ % 4096) : Int) != 0)) = false) ∧ True) → AllP [((ν1 0) : Nat) = (ν1 0)]), .p ((((decide ((at_ : Int) < 0)) = false) ∧ True) → AllP [(4096 : Int) ≠ 0 ∧ Int.tmod at_ 4096 = at_ % 4096]), .p ((((decide ((at_ : Int) < 0)) = false) ∧ True) → AllP [((ν1 0) : Nat) = (ν1 0)]), .e (ν1 0)] ⟨(fun ⟨hc0, _⟩ => by replace hc0 := nrm hc0; exact ⟨rfl, trivial⟩), (fun ⟨hc0, _⟩ => by replace hc0 := nrm hc0; exact ⟨rem2 (by omega) (by omega), trivial⟩), (fun ⟨hc0, _⟩ => by replace hc0 := nrm hc0; exact ⟨rfl, trivial⟩), trivial⟩ fun ac wd hS => ?_
 rcases Bool.eq_false_or_eq_true (((decide ((at_ : Int) < 0)) || (((at_ % 4096) : Int) != 0)) || (decide ((nx : Int) < 0))) with hg1o | hg1o
 ·
  have hg1 := nrm hg1o
  have hbd : badC at_ ord nx = true := by unfold badC; simp_all
  have hE : 2 = wrcE m at_ ord own nx := by unfold wrcE; rw [hbd]; rfl
  have hM : m = wrcM m at_ ord own nx := by unfold wrcM; rw [hbd]; rfl
  replace hS := hS.fix 25 (vb true) (congrArg Value.bool hg1o)
  refine hS.opsC 6 [2, 2, 2, 2, 70, 0] [0, 3] fun _ => seg [(10, vb true)] [(0, none)] [.t true, .t true, .t true, .t true, .t true] trivial fun ac wd hS => ?_
  refine list_nil_seq ?_
  refine hS.condT ?_
  refine hS.regS [0] [] fun _ => seg [(4, vi 2)] [] [] trivial fun ac wd hS => ?_
  refine wp_ret ?_
  refine pop_block_ret ?_
  refine pop_then_ret ?_
  refine St.retC 0 hS (vi 2) [] trivial fun hw => ?_
  refine ⟨F, retd (vint ?_), (res_eq (r := arR b F m) (by first | exact congrArg _ hM | (unfold wrcM; rw [hgd, ht]; rfl)) (hw.res 0)), hw.frA⟩
  all_goals (first | exact hE | (unfold wrcE; rw [hgd, ht]; rfl))
 ·
  have hg1 := nrm hg1o
  replace hS := hS.fix 25 (vb false) (congrArg Value.bool hg1o)
  refine hS.opsC 2 [1, 1] [0, 3, 25] fun _ => seg [(27, vi ord)] [(0, none)] [.t false, .e (ν1 0), .t false] trivial fun ac wd hS => ?_
  refine hS.callG false 89 #[vi ord] (size_Span ord _  ) ?_
  rintro _ wd ⟨rfl, hF⟩
  refine ⟨vi (spanV ord), rfl, ?_⟩
  replace hS := (hS.to (hS.mem.keep0 hF)).put (d := 28) (v := vi (spanV ord)) (by decide)
  clear hF
  refine hS.opsC 3 [1, 60, 0] [0, 3] fun _ => seg [(10, vb (((spanV ord) : Int) == 0))] [(0, none)] [.t false, .t false] trivial fun ac wd hS => ?_
  refine list_nil_seq ?_
  refine hS.condC (((spanV ord) : Int) == 0) (fun hb2o hb2 => ?_) (fun hb2o hb2 => ?_)
  ·
   have hbd : badC at_ ord nx = true := by unfold badC; simp_all
   have hE : 2 = wrcE m at_ ord own nx := by unfold wrcE; rw [hbd]; rfl
   have hM : m = wrcM m at_ ord own nx := by unfold wrcM; rw [hbd]; rfl
   refine hS.regS [0] [] fun _ => seg [(4, vi 2)] [] [] trivial fun ac wd hS => ?_
   refine wp_ret ?_
   refine pop_block_ret ?_
   refine pop_then_ret ?_
   refine St.retC 0 hS (vi 2) [] trivial fun hw => ?_
   refine ⟨F, retd (vint ?_), (res_eq (r := arR b F m) (by first | exact congrArg _ hM | (unfold wrcM; rw [hgd, ht]; rfl)) (hw.res 0)), hw.frA⟩
   all_goals (first | exact hE | (unfold wrcE; rw [hgd, ht]; rfl))
  ·
   have hgd : badC at_ ord nx = false := by unfold badC; simp_all
   have hg4 := span_pos (o := ord) (by unfold badC at hgd; simp at hgd; exact hgd.2)
   have hg5 : 0 ≤ at_ ∧ 0 ≤ nx := by unfold badC at hgd; simp at hgd; omega
   refine wp_skip ?_
   refine pop_block ?_
   refine pop_then ?_
   refine wp_region_seq ?_
   refine hS.opsC 3 [0, 0, 0] [3] fun _ => seg [(32, pt b 0), (34, vi at_)] [(0, none)] [.e (ν1 0)] trivial fun ac wd hS => ?_
   refine hS.call0 23 #[pt b 0, vi at_, vi 32] 35 (vw_Of b F m at_ 32 _ (hS.mem.res 0) (by assumption)) fun ac wd hS => ?_
   refine hS.opsC 6 [0, 0, 0, 0, 100, 0] [3] fun ν10 => seg [(5, pt (ν10 0) 0), (6, vi 0)] [(0, none), (1, some ((ν10 0), .cells [pt b 0, vi at_, vi 32] 55))] [.e (ν10 0), .e (ν10 0), .e (ν10 0)] trivial fun ac wd hS => ?_
   refine list_nil_seq ?_
   refine wp_seq ?_
   refine hS.regS [0, 0] [3, 5, 6] fun _ => seg [(39, vb false)] [(0, none), (1, none)] [] trivial fun ac wd hS => ?_
   refine hS.condF ?_
   refine wp_skip ?_
   refine pop_then ?_
   refine St.ordBeginTS [(1, 1), (2, 1), (3, 1), (4, 1), (5, 1), (6, 1), (7, 1), (8, 1), (9, 1), (0, 0), (10, 0), (11, 0), (12, 1)] (.two [(1, 1), (2, 1), (3, 1), (4, 1), (5, 1), (6, 1), (7, 1), (8, 1), (9, 1)] 0 (.lin [(10, 0), (11, 0), (12, 1)]) 10 (.lin [(0, 0), (11, 0), (12, 1)])) [((ν1 0), .cells [vi at_, vi ord, vu own, vi nx] 76), ((ν10 0), .cells [pt b 0, vi at_, vi 32] 55)] [0, 1] hS fun wd hS => ?_
   have hap := hS.mem.pairs (Hf := [((ν1 0), .cells [vi at_, vi ord, vu own, vi nx] 76), ((ν10 0), .cells [pt b 0, vi at_, vi 32] 55)]) (l := [0, 1])
   refine wpT_two ?_
   refine St.ordF [100, 0, 0, 20, 0, 0, 0, 0, 20] [1, 2, 3, 4, 5, 6, 7, 8, 9] [] (rest := []) hS hap <| segF [(42, .agg #[pt b 0, vi at_, vi 32]), (45, vu ord), (47, vu own), (50, vu nx)] [.p (fit .u64 nx), .e (ν1 0), .e (ν1 0), .p (fit .u64 ord), .e (ν1 0), .e (ν10 0), .e (ν10 0), .e (ν10 0)] ⟨fit_u64 (by omega), fit_u64 (by omega), trivial⟩ fun ac hS => ?_
   refine ord_nil ?_
   refine ⟨?_, ?_⟩
   ·
    refine hS.ordC 0 90 #[] (chunk_record  _  ) ?_
    rintro _ wd ⟨g23, c24, rfl, hc25, hog0, hoh0, hF⟩
    have ho6 : w.heap.size ≤ g23 := Nat.le_trans hS.mem.fr.size hog0
    refine ⟨.agg #[sc g23 0 cRec.length c24], rfl, ?_⟩
    replace hS := (hS.to (hS.mem.outs hF [(g23, .fn 0 (0 + cRec.length) (ints cRec 0))] ⟨⟨rfl, hoh0, .inr hog0⟩, trivial⟩)).put (d := 41) (v := .agg #[sc g23 0 cRec.length c24]) (by decide)
    clear hF
    refine hS.ordV (l := [0, 1]) ?_
    refine ord_nil ?_
    refine wpT_lin ?_
    refine St.ord1 10 [0] [41, 42] [0, 1] hS rfl fun ν12 => seg [(51, sc (ν12 0) 0 4 4)] [(0, none), (1, none), (2, none), (3, some ((ν12 0), .cells [vu 1263421507, vu ord, vu own, vu nx] 34))] [] trivial ⟨by as_aux_lemma => kernel_rfl, fun ac wd hS => ?_⟩
    refine hS.ordC 11 91 #[.agg #[sc g23 0 cRec.length c24], .agg #[pt b 0, vi at_, vi 32], sc (ν12 0) 0 4 4] (rec_Put b F m g23 0 c24 cRec at_ 32 (ν12 0) 0 4 4 (cNum ord own nx) _ (hS.mem.res 0) (hS.mem.get 2 g23 (.fn 0 (0 + cRec.length) (ints cRec 0))) (HE.of_cells (hS.mem.get 3 (ν12 0) (.cells [vu 1263421507, vu ord, vu own, vu nx] 34)) (cNum_cells hg4.1 hown.1 hg5.2)) (hS.mem.nF (g := g23) (r := arR b F m) 2 0) (hS.mem.nF (g := (ν12 0)) (r := arR b F m) 3 0) (by first | assumption | exact cRec_ok | decide | (have := (inB_facts (thr_in ht)); omega)) (by first | assumption | exact cRec_ok | decide | (have := (inB_facts (thr_in ht)); omega)) (by first | assumption | exact cRec_ok | decide | (have := (inB_facts (thr_in ht)); omega)) (by first | assumption | exact cRec_ok | decide | (have := (inB_facts (thr_in ht)); omega))) ?_
    rintro _ wd ⟨F7, rfl, hA, hF⟩
    refine ⟨vi (pRE cRec 4 (cNum ord own nx) m at_ 32), rfl, ?_⟩
    replace hS := (hS.to (hS.mem.stepA 0 rfl hA hF)).put (d := 52) (v := vi (pRE cRec 4 (cNum ord own nx) m at_ 32)) (by decide)
    clear hF
    refine hS.ordV (l := [0, 1]) ?_
    refine St.ordF [0] [12] [] (rest := []) hS hap <| segF [(4, vi (pRE cRec 4 (cNum ord own nx) m at_ 32))] [] trivial fun ac hS => ?_
    refine ord_nil ?_
    refine wp_ret ?_
    refine St.retC 0 hS (vi (pRE cRec 4 (cNum ord own nx) m at_ 32)) [] trivial fun hw => ?_
    refine ⟨F7, retd (vint ?_), (res_eq (r := arR b F7 (pRM cRec 4 (cNum ord own nx) m at_ 32)) (by first | exact congrArg _ hM | (unfold wrcM; rw [hgd, ht]; rfl)) (hw.res 0)), hw.frA⟩
    all_goals (first | exact hE | (unfold wrcE; rw [hgd, ht]; rfl))
   ·
    refine St.ord1 10 [0] [42] [0, 1] hS rfl fun ν13 => seg [(51, sc (ν13 0) 0 4 4)] [(0, none), (1, none), (2, some ((ν13 0), .cells [vu 1263421507, vu ord, vu own, vu nx] 34))] [] trivial ⟨by as_aux_lemma => kernel_rfl, fun ac wd hS => ?_⟩
    refine ord_nil ?_
    refine wpT_lin ?_
    refine hS.ordC 0 90 #[] (chunk_record  _  ) ?_
    rintro _ wd ⟨g28, c29, rfl, hc210, hog0, hoh0, hF⟩
    have ho11 : w.heap.size ≤ g28 := Nat.le_trans hS.mem.fr.size hog0
    refine ⟨.agg #[sc g28 0 cRec.length c29], rfl, ?_⟩
    replace hS := (hS.to (hS.mem.outs hF [(g28, .fn 0 (0 + cRec.length) (ints cRec 0))] ⟨⟨rfl, hoh0, .inr hog0⟩, trivial⟩)).put (d := 41) (v := .agg #[sc g28 0 cRec.length c29]) (by decide)
    clear hF
    refine hS.ordV (l := [0, 1]) ?_
    refine hS.ordC 11 91 #[.agg #[sc g28 0 cRec.length c29], .agg #[pt b 0, vi at_, vi 32], sc (ν13 0) 0 4 4] (rec_Put b F m g28 0 c29 cRec at_ 32 (ν13 0) 0 4 4 (cNum ord own nx) _ (hS.mem.res 0) (hS.mem.get 3 g28 (.fn 0 (0 + cRec.length) (ints cRec 0))) (HE.of_cells (hS.mem.get 2 (ν13 0) (.cells [vu 1263421507, vu ord, vu own, vu nx] 34)) (cNum_cells hg4.1 hown.1 hg5.2)) (hS.mem.nF (g := g28) (r := arR b F m) 3 0) (hS.mem.nF (g := (ν13 0)) (r := arR b F m) 2 0) (by first | assumption | exact cRec_ok | decide | (have := (inB_facts (thr_in ht)); omega)) (by first | assumption | exact cRec_ok | decide | (have := (inB_facts (thr_in ht)); omega)) (by first | assumption | exact cRec_ok | decide | (have := (inB_facts (thr_in ht)); omega)) (by first | assumption | exact cRec_ok | decide | (have := (inB_facts (thr_in ht)); omega))) ?_
    rintro _ wd ⟨F12, rfl, hA, hF⟩
    refine ⟨vi (pRE cRec 4 (cNum ord own nx) m at_ 32), rfl, ?_⟩
    replace hS := (hS.to (hS.mem.stepA 0 rfl hA hF)).put (d := 52) (v := vi (pRE cRec 4 (cNum ord own nx) m at_ 32)) (by decide)
    clear hF
    refine hS.ordV (l := [0, 1]) ?_
    refine St.ordF [0] [12] [] (rest := []) hS hap <| segF [(4, vi (pRE cRec 4 (cNum ord own nx) m at_ 32))] [] trivial fun ac hS => ?_
    refine ord_nil ?_
    refine wp_ret ?_
    refine St.retC 0 hS (vi (pRE cRec 4 (cNum ord own nx) m at_ 32)) [] trivial fun hw => ?_
    refine ⟨F12, retd (vint ?_), (res_eq (r := arR b F12 (pRM cRec 4 (cNum ord own nx) m at_ 32)) (by first | exact congrArg _ hM | (unfold wrcM; rw [hgd, ht]; rfl)) (hw.res 0)), hw.frA⟩
    all_goals (first | exact hE | (unfold wrcE; rw [hgd, ht]; rfl))

set_option maxRecDepth 100000 in
set_option maxHeartbeats 1000000 in
theorem chunk_Write_no (b : Nat) (F : Nat → Prop) (m : AM) (at_ : Int) (ord : Int) (own : Int) (nx : Int) (w : World) (hr : (arR b F m).R w) (hown : 0 ≤ own ∧ own ≤ 18446744073709551615 ∧ nx ≤ 9223372036854775807) (ht : thr m at_ 32 = false) :
    Calls Tryd.prog 33 #[pt b 0, .agg #[vi at_, vi ord, vu own, vi nx]] w fun e w' => ∃ (F' : Nat → Prop), e = .returned (vi (wrcE m at_ ord own nx)) ∧ (arR b F' (wrcM m at_ ord own nx)).R w' ∧ Fr w w' F F' := by
 have hsp := spanV_bd ord
 have hcl : m.cap ≤ 1048576 := by obtain ⟨d, hd⟩ := id hr; exact hd.capLe
 refine enter (args := [pt b 0, .agg #[vi at_, vi ord, vu own, vi nx]]) (D := F) (A := [arR b F m]) Tryd.func33 rfl 53 rfl [] (WS.startA (r := arR b F m) hr trivial trivial) fun ac hS => ?_
 refine hS.regS [0, 0] [0] fun ν1 => seg [(3, pt (ν1 0) 0)] [(0, some ((ν1 0), .cells [vi at_, vi ord, vu own, vi nx] 76))] [] trivial fun ac wd hS => ?_
 refine wp_seq ?_
 refine wp_block ?_
 refine hS.regS [0, 0, 0] [0, 3] fun _ => seg [(7, vb false)] [(0, none)] [] trivial fun ac wd hS => ?_
 refine hS.condF ?_
 refine wp_region_seq ?_
 refine hS.opsC 15 [0, 0, 0, 0, 3, 3, 23, 3, 80, 0, 3, 3, 3, 80, 0] [0, 3] fun _ => seg [(25, vb (((decide ((at_ : Int) < 0)) || (((at_ % 4096) : Int) != 0)) || (decide ((nx : Int) < 0))))] [(0, none)] [.p (((((decide ((at_ : Int) < 0)) || (((at_ % 4096) : Int) != 0)) = false) ∧ True) → AllP [((ν1 0) : Nat) = (ν1 0)]), .p ((((decide ((at_ : Int) < 0)) = false) ∧ True) → AllP [(4096 : Int) ≠ 0 ∧ Int.tmod at_ 4096 = at_ % 4096]), .p ((((decide ((at_ : Int) < 0)) = false) ∧ True) → AllP [((ν1 0) : Nat) = (ν1 0)]), .e (ν1 0)] ⟨(fun ⟨hc0, _⟩ => by replace hc0 := nrm hc0; exact ⟨rfl, trivial⟩), (fun ⟨hc0, _⟩ => by replace hc0 := nrm hc0; exact ⟨rem2 (by omega) (by omega), trivial⟩), (fun ⟨hc0, _⟩ => by replace hc0 := nrm hc0; exact ⟨rfl, trivial⟩), trivial⟩ fun ac wd hS => ?_
 rcases Bool.eq_false_or_eq_true (((decide ((at_ : Int) < 0)) || (((at_ % 4096) : Int) != 0)) || (decide ((nx : Int) < 0))) with hg1o | hg1o
 ·
  have hg1 := nrm hg1o
  have hbd : badC at_ ord nx = true := by unfold badC; simp_all
  have hE : 2 = wrcE m at_ ord own nx := by unfold wrcE; rw [hbd]; rfl
  have hM : m = wrcM m at_ ord own nx := by unfold wrcM; rw [hbd]; rfl
  replace hS := hS.fix 25 (vb true) (congrArg Value.bool hg1o)
  refine hS.opsC 6 [2, 2, 2, 2, 70, 0] [0, 3] fun _ => seg [(10, vb true)] [(0, none)] [.t true, .t true, .t true, .t true, .t true] trivial fun ac wd hS => ?_
  refine list_nil_seq ?_
  refine hS.condT ?_
  refine hS.regS [0] [] fun _ => seg [(4, vi 2)] [] [] trivial fun ac wd hS => ?_
  refine wp_ret ?_
  refine pop_block_ret ?_
  refine pop_then_ret ?_
  refine St.retC 0 hS (vi 2) [] trivial fun hw => ?_
  refine ⟨F, retd (vint ?_), (res_eq (r := arR b F m) (by first | exact congrArg _ hM | (unfold wrcM; rw [hgd, ht]; rfl)) (hw.res 0)), hw.frA⟩
  all_goals (first | exact hE | (unfold wrcE chkE; rw [hgd, ht]; rfl))
 ·
  have hg1 := nrm hg1o
  replace hS := hS.fix 25 (vb false) (congrArg Value.bool hg1o)
  refine hS.opsC 2 [1, 1] [0, 3, 25] fun _ => seg [(27, vi ord)] [(0, none)] [.t false, .e (ν1 0), .t false] trivial fun ac wd hS => ?_
  refine hS.callG false 89 #[vi ord] (size_Span ord _  ) ?_
  rintro _ wd ⟨rfl, hF⟩
  refine ⟨vi (spanV ord), rfl, ?_⟩
  replace hS := (hS.to (hS.mem.keep0 hF)).put (d := 28) (v := vi (spanV ord)) (by decide)
  clear hF
  refine hS.opsC 3 [1, 60, 0] [0, 3] fun _ => seg [(10, vb (((spanV ord) : Int) == 0))] [(0, none)] [.t false, .t false] trivial fun ac wd hS => ?_
  refine list_nil_seq ?_
  refine hS.condC (((spanV ord) : Int) == 0) (fun hb2o hb2 => ?_) (fun hb2o hb2 => ?_)
  ·
   have hbd : badC at_ ord nx = true := by unfold badC; simp_all
   have hE : 2 = wrcE m at_ ord own nx := by unfold wrcE; rw [hbd]; rfl
   have hM : m = wrcM m at_ ord own nx := by unfold wrcM; rw [hbd]; rfl
   refine hS.regS [0] [] fun _ => seg [(4, vi 2)] [] [] trivial fun ac wd hS => ?_
   refine wp_ret ?_
   refine pop_block_ret ?_
   refine pop_then_ret ?_
   refine St.retC 0 hS (vi 2) [] trivial fun hw => ?_
   refine ⟨F, retd (vint ?_), (res_eq (r := arR b F m) (by first | exact congrArg _ hM | (unfold wrcM; rw [hgd, ht]; rfl)) (hw.res 0)), hw.frA⟩
   all_goals (first | exact hE | (unfold wrcE chkE; rw [hgd, ht]; rfl))
  ·
   have hgd : badC at_ ord nx = false := by unfold badC; simp_all
   have hg4 := span_pos (o := ord) (by unfold badC at hgd; simp at hgd; exact hgd.2)
   have hg5 : 0 ≤ at_ ∧ 0 ≤ nx := by unfold badC at hgd; simp at hgd; omega
   refine wp_skip ?_
   refine pop_block ?_
   refine pop_then ?_
   refine wp_region_seq ?_
   refine hS.opsC 3 [0, 0, 0] [3] fun _ => seg [(32, pt b 0), (34, vi at_)] [(0, none)] [.e (ν1 0)] trivial fun ac wd hS => ?_
   refine hS.call0 23 #[pt b 0, vi at_, vi 32] 35 (vw_Of_no b F m at_ 32 _ (hS.mem.res 0) (by unfold chkE; rw [ht]; decide)) fun ac wd hS => ?_
   refine hS.opsC 6 [0, 0, 0, 0, 100, 0] [3] fun ν10 => seg [(5, pt (ν10 0) 0), (6, vi (chkE m at_ 32))] [(0, none), (1, some ((ν10 0), .cells [pnil, vi 0, vi 0] 55))] [.e (ν10 0), .e (ν10 0), .e (ν10 0)] trivial fun ac wd hS => ?_
   refine list_nil_seq ?_
   refine wp_seq ?_
   refine hS.regS [0, 0] [3, 5, 6] fun _ => seg [(39, vb (((chkE m at_ 32) : Int) != 0))] [(0, none), (1, none)] [] trivial fun ac wd hS => ?_
   refine hS.condK (((chkE m at_ 32) : Int) != 0) true (by unfold chkE; rw [ht]; rfl) ?_
   show Code.wp _ _ _ _ _
   refine hS.regS [0, 0] [] fun _ => seg [(4, vi (chkE m at_ 32))] [] [] trivial fun ac wd hS => ?_
   refine wp_ret ?_
   refine pop_then_ret ?_
   refine St.retC 0 hS (vi (chkE m at_ 32)) [] trivial fun hw => ?_
   refine ⟨F, retd (vint ?_), (res_eq (r := arR b F m) (by first | exact congrArg _ hM | (unfold wrcM; rw [hgd, ht]; rfl)) (hw.res 0)), hw.frA⟩
   all_goals (first | exact hE | (unfold wrcE chkE; rw [hgd, ht]; rfl))

theorem chunk_Write (b : Nat) (F : Nat → Prop) (m : AM) (at_ : Int) (ord : Int) (own : Int) (nx : Int) (w : World) (hr : (arR b F m).R w) (hown : 0 ≤ own ∧ own ≤ 18446744073709551615 ∧ nx ≤ 9223372036854775807) :
    Calls Tryd.prog 33 #[pt b 0, .agg #[vi at_, vi ord, vu own, vi nx]] w fun e w' => ∃ (F' : Nat → Prop), e = .returned (vi (wrcE m at_ ord own nx)) ∧ (arR b F' (wrcM m at_ ord own nx)).R w' ∧ Fr w w' F F' := by
 cases ht : thr m at_ 32 with
 | true => exact chunk_Write_ok b F m at_ ord own nx w hr hown ht
 | false => exact chunk_Write_no b F m at_ ord own nx w hr hown ht

set_option maxRecDepth 100000 in
set_option maxHeartbeats 1000000 in
theorem chunk_Read_ok (b : Nat) (F : Nat → Prop) (m : AM) (at_ : Int) (w : World) (hr : (arR b F m).R w) (ht : thr m at_ 32 = true) :
    Calls Tryd.prog 34 #[pt b 0, vi at_] w fun e w' => e = .returned (.tuple #[.agg #[vi (rdAt m at_), vi (rdOrd m at_), vu (rdOwn m at_), vi (rdNx m at_)], vi (rdE m at_)]) ∧ Fr w w' no no := by
 have hcl : m.cap ≤ 1048576 := by obtain ⟨d, hd⟩ := id hr; exact hd.capLe
 obtain ⟨hI1, hI2, hI3, hI4⟩ := inB_facts (thr_in ht)
 refine enter (args := [pt b 0, vi at_]) (D := no) (A := []) Tryd.func34 rfl 62 rfl [] (WS.startL trivial) fun ac hS => ?_
 refine hS.regS [0, 0] [0, 1] fun ν1 => seg [(4, pt (ν1 0) 0)] [(0, some ((ν1 0), .cells [vi 0, vi 0, vu 0, vi 0] 76))] [] trivial fun ac wd hS => ?_
 refine wp_region_seq ?_
 refine hS.opsC 2 [0, 0] [1, 4] fun _ => seg [(12, pt b 0), (13, vi at_)] [(0, none)] [] trivial fun ac wd hS => ?_
 refine hS.call0 23 #[pt b 0, vi at_, vi 32] 14 (vw_Of b F m at_ 32 _ (Res.keep hr hS.mem.fr) (by assumption)) fun ac wd hS => ?_
 refine hS.opsC 6 [0, 0, 0, 0, 100, 0] [1, 4] fun ν3 => seg [(6, pt (ν3 0) 0), (7, vi 0)] [(0, none), (1, some ((ν3 0), .cells [pt b 0, vi at_, vi 32] 55))] [.e (ν3 0), .e (ν3 0), .e (ν3 0)] trivial fun ac wd hS => ?_
 refine list_nil_seq ?_
 refine wp_seq ?_
 refine hS.regS [0, 0] [1, 4, 6, 7] fun _ => seg [(18, vb false)] [(0, none), (1, none)] [] trivial fun ac wd hS => ?_
 refine hS.condF ?_
 refine wp_skip ?_
 refine pop_then ?_
 refine St.ordBeginS [(1, 1), (0, 0), (2, 0), (3, 1), (4, 1), (5, 1), (6, 1), (7, 1)] [((ν1 0), .cells [vi 0, vi 0, vu 0, vi 0] 76), ((ν3 0), .cells [pt b 0, vi at_, vi 32] 55)] [0, 1] hS fun wd hS => ?_
 have hap := hS.mem.pairs (Hf := [((ν1 0), .cells [vi 0, vi 0, vu 0, vi 0] 76), ((ν3 0), .cells [pt b 0, vi at_, vi 32] 55)]) (l := [0, 1])
 refine St.ordF [100] [1] [1, 4] (rest := [(0, 0), (2, 0), (3, 1), (4, 1), (5, 1), (6, 1), (7, 1)]) hS hap <| segF [(23, .agg #[pt b 0, vi at_, vi 32])] [.e (ν3 0), .e (ν3 0), .e (ν3 0)] trivial fun ac hS => ?_
 refine hS.ordC 0 90 #[] (chunk_record  _  ) ?_
 rintro _ wd ⟨g21, c22, rfl, hc23, hog0, hoh0, hF⟩
 have ho4 : w.heap.size ≤ g21 := Nat.le_trans hS.mem.fr.size hog0
 refine ⟨.agg #[sc g21 0 4 c22], rfl, ?_⟩
 replace hS := (hS.to (hS.mem.outs hF [(g21, .fn 0 4 (ints cRec 0))] ⟨⟨rfl, hoh0, .inr hog0⟩, trivial⟩)).put (d := 22) (v := .agg #[sc g21 0 4 c22]) (by decide)
 clear hF
 refine hS.ordV (l := [0, 1]) ?_
 refine hS.ordC 2 92 #[.agg #[sc g21 0 4 c22], .agg #[pt b 0, vi at_, vi 32]] (rec_All b F m g21 0 c22 cRec at_ 32 _ (Res.keep hr hS.mem.fr) (hS.mem.get 2 g21 (.fn 0 4 (ints cRec 0))) (by first | assumption | exact cRec_ok | exact vby_all ht cRec_ok (by decide) | omega) (by first | assumption | exact cRec_ok | exact vby_all ht cRec_ok (by decide) | omega) (by first | assumption | exact cRec_ok | exact vby_all ht cRec_ok (by decide) | omega) (by first | assumption | exact cRec_ok | exact vby_all ht cRec_ok (by decide) | omega)) ?_
 rintro _ wd ⟨g25, c26, rfl, hc27, hog0, hoh0, hF⟩
 have ho8 : w.heap.size ≤ g25 := Nat.le_trans hS.mem.fr.size hog0
 refine ⟨.tuple #[sc g25 0 4 c26, vi 0], rfl, ?_⟩
 replace hS := (hS.to (hS.mem.outs hF [(g25, .fn 0 4 (u64z (fun i => getW cRec m at_ 32 (i : Int)) 0))] ⟨⟨rfl, hoh0, .inr hog0⟩, trivial⟩)).put (d := 24) (v := .tuple #[sc g25 0 4 c26, vi 0]) (by decide)
 clear hF
 refine hS.ordV (l := [0, 1]) ?_
 refine St.ordF [0, 0, 0, 0, 0] [3, 4, 5, 6, 7] [1, 4] (rest := []) hS hap <| segF [(8, sc g25 0 4 c26)] [] trivial fun ac hS => ?_
 refine ord_nil ?_
 refine St.ordBeginS [(0, 1), (1, 1), (2, 1), (3, 1), (4, 1), (5, 1), (6, 1), (7, 1), (8, 1), (9, 1), (10, 1), (11, 1), (12, 1), (13, 0), (14, 2)] [((ν1 0), .cells [vi 0, vi 0, vu 0, vi 0] 76), ((ν3 0), .cells [pt b 0, vi at_, vi 32] 55), (g21, .fn 0 4 (ints cRec 0)), (g25, .fn 0 4 (u64z (fun i => getW cRec m at_ 32 (i : Int)) 0))] [0, 1, 2, 3] hS fun wd hS => ?_
 have hap := hS.mem.pairs (Hf := [((ν1 0), .cells [vi 0, vi 0, vu 0, vi 0] 76), ((ν3 0), .cells [pt b 0, vi at_, vi 32] 55), (g21, .fn 0 4 (ints cRec 0)), (g25, .fn 0 4 (u64z (fun i => getW cRec m at_ 32 (i : Int)) 0))]) (l := [0, 1, 2, 3])
 refine St.ordF [0, 0, 0, fx 300 (vu (rdN m at_ 1)), 0, 0, 0, fx 300 (vu (rdN m at_ 2)), 0, 0, fx 300 (vu (rdN m at_ 3)), 0, 0] [0, 1, 2, 3, 4, 5, 6, 7, 8, 9, 10, 11, 12] [1, 4, 8] (rest := [(13, 0), (14, 2)]) hS hap <| segF [(39, .agg #[vi at_, vi (IntKind.wrap .i64 (rdN m at_ 1)), vu (rdN m at_ 2), vi (IntKind.wrap .i64 (rdN m at_ 3))])] [.p ((((u64z (fun i => getW cRec m at_ 32 (i : Int)) 0) 3) : Value) = vu (rdN m at_ 3)), .e g25, .p (0 ≤ 3 ∧ 3 < 4), .p ((((u64z (fun i => getW cRec m at_ 32 (i : Int)) 0) 2) : Value) = vu (rdN m at_ 2)), .e g25, .p (0 ≤ 2 ∧ 2 < 4), .p ((((u64z (fun i => getW cRec m at_ 32 (i : Int)) 0) 1) : Value) = vu (rdN m at_ 1)), .e g25, .p (0 ≤ 1 ∧ 1 < 4)] ⟨((u64z_rel (fun i => getW cRec m at_ 32 (i : Int)) 0 3).trans (rfl)), (by first | omega | decide), ((u64z_rel (fun i => getW cRec m at_ 32 (i : Int)) 0 2).trans (rfl)), (by first | omega | decide), ((u64z_rel (fun i => getW cRec m at_ 32 (i : Int)) 0 1).trans (rfl)), (by first | omega | decide), trivial⟩ fun ac hS => ?_
 refine St.ord1 13 [0] [1, 4, 8, 39] [0, 1, 2, 3] hS rfl fun ν5 => seg [(10, pt (ν5 0) 0)] [(0, none), (1, none), (2, none), (3, none), (4, some ((ν5 0), .cells [vi 0, vi 0, vu 0, vi 0] 76))] [] trivial ⟨by as_aux_lemma => kernel_rfl, fun ac wd hS => ?_⟩
 refine St.ord2 14 [400] [1, 4, 8, 10] hS rfl fun _ => seg [] [(0, none), (1, none), (2, none), (3, none), (4, some ((ν5 0), .cells [vi at_, vi (IntKind.wrap .i64 (rdN m at_ 1)), vu (rdN m at_ 2), vi (IntKind.wrap .i64 (rdN m at_ 3))] 76))] [.e (ν5 0), .e (ν5 0), .e (ν5 0), .e (ν5 0)] trivial fun ac wd hS => ?_
 refine ord_nil ?_
 refine wp_seq ?_
 refine wp_region_seq ?_
 refine hS.opsC 10 [0, 0, fx 300 (vu (rdN m at_ 0)), 0, 0, 3, 23, 3, 80, 0] [4, 10] fun _ => seg [(49, vb ((((rdN m at_ 0) : Int) != 1263421507) || (((at_ % 4096) : Int) != 0)))] [(0, none), (4, none)] [.p ((((((rdN m at_ 0) : Int) != 1263421507) = false) ∧ True) → AllP [(4096 : Int) ≠ 0 ∧ Int.tmod at_ 4096 = at_ % 4096]), .p ((((u64z (fun i => getW cRec m at_ 32 (i : Int)) 0) 0) : Value) = vu (rdN m at_ 0)), .e g25, .p (0 ≤ 0 ∧ 0 < 4)] ⟨(fun ⟨hc0, _⟩ => by replace hc0 := nrm hc0; exact ⟨rem2 (by omega) (by omega), trivial⟩), ((u64z_rel (fun i => getW cRec m at_ 32 (i : Int)) 0 0).trans (rfl)), (by first | omega | decide), trivial⟩ fun ac wd hS => ?_
 rcases Bool.eq_false_or_eq_true ((((rdN m at_ 0) : Int) != 1263421507) || (((at_ % 4096) : Int) != 0)) with hg9o | hg9o
 ·
  have hg9 := nrm hg9o
  replace hS := hS.fix 49 (vb true) (congrArg Value.bool hg9o)
  refine hS.opsC 10 [2, 2, 2, 2, 70, 0, 2, 2, 2, 70] [4, 10] fun _ => seg [(59, vb true)] [(0, none), (1, none)] [.t true, .t true, .t true, .t true, .t true, .t true, .t true, .t true, .t true] trivial fun ac wd hS => ?_
  refine list_nil_seq ?_
  refine hS.condT ?_
  refine hS.regS [0, 0, 0] [4] fun _ => seg [(5, vi 7)] [(0, none)] [.e (ν1 0), .e (ν1 0), .e (ν1 0), .e (ν1 0)] trivial fun ac wd hS => ?_
  refine wp_ret ?_
  refine pop_then_ret ?_
  refine St.retC 0 hS (.tuple #[.agg #[vi 0, vi 0, vu 0, vi 0], vi 7]) [.e (ν1 0), .e (ν1 0), .e (ν1 0), .e (ν1 0)] trivial fun hw => ?_
  refine ⟨retd (tuple2 (agg4 (vint ?_) (vint ?_) (vint ?_) (vint ?_)) (vint ?_)), hw.fr0⟩
  all_goals (first | rfl | (have hq : badR m at_ = true := by (unfold badR; simp_all)); (first | first | exact (rd_no (rdOk_no2 ht hq).1).1 | exact (rd_no (rdOk_no2 ht hq).1).2.1 | exact (rd_no (rdOk_no2 ht hq).1).2.2.1 | exact (rd_no (rdOk_no2 ht hq).1).2.2.2 | exact (rdOk_no2 ht hq).2.symm) | (have hq : badR m at_ = false := by (unfold badR; simp_all)); (first | first | exact (rd_yes (rdOk_yes ht hq).1).1 | exact (rd_yes (rdOk_yes ht hq).1).2.1 | exact (rd_yes (rdOk_yes ht hq).1).2.2.1 | exact (rd_yes (rdOk_yes ht hq).1).2.2.2 | exact (rdOk_yes ht hq).2.symm))
 ·
  have hg9 := nrm hg9o
  replace hS := hS.fix 49 (vb false) (congrArg Value.bool hg9o)
  refine hS.opsC 2 [1, 101] [4, 10, 49] fun _ => seg [(51, vi (IntKind.wrap .i64 (rdN m at_ 1)))] [(0, none), (1, none)] [.t false, .e (ν5 0), .t false] trivial fun ac wd hS => ?_
  refine hS.callG false 89 #[vi (IntKind.wrap .i64 (rdN m at_ 1))] (size_Span (IntKind.wrap .i64 (rdN m at_ 1)) _  ) ?_
  rintro _ wd ⟨rfl, hF⟩
  refine ⟨vi (spanV (IntKind.wrap .i64 (rdN m at_ 1))), rfl, ?_⟩
  replace hS := (hS.to (hS.mem.keep0 hF)).put (d := 52) (v := vi (spanV (IntKind.wrap .i64 (rdN m at_ 1)))) (by decide)
  clear hF
  refine hS.opsC 7 [1, 60, 0, 3, 103, 3, 80] [4, 10] fun _ => seg [(59, vb ((((spanV (IntKind.wrap .i64 (rdN m at_ 1))) : Int) == 0) || (decide (((IntKind.wrap .i64 (rdN m at_ 3)) : Int) < 0))))] [(0, none), (1, none)] [.p ((((((spanV (IntKind.wrap .i64 (rdN m at_ 1))) : Int) == 0) = false) ∧ True) → AllP [((ν5 0) : Nat) = (ν5 0)]), .t false, .t false] ⟨(fun ⟨hc0, _⟩ => by replace hc0 := nrm hc0; exact ⟨rfl, trivial⟩), trivial⟩ fun ac wd hS => ?_
  refine list_nil_seq ?_
  refine hS.condC ((((spanV (IntKind.wrap .i64 (rdN m at_ 1))) : Int) == 0) || (decide (((IntKind.wrap .i64 (rdN m at_ 3)) : Int) < 0))) (fun hb10o hb10 => ?_) (fun hb10o hb10 => ?_)
  ·
   refine hS.regS [0, 0, 0] [4] fun _ => seg [(5, vi 7)] [(0, none)] [.e (ν1 0), .e (ν1 0), .e (ν1 0), .e (ν1 0)] trivial fun ac wd hS => ?_
   refine wp_ret ?_
   refine pop_then_ret ?_
   refine St.retC 0 hS (.tuple #[.agg #[vi 0, vi 0, vu 0, vi 0], vi 7]) [.e (ν1 0), .e (ν1 0), .e (ν1 0), .e (ν1 0)] trivial fun hw => ?_
   refine ⟨retd (tuple2 (agg4 (vint ?_) (vint ?_) (vint ?_) (vint ?_)) (vint ?_)), hw.fr0⟩
   all_goals (first | rfl | (have hq : badR m at_ = true := by (unfold badR; simp_all)); (first | first | exact (rd_no (rdOk_no2 ht hq).1).1 | exact (rd_no (rdOk_no2 ht hq).1).2.1 | exact (rd_no (rdOk_no2 ht hq).1).2.2.1 | exact (rd_no (rdOk_no2 ht hq).1).2.2.2 | exact (rdOk_no2 ht hq).2.symm) | (have hq : badR m at_ = false := by (unfold badR; simp_all)); (first | first | exact (rd_yes (rdOk_yes ht hq).1).1 | exact (rd_yes (rdOk_yes ht hq).1).2.1 | exact (rd_yes (rdOk_yes ht hq).1).2.2.1 | exact (rd_yes (rdOk_yes ht hq).1).2.2.2 | exact (rdOk_yes ht hq).2.symm))
  ·
   refine wp_skip ?_
   refine pop_then ?_
   refine hS.regS [100, 0, 0] [4] fun _ => seg [(5, vi 0)] [(0, some ((ν1 0), .cells [vi at_, vi (IntKind.wrap .i64 (rdN m at_ 1)), vu (rdN m at_ 2), vi (IntKind.wrap .i64 (rdN m at_ 3))] 76))] [.e (ν1 0), .e (ν1 0), .e (ν1 0), .e (ν1 0), .e (ν5 0), .e (ν5 0), .e (ν5 0), .e (ν5 0)] trivial fun ac wd hS => ?_
   refine wp_ret ?_
   refine St.retC 0 hS (.tuple #[.agg #[vi at_, vi (IntKind.wrap .i64 (rdN m at_ 1)), vu (rdN m at_ 2), vi (IntKind.wrap .i64 (rdN m at_ 3))], vi 0]) [.e (ν1 0), .e (ν1 0), .e (ν1 0), .e (ν1 0)] trivial fun hw => ?_
   refine ⟨retd (tuple2 (agg4 (vint ?_) (vint ?_) (vint ?_) (vint ?_)) (vint ?_)), hw.fr0⟩
   all_goals (first | rfl | (have hq : badR m at_ = true := by (unfold badR; simp_all)); (first | first | exact (rd_no (rdOk_no2 ht hq).1).1 | exact (rd_no (rdOk_no2 ht hq).1).2.1 | exact (rd_no (rdOk_no2 ht hq).1).2.2.1 | exact (rd_no (rdOk_no2 ht hq).1).2.2.2 | exact (rdOk_no2 ht hq).2.symm) | (have hq : badR m at_ = false := by (unfold badR; simp_all)); (first | first | exact (rd_yes (rdOk_yes ht hq).1).1 | exact (rd_yes (rdOk_yes ht hq).1).2.1 | exact (rd_yes (rdOk_yes ht hq).1).2.2.1 | exact (rd_yes (rdOk_yes ht hq).1).2.2.2 | exact (rdOk_yes ht hq).2.symm))

set_option maxRecDepth 100000 in
set_option maxHeartbeats 1000000 in
theorem chunk_Read_no (b : Nat) (F : Nat → Prop) (m : AM) (at_ : Int) (w : World) (hr : (arR b F m).R w) (ht : thr m at_ 32 = false) :
    Calls Tryd.prog 34 #[pt b 0, vi at_] w fun e w' => e = .returned (.tuple #[.agg #[vi (rdAt m at_), vi (rdOrd m at_), vu (rdOwn m at_), vi (rdNx m at_)], vi (rdE m at_)]) ∧ Fr w w' no no := by
 refine enter (args := [pt b 0, vi at_]) (D := no) (A := []) Tryd.func34 rfl 62 rfl [] (WS.startL trivial) fun ac hS => ?_
 refine hS.regS [0, 0] [0, 1] fun ν1 => seg [(4, pt (ν1 0) 0)] [(0, some ((ν1 0), .cells [vi 0, vi 0, vu 0, vi 0] 76))] [] trivial fun ac wd hS => ?_
 refine wp_region_seq ?_
 refine hS.opsC 2 [0, 0] [1, 4] fun _ => seg [(12, pt b 0), (13, vi at_)] [(0, none)] [] trivial fun ac wd hS => ?_
 refine hS.call0 23 #[pt b 0, vi at_, vi 32] 14 (vw_Of_no b F m at_ 32 _ (Res.keep hr hS.mem.fr) (by unfold chkE; rw [ht]; decide)) fun ac wd hS => ?_
 refine hS.opsC 6 [0, 0, 0, 0, 100, 0] [1, 4] fun ν3 => seg [(6, pt (ν3 0) 0), (7, vi (chkE m at_ 32))] [(0, none), (1, some ((ν3 0), .cells [pnil, vi 0, vi 0] 55))] [.e (ν3 0), .e (ν3 0), .e (ν3 0)] trivial fun ac wd hS => ?_
 refine list_nil_seq ?_
 refine wp_seq ?_
 refine hS.regS [0, 0] [1, 4, 6, 7] fun _ => seg [(18, vb (((chkE m at_ 32) : Int) != 0))] [(0, none), (1, none)] [] trivial fun ac wd hS => ?_
 refine hS.condK (((chkE m at_ 32) : Int) != 0) true (by unfold chkE; rw [ht]; rfl) ?_
 show Code.wp _ _ _ _ _
 refine hS.regS [0, 0, 0, 0] [4] fun _ => seg [(5, vi (chkE m at_ 32))] [(0, none)] [.e (ν1 0), .e (ν1 0), .e (ν1 0), .e (ν1 0)] trivial fun ac wd hS => ?_
 refine wp_ret ?_
 refine pop_then_ret ?_
 refine St.retC 0 hS (.tuple #[.agg #[vi 0, vi 0, vu 0, vi 0], vi (chkE m at_ 32)]) [.e (ν1 0), .e (ν1 0), .e (ν1 0), .e (ν1 0)] trivial fun hw => ?_
 refine ⟨retd (tuple2 (agg4 (vint ?_) (vint ?_) (vint ?_) (vint ?_)) (vint ?_)), hw.fr0⟩
 all_goals (first | rfl | first | exact (rd_no (rdOk_no1 ht).1).1 | exact (rd_no (rdOk_no1 ht).1).2.1 | exact (rd_no (rdOk_no1 ht).1).2.2.1 | exact (rd_no (rdOk_no1 ht).1).2.2.2 | (rw [(rdOk_no1 ht).2]; unfold chkE; rw [ht]; rfl))

theorem chunk_Read (b : Nat) (F : Nat → Prop) (m : AM) (at_ : Int) (w : World) (hr : (arR b F m).R w) :
    Calls Tryd.prog 34 #[pt b 0, vi at_] w fun e w' => e = .returned (.tuple #[.agg #[vi (rdAt m at_), vi (rdOrd m at_), vu (rdOwn m at_), vi (rdNx m at_)], vi (rdE m at_)]) ∧ Fr w w' no no := by
 cases ht : thr m at_ 32 with
 | true => exact chunk_Read_ok b F m at_ w hr ht
 | false => exact chunk_Read_no b F m at_ w hr ht

theorem chunk_Read_v (b : Nat) (F : Nat → Prop) (m : AM) (at_ : Int) (ra : Int) (ro : Int) (rw_ : Int) (rn : Int) (re : Int) (w : World) (hr : (arR b F m).R w) (hv : ((rdAt m at_ = ra ∧ rdOrd m at_ = ro) ∧ (rdOwn m at_ = rw_ ∧ rdNx m at_ = rn)) ∧ rdE m at_ = re) :
    Calls Tryd.prog 34 #[pt b 0, vi at_] w fun e w' => e = .returned (.tuple #[.agg #[vi ra, vi ro, vu rw_, vi rn], vi re]) ∧ Fr w w' no no := by
 obtain ⟨⟨⟨rfl, rfl⟩, rfl, rfl⟩, rfl⟩ := hv
 exact chunk_Read b F m at_ w hr

set_option maxRecDepth 100000 in
set_option maxHeartbeats 1000000 in
theorem law10_awake (w : World) (hh0 : HE.holds w 0 (.fn 0 64 dbT)) :
    Calls Tryd.prog 122 #[] w fun e w' => e = .returned (vb true) ∧ Fr w w' no no := by
 refine enter (args := []) (D := no) (A := []) Tryd.func122 rfl 51 rfl [(0, .fn 0 64 dbT)] (WS.startL ⟨⟨rfl, hh0⟩, trivial⟩) fun ac hS => ?_
 refine hS.regS [0] [] fun _ => seg [] [(0, none)] [] trivial fun ac wd hS => ?_
 refine wp_region_seq ?_
 refine hS.callC 9 #[vi 2] (ar_New 2 _  ) ?_
 rintro _ wd ⟨b'1, F2, rfl, hN, hF⟩
 refine ⟨pt b'1 0, rfl, ?_⟩
 replace hS := (hS.to (hS.mem.newA hN hF)).put (d := 7) (v := pt b'1 0) (by decide)
 clear hF
 refine hS.opsC 1 [0] [] fun _ => seg [(1, pt b'1 0)] [(0, none)] [] trivial fun ac wd hS => ?_
 refine list_nil_seq ?_
 refine wp_region_seq ?_
 refine hS.opsC 1 [0] [1] fun _ => seg [(8, pt b'1 0)] [(0, none)] [] trivial fun ac wd hS => ?_
 refine hS.callC 21 #[pt b'1 0, vi 1, vi 1] (ar_Commit b'1 F2 (AM.new 2) 1 1 _ (hS.mem.res 0) ) ?_
 rintro _ wd ⟨F3, rfl, hA, hF⟩
 refine ⟨vi (comE (AM.new 2) 1 1), rfl, ?_⟩
 replace hS := (hS.to (hS.mem.stepA 0 rfl hA hF)).put (d := 9) (v := vi (comE (AM.new 2) 1 1)) (by decide)
 clear hF
 refine hS.opsC 1 [0] [1] fun _ => seg [(2, vi (comE (AM.new 2) 1 1))] [(0, none)] [] trivial fun ac wd hS => ?_
 refine list_nil_seq ?_
 refine hS.regS [0, 0, 100] [1, 2] fun ν5 => seg [(3, pt (ν5 0) 0)] [(0, none), (1, some ((ν5 0), .cells [vi 4096, vi 1, vu 7, vi 0] 76))] [.e (ν5 0), .e (ν5 0), .e (ν5 0), .e (ν5 0)] trivial fun ac wd hS => ?_
 refine wp_region_seq ?_
 refine hS.opsC 2 [0, 100] [1, 2, 3] fun _ => seg [(11, pt b'1 0), (12, .agg #[vi 4096, vi 1, vu 7, vi 0])] [(0, none), (1, none)] [.e (ν5 0), .e (ν5 0), .e (ν5 0), .e (ν5 0)] trivial fun ac wd hS => ?_
 refine hS.callC 33 #[pt b'1 0, .agg #[vi 4096, vi 1, vu 7, vi 0]] (chunk_Write b'1 F3 (comM (AM.new 2) 1 1) 4096 1 7 0 _ (hS.mem.res 0) (by decide)) ?_
 rintro _ wd ⟨F4, rfl, hA, hF⟩
 refine ⟨vi (wrcE (comM (AM.new 2) 1 1) 4096 1 7 0), rfl, ?_⟩
 replace hS := (hS.to (hS.mem.stepA 0 rfl hA hF)).put (d := 13) (v := vi (wrcE (comM (AM.new 2) 1 1) 4096 1 7 0)) (by decide)
 clear hF
 refine hS.opsC 1 [0] [1, 2, 3] fun _ => seg [(4, vi (wrcE (comM (AM.new 2) 1 1) 4096 1 7 0))] [(0, none), (1, none)] [] trivial fun ac wd hS => ?_
 refine list_nil_seq ?_
 refine wp_region_seq ?_
 refine hS.opsC 1 [0] [2, 3, 4] fun _ => seg [(15, pt b'1 0)] [(0, none), (1, none)] [] trivial fun ac wd hS => ?_
 refine hS.call0 34 #[pt b'1 0, vi 4096] 16 (chunk_Read_v b'1 F4 (wrcM (comM (AM.new 2) 1 1) 4096 1 7 0) 4096 4096 1 7 0 0 _ (hS.mem.res 0) (by decide +kernel)) fun ac wd hS => ?_
 refine hS.opsC 6 [0, 0, 0, 0, 200, 0] [2, 3, 4] fun ν9 => seg [(5, pt (ν9 0) 0), (6, vi 0)] [(0, none), (1, none), (2, some ((ν9 0), .cells [vi 4096, vi 1, vu 7, vi 0] 76))] [.e (ν9 0), .e (ν9 0), .e (ν9 0), .e (ν9 0)] trivial fun ac wd hS => ?_
 refine list_nil_seq ?_
 refine wp_region_seq ?_
 refine hS.call0 135 #[] 19 (law05_Awake  _ (hS.mem.get 0 0 (.fn 0 64 dbT)) ) fun ac wd hS => ?_
 refine hS.opsC 18 [0, 1, 1, 70, 0, 3, 3, 80, 0, 3, 3, 80, 0, 103, 203, 3, 80, 0] [3] fun _ => seg [(37, vb ((((((comE (AM.new 2) 1 1) : Int) == 0) && (((wrcE (comM (AM.new 2) 1 1) 4096 1 7 0) : Int) == 0)) && ((0 : Int) == 0)) && true))] [(0, none), (1, none)] [.p ((((((((comE (AM.new 2) 1 1) : Int) == 0) && (((wrcE (comM (AM.new 2) 1 1) 4096 1 7 0) : Int) == 0)) && ((0 : Int) == 0)) = true) ∧ True) → AllP [((ν9 0) : Nat) = (ν9 0), ((ν9 0) : Nat) = (ν9 0), ((ν9 0) : Nat) = (ν9 0), ((ν9 0) : Nat) = (ν9 0)]), .p ((((((((comE (AM.new 2) 1 1) : Int) == 0) && (((wrcE (comM (AM.new 2) 1 1) 4096 1 7 0) : Int) == 0)) && ((0 : Int) == 0)) = true) ∧ True) → AllP [((ν5 0) : Nat) = (ν5 0), ((ν5 0) : Nat) = (ν5 0), ((ν5 0) : Nat) = (ν5 0), ((ν5 0) : Nat) = (ν5 0)]), .t true, .t true, .t true] ⟨(fun ⟨hc0, _⟩ => by replace hc0 := nrm hc0; exact ⟨rfl, rfl, rfl, rfl, trivial⟩), (fun ⟨hc0, _⟩ => by replace hc0 := nrm hc0; exact ⟨rfl, rfl, rfl, rfl, trivial⟩), trivial⟩ fun ac wd hS => ?_
 have hg5o : ((((((comE (AM.new 2) 1 1) : Int) == 0) && (((wrcE (comM (AM.new 2) 1 1) 4096 1 7 0) : Int) == 0)) && ((0 : Int) == 0)) && true) = true := by decide +kernel
 replace hS := hS.fix 37 (vb true) (congrArg Value.bool hg5o)
 refine hS.opsC 1 [101] [3, 37] fun _ => seg [(38, .agg #[vi 4096, vi 1, vu 7, vi 0])] [(0, none), (1, none)] [.t true, .e (ν5 0), .e (ν5 0), .e (ν5 0), .e (ν5 0)] trivial fun ac wd hS => ?_
 refine hS.callG true 136 #[.agg #[vi 4096, vi 1, vu 7, vi 0]] (chunk_End 4096 1 7 0 _  (by decide)) ?_
 rintro _ wd ⟨rfl, hF⟩
 refine ⟨vi (4096 + (spanV 1)), rfl, ?_⟩
 replace hS := (hS.to (hS.mem.keep0 hF)).put (d := 39) (v := vi (4096 + (spanV 1))) (by decide)
 clear hF
 refine hS.opsC 3 [1, 70, 0] [3] fun _ => seg [(42, vb (((4096 + (spanV 1)) : Int) == 12288))] [(0, none), (1, none)] [.t true, .t true] trivial fun ac wd hS => ?_
 have hg6o : (((4096 + (spanV 1)) : Int) == 12288) = true := by decide +kernel
 replace hS := hS.fix 42 (vb true) (congrArg Value.bool hg6o)
 refine hS.opsC 1 [101] [3, 42] fun _ => seg [(43, .agg #[vi 4096, vi 1, vu 7, vi 0])] [(0, none), (1, none)] [.t true, .e (ν5 0), .e (ν5 0), .e (ν5 0), .e (ν5 0)] trivial fun ac wd hS => ?_
 refine hS.callG true 137 #[.agg #[vi 4096, vi 1, vu 7, vi 0], vi 4128, vi 8160] (chunk_Has 4096 1 7 0 4128 8160 _  (by decide)) ?_
 rintro _ wd ⟨rfl, hF⟩
 refine ⟨vb (cHas 4096 1 4128 8160), rfl, ?_⟩
 replace hS := (hS.to (hS.mem.keep0 hF)).put (d := 44) (v := vb (cHas 4096 1 4128 8160)) (by decide)
 clear hF
 refine hS.opsC 2 [70, 0] [3] fun _ => seg [(46, vb (cHas 4096 1 4128 8160))] [(0, none), (1, none)] [.t true] trivial fun ac wd hS => ?_
 have hg7o : (cHas 4096 1 4128 8160) = true := by decide +kernel
 replace hS := hS.fix 46 (vb true) (congrArg Value.bool hg7o)
 refine hS.opsC 1 [101] [46] fun _ => seg [(47, .agg #[vi 4096, vi 1, vu 7, vi 0])] [(0, none)] [.t true, .e (ν5 0), .e (ν5 0), .e (ν5 0), .e (ν5 0)] trivial fun ac wd hS => ?_
 refine hS.callG true 137 #[.agg #[vi 4096, vi 1, vu 7, vi 0], vi 4127, vi 1] (chunk_Has 4096 1 7 0 4127 1 _  (by decide)) ?_
 rintro _ wd ⟨rfl, hF⟩
 refine ⟨vb (cHas 4096 1 4127 1), rfl, ?_⟩
 replace hS := (hS.to (hS.mem.keep0 hF)).put (d := 48) (v := vb (cHas 4096 1 4127 1)) (by decide)
 clear hF
 refine hS.opsC 3 [1, 70, 0] [] fun _ => seg [(0, vb (!(cHas 4096 1 4127 1)))] [(0, none)] [.t true, .t true] trivial fun ac wd hS => ?_
 refine list_nil_seq ?_
 refine wp_ret ?_
 refine St.retC 0 hS (vb (!(cHas 4096 1 4127 1))) [] trivial fun hw => ?_
 refine ⟨retd (vbool ?_), hw.fr0⟩
 all_goals (first | rfl | decide +kernel)

set_option maxRecDepth 100000 in
set_option maxHeartbeats 1000000 in
theorem law10_Awake (w : World) (hh0 : HE.holds w 0 (.fn 0 64 dbT)) :
    Calls Tryd.prog 87 #[] w fun e w' => e = .returned (vb true) ∧ Fr w w' no no := by
 refine enter (args := []) (D := no) (A := []) Tryd.func87 rfl 2 rfl [(0, .fn 0 64 dbT)] (WS.startL ⟨⟨rfl, hh0⟩, trivial⟩) fun ac hS => ?_
 refine hS.regS [0] [] fun _ => seg [] [(0, none)] [] trivial fun ac wd hS => ?_
 refine wp_region_seq ?_
 refine hS.call0 122 #[] 1 (law10_awake  _ (hS.mem.get 0 0 (.fn 0 64 dbT)) ) fun ac wd hS => ?_
 refine hS.opsC 1 [0] [] fun _ => seg [(0, vb true)] [(0, none)] [] trivial fun ac wd hS => ?_
 refine list_nil_seq ?_
 refine wp_ret ?_
 refine St.retC 0 hS (vb true) [] trivial fun hw => ?_
 refine ⟨retd rfl, hw.fr0⟩

end Go.Proofs.YtdjhdcaanmkblaaDoor.K

/-
  Tags and handles, plainly.
-/
namespace Go.Proofs.YtdjhdcaanmkblaaDoor.K
set_option linter.unusedSimpArgs false
set_option linter.unusedVariables false

/-- The first number that is so. -/
def fstN (p : Nat → Bool) (n : Nat) : Option Nat := (List.range n).find? p
def NoUp (p : Nat → Bool) (x : Int) : Prop := ∀ k : Nat, (k : Int) < x → p k = false
theorem fstN_at {p : Nat → Bool} {n : Nat} {x : Int} (h : NoUp p x) (h0 : 0 ≤ x) (h1 : x < (n : Int)) (hf : p x.toNat = true) : fstN p n = some x.toNat := by
  unfold fstN
  rw [List.find?_range_eq_some]
  exact ⟨hf, List.mem_range.2 (by omega), fun k hk => by rw [h k (by omega)]; rfl⟩
theorem fstN_none {p : Nat → Bool} {n : Nat} {x : Int} (h : NoUp p x) (hx : (n : Int) ≤ x) : fstN p n = none := by
  unfold fstN
  rw [List.find?_range_eq_none]
  intro k hk
  rw [h k (by omega)]; rfl

/-- Handles. -/
def hLen (z : Int) : Int := imin (z / 16) 256
theorem hLen_bd {z : Int} (h : 0 ≤ z) : 0 ≤ hLen z ∧ hLen z ≤ 256 ∧ hLen z * 16 ≤ z := by unfold hLen imin; split <;> omega
def hAt (m : AM) (o z i : Int) : Int := IntKind.wrap .i64 (vldV m o z (i * 16) 8)
def hGn (m : AM) (o z i : Int) : Int := vldV m o z (i * 16 + 8) 8
def hSetM (m : AM) (o z i a : Int) : AM := vstM m o z (i * 16) 8 (IntKind.wrap .u64 a)
def hFree (m : AM) (o z : Int) (i : Nat) : Bool := hAt m o z (i : Int) == 0 && decide (hGn m o z (i : Int) < 72057594037927935)
def hOf (g i : Int) : Int := IntKind.wrap .u64 ((IntKind.wrap .u64 ((IntKind.wrap .u64 (g + 1)) * 256)) + (IntKind.wrap .u64 i))
def hNxO (m : AM) (o z : Int) : Option Nat := fstN (hFree m o z) (hLen z).toNat
def hNxV (m : AM) (o z : Int) : Int := match hNxO m o z with | some i => hOf (hGn m o z (i : Int)) (i : Int) | none => 0
def hNxE (m : AM) (o z : Int) : Int := match hNxO m o z with | some _ => 0 | none => 10
theorem hOf_mod {g i : Int} (h : 0 ≤ g ∧ g < 72057594037927935) (hi : 0 ≤ i ∧ i < 256) : hOf g i = (g + 1) * 256 + i := by
  unfold hOf
  rw [u64_in (x := g + 1) (by omega), u64_in (x := (g + 1) * 256) (by omega), u64_in (x := i) (by omega), u64_in (by omega)]
def hfOk (m : AM) (o z h : Int) : Bool := decide (h % 256 < hLen z) && !(hAt m o z (h % 256) == 0 || h / 256 != hGn m o z (h % 256))
def hfA (m : AM) (o z h : Int) : Int := if hfOk m o z h then hAt m o z (h % 256) else 0
def hfE (m : AM) (o z h : Int) : Int := if hfOk m o z h then 0 else 6
def hNwE (m : AM) (o z a : Int) : Int := if a < 1 then 2 else hNxE m o z
def hNwV (m : AM) (o z a : Int) : Int := if a < 1 then 0 else if hNxE m o z = 0 then hNxV m o z else 0
def hNwM (m : AM) (o z a : Int) : AM := if a < 1 then m else if hNxE m o z = 0 then vstM (hSetM m o z (hNxV m o z % 256) a) o z (hNxV m o z % 256 * 16 + 8) 8 (hNxV m o z / 256) else m
end Go.Proofs.YtdjhdcaanmkblaaDoor.K

/-
  Walks, printed by w2.py.
-/
namespace Go.Proofs.YtdjhdcaanmkblaaDoor.K
set_option linter.unusedVariables false
set_option linter.unusedSimpArgs false

set_option maxRecDepth 100000 in
set_option maxHeartbeats 1000000 in
theorem vw_Size (b : Nat) (o_ : Int) (z : Int) (w : World) :
    Calls Tryd.prog 25 #[.agg #[pt b 0, vi o_, vi z]] w fun e w' => e = .returned (vi z) ∧ Fr w w' no no := by
 refine enter (args := [.agg #[pt b 0, vi o_, vi z]]) (D := no) (A := []) Tryd.func25 rfl 5 rfl [] (WS.startL trivial) fun ac hS => ?_
 refine hS.regS [0, 0] [] fun ν1 => seg [(1, pt (ν1 0) 0)] [(0, some ((ν1 0), .cells [pt b 0, vi o_, vi z] 55))] [] trivial fun ac wd hS => ?_
 refine hS.regS [0, 0, 0] [] fun _ => seg [(2, vi z)] [] [.e (ν1 0)] trivial fun ac wd hS => ?_
 refine wp_ret ?_
 refine St.retC 0 hS (vi z) [] trivial fun hw => ?_
 refine ⟨retd rfl, hw.fr0⟩

end Go.Proofs.YtdjhdcaanmkblaaDoor.K

/-
  Bins, plainly.
-/
namespace Go.Proofs.YtdjhdcaanmkblaaDoor.K
set_option linter.unusedSimpArgs false
set_option linter.unusedVariables false

theorem rounds_in {P : Program} {c : Code} {Q : Exit → Act → World → Prop} {n : Nat} {a : Act} {w : World} (h : c.wp P (Exit.then (Code.rounds P c Q n) Q) a w) : Code.rounds P c Q (n + 1) a w := h

theorem wrap_u64_rng (x : Int) : 0 ≤ IntKind.u64.wrap x ∧ IntKind.u64.wrap x ≤ 18446744073709551615 := by rw [IntKind.wrap_u64]; omega
theorem wrap_i64_rng (x : Int) : -9223372036854775808 ≤ IntKind.i64.wrap x ∧ IntKind.i64.wrap x ≤ 9223372036854775807 := by
  have e : IntKind.i64.wrap x = if 9223372036854775808 ≤ x % 18446744073709551616 then x % 18446744073709551616 - 18446744073709551616 else x % 18446744073709551616 := by
    simp [IntKind.wrap, IntKind.bits, IntKind.signed]
  rw [e]
  split <;> omega
theorem ldN_rng (s : ByteArray) : ∀ i : Nat, 0 ≤ ldN s i ∧ ldN s i ≤ 18446744073709551615
  | 0 => by unfold ldN; omega
  | i + 1 => by unfold ldN ior; exact wrap_u64_rng _
theorem vldV_rng (m : AM) (o z a k : Int) : 0 ≤ vldV m o z a k ∧ vldV m o z a k ≤ 18446744073709551615 := by
  unfold vldV ldV
  split
  · split
    · split
      · exact ldN_rng _ _
      · omega
    · omega
  · omega
theorem getW_rng (l : List Int) (m : AM) (o z i : Int) : 0 ≤ getW l m o z i ∧ getW l m o z i ≤ 18446744073709551615 := by
  unfold getW
  split
  · exact vldV_rng _ _ _ _ _
  · omega
theorem rdOwn_rng (m : AM) (a : Int) : 0 ≤ rdOwn m a ∧ rdOwn m a ≤ 18446744073709551615 := by
  unfold rdOwn rdN
  split
  · exact getW_rng _ _ _ _ _
  · omega
theorem rdNx_rng (m : AM) (a : Int) : -9223372036854775808 ≤ rdNx m a ∧ rdNx m a ≤ 9223372036854775807 := by
  unfold rdNx
  split
  · exact wrap_i64_rng _
  · omega
theorem rdOrd_rng (m : AM) (a : Int) : 0 ≤ rdOrd m a ∧ rdOrd m a ≤ 10 := by
  unfold rdOrd
  split
  · rename_i h
    unfold rdOk at h
    simp only [Bool.and_eq_true, Bool.not_eq_true'] at h
    have h2 := h.2
    unfold badR at h2
    simp only [Bool.or_eq_false_iff] at h2
    exact span_pos (by simpa using h2.1.2)
  · omega

def bnE (z : Int) : Int := if z < 40 then 3 else 0
def bnN (m : AM) (o z k : Int) : Int := if (k < 0 ∨ 4 < k) ∨ z < 40 then 0 else IntKind.wrap .i64 (vldV m o z (8 * k) 8)
theorem bnN_rng (m : AM) (o z k : Int) : -9223372036854775808 ≤ bnN m o z k ∧ bnN m o z k ≤ 9223372036854775807 := by
  unfold bnN
  split
  · omega
  · exact wrap_i64_rng _
theorem bnN_in {m : AM} {o z k : Int} (h : bnN m o z k ≠ 0) : 0 ≤ k ∧ k ≤ 4 ∧ 40 ≤ z := by
  unfold bnN at h
  split at h
  · exact absurd rfl h
  · omega
/-- What Push makes of an arena, and answers. -/
def bpBad (m : AM) (z a : Int) : Bool := ((decide (z < 40) || rdE m a != 0) || decide (4 < rdOrd m a)) || rdOwn m a != 0
def bpE (m : AM) (o z a : Int) : Int := if z < 40 then 3 else if rdE m a ≠ 0 then rdE m a else if 4 < rdOrd m a then 2 else if rdOwn m a ≠ 0 then 11 else vstE (wrcM m (rdAt m a) (rdOrd m a) (rdOwn m a) (bnN m o z (rdOrd m a))) o z (8 * rdOrd m a) 8
def bpM (m : AM) (o z a : Int) : AM := if bpBad m z a then m else vstM (wrcM m (rdAt m a) (rdOrd m a) (rdOwn m a) (bnN m o z (rdOrd m a))) o z (8 * rdOrd m a) 8 (IntKind.wrap .u64 a)
theorem bp_1 {m : AM} {o z a : Int} (h : z < 40) : 3 = bpE m o z a ∧ m = bpM m o z a := by
  have e : bpBad m z a = true := by unfold bpBad; simp [h]
  unfold bpE bpM; rw [if_pos h, e]; exact ⟨rfl, rfl⟩
theorem bp_2 {m : AM} {o z a : Int} (h : ¬ z < 40) (h2 : rdE m a ≠ 0) : rdE m a = bpE m o z a ∧ m = bpM m o z a := by
  have e : bpBad m z a = true := by unfold bpBad; simp [h2]
  unfold bpE bpM; rw [if_neg h, if_pos h2, e]; exact ⟨rfl, rfl⟩
theorem bp_3 {m : AM} {o z a : Int} (h : ¬ z < 40) (h2 : ¬ rdE m a ≠ 0) (h3 : 4 < rdOrd m a) : 2 = bpE m o z a ∧ m = bpM m o z a := by
  have e : bpBad m z a = true := by unfold bpBad; simp [h3]
  unfold bpE bpM; rw [if_neg h, if_neg h2, if_pos h3, e]; exact ⟨rfl, rfl⟩
theorem bp_4 {m : AM} {o z a : Int} (h : ¬ z < 40) (h2 : ¬ rdE m a ≠ 0) (h3 : ¬ 4 < rdOrd m a) (h4 : rdOwn m a ≠ 0) : 11 = bpE m o z a ∧ m = bpM m o z a := by
  have e : bpBad m z a = true := by unfold bpBad; simp [h4]
  unfold bpE bpM; rw [if_neg h, if_neg h2, if_neg h3, if_pos h4, e]; exact ⟨rfl, rfl⟩
theorem bp_5 {m : AM} {o z a : Int} (h : ¬ z < 40) (h2 : ¬ rdE m a ≠ 0) (h3 : ¬ 4 < rdOrd m a) (h4 : ¬ rdOwn m a ≠ 0) : vstE (wrcM m (rdAt m a) (rdOrd m a) (rdOwn m a) (bnN m o z (rdOrd m a))) o z (8 * rdOrd m a) 8 = bpE m o z a ∧ vstM (wrcM m (rdAt m a) (rdOrd m a) (rdOwn m a) (bnN m o z (rdOrd m a))) o z (8 * rdOrd m a) 8 (IntKind.wrap .u64 a) = bpM m o z a := by
  have e : bpBad m z a = false := by
    unfold bpBad
    have h2' : rdE m a = 0 := Decidable.not_not.1 h2
    have h4' : rdOwn m a = 0 := Decidable.not_not.1 h4
    simp [h, h2', h3, h4']
  unfold bpE bpM; rw [if_neg h, if_neg h2, if_neg h3, if_neg h4, e]; exact ⟨rfl, rfl⟩
/-- What Pop makes of an arena, and answers. -/
def bqOk (m : AM) (o z k : Int) : Bool := bnN m o z k != 0
def bqM (m : AM) (o z k : Int) : AM := if bqOk m o z k then wrcM (vstM m o z (8 * k) 8 (IntKind.wrap .u64 (rdNx m (bnN m o z k)))) (rdAt m (bnN m o z k)) (rdOrd m (bnN m o z k)) (rdOwn m (bnN m o z k)) 0 else m
def bqAt (m : AM) (o z k : Int) : Int := if bqOk m o z k then rdAt m (bnN m o z k) else 0
def bqOrd (m : AM) (o z k : Int) : Int := if bqOk m o z k then rdOrd m (bnN m o z k) else 0
def bqOwn (m : AM) (o z k : Int) : Int := if bqOk m o z k then rdOwn m (bnN m o z k) else 0
theorem bq_no {m : AM} {o z k : Int} (h : bnN m o z k = 0) : (0 = bqAt m o z k ∧ 0 = bqOrd m o z k ∧ 0 = bqOwn m o z k ∧ false = bqOk m o z k) ∧ m = bqM m o z k := by
  have e : bqOk m o z k = false := by unfold bqOk; rw [h]; rfl
  unfold bqAt bqOrd bqOwn bqM; rw [e]; exact ⟨⟨rfl, rfl, rfl, rfl⟩, rfl⟩
theorem bq_yes {m : AM} {o z k : Int} (h : bnN m o z k ≠ 0) : (rdAt m (bnN m o z k) = bqAt m o z k ∧ rdOrd m (bnN m o z k) = bqOrd m o z k ∧ rdOwn m (bnN m o z k) = bqOwn m o z k ∧ true = bqOk m o z k) ∧ wrcM (vstM m o z (8 * k) 8 (IntKind.wrap .u64 (rdNx m (bnN m o z k)))) (rdAt m (bnN m o z k)) (rdOrd m (bnN m o z k)) (rdOwn m (bnN m o z k)) 0 = bqM m o z k := by
  have e : bqOk m o z k = true := by unfold bqOk; simpa using h
  unfold bqAt bqOrd bqOwn bqM; rw [e]; exact ⟨⟨rfl, rfl, rfl, rfl⟩, rfl⟩
end Go.Proofs.YtdjhdcaanmkblaaDoor.K

/-
  Walks, printed by w2.py.
-/
namespace Go.Proofs.YtdjhdcaanmkblaaDoor.K
set_option linter.unusedVariables false
set_option linter.unusedSimpArgs false

set_option maxRecDepth 100000 in
set_option maxHeartbeats 1000000 in
theorem b_Open (b : Nat) (o_ : Int) (z : Int) (w : World) :
    Calls Tryd.prog 39 #[.agg #[pt b 0, vi o_, vi z]] w fun e w' => e = .returned (.agg #[pt b 0, vi o_, vi z]) ∧ Fr w w' no no := by
 refine enter (args := [.agg #[pt b 0, vi o_, vi z]]) (D := no) (A := []) Tryd.func39 rfl 5 rfl [] (WS.startL trivial) fun ac hS => ?_
 refine hS.regS [0, 0] [] fun ν1 => seg [(1, pt (ν1 0) 0), (2, pt (ν1 1) 0)] [(0, some ((ν1 0), .cells [pt b 0, vi o_, vi z] 55)), (1, some ((ν1 1), .cells [pnil, vi 0, vi 0] 67))] [] trivial fun ac wd hS => ?_
 refine hS.regS [0, 0, 100] [2] fun _ => seg [] [(1, some ((ν1 1), .cells [pt b 0, vi o_, vi z] 67))] [.e (ν1 1), .e (ν1 1), .e (ν1 1), .e (ν1 0), .e (ν1 0), .e (ν1 0)] trivial fun ac wd hS => ?_
 refine wp_ret ?_
 refine St.retC 0 hS (.agg #[pt b 0, vi o_, vi z]) [.e (ν1 1), .e (ν1 1), .e (ν1 1)] trivial fun hw => ?_
 refine ⟨retd rfl, hw.fr0⟩

set_option maxRecDepth 100000 in
set_option maxHeartbeats 1000000 in
theorem b_check (b : Nat) (o_ : Int) (z : Int) (w : World) (ho : 0 ≤ o_ ∧ 0 ≤ z ∧ o_ + z ≤ 4294967296) :
    Calls Tryd.prog 93 #[.agg #[pt b 0, vi o_, vi z]] w fun e w' => e = .returned (vi (bnE z)) ∧ Fr w w' no no := by
 refine enter (args := [.agg #[pt b 0, vi o_, vi z]]) (D := no) (A := []) Tryd.func93 rfl 13 rfl [] (WS.startL trivial) fun ac hS => ?_
 refine hS.regS [0, 0] [] fun ν1 => seg [(1, pt (ν1 0) 0)] [(0, some ((ν1 0), .cells [pt b 0, vi o_, vi z] 67))] [] trivial fun ac wd hS => ?_
 refine wp_seq ?_
 refine wp_block ?_
 refine hS.regS [0, 0, 0, 0, 0] [1] fun _ => seg [(3, vb false)] [(0, none)] [.e (ν1 0)] trivial fun ac wd hS => ?_
 refine hS.condF ?_
 refine wp_region_seq ?_
 refine hS.opsC 2 [0, 0] [] fun _ => seg [(10, .agg #[pt b 0, vi o_, vi z])] [] [.e (ν1 0), .e (ν1 0), .e (ν1 0)] trivial fun ac wd hS => ?_
 refine hS.call0 25 #[.agg #[pt b 0, vi o_, vi z]] 11 (vw_Size b o_ z _  ) fun ac wd hS => ?_
 refine hS.opsC 2 [0, 0] [] fun _ => seg [(8, vb (decide ((z : Int) < 40)))] [] [] trivial fun ac wd hS => ?_
 refine list_nil_seq ?_
 refine hS.condC (decide ((z : Int) < 40)) (fun hb1o hb1 => ?_) (fun hb1o hb1 => ?_)
 ·
  refine hS.regS [0] [] fun _ => seg [(2, vi 3)] [] [] trivial fun ac wd hS => ?_
  refine wp_ret ?_
  refine pop_block_ret ?_
  refine pop_then_ret ?_
  refine St.retC 0 hS (vi 3) [] trivial fun hw => ?_
  refine ⟨retd (vint ?_), hw.fr0⟩
  all_goals (first | (unfold bnE; rw [if_pos (by omega)]) | (unfold bnE; rw [if_neg (by omega)]))
 ·
  refine wp_skip ?_
  refine pop_block ?_
  refine pop_then ?_
  refine hS.regS [0] [] fun _ => seg [(2, vi 0)] [] [] trivial fun ac wd hS => ?_
  refine wp_ret ?_
  refine St.retC 0 hS (vi 0) [] trivial fun hw => ?_
  refine ⟨retd (vint ?_), hw.fr0⟩
  all_goals (first | (unfold bnE; rw [if_pos (by omega)]) | (unfold bnE; rw [if_neg (by omega)]))

set_option maxRecDepth 100000 in
set_option maxHeartbeats 1000000 in
theorem b_newest (b : Nat) (F : Nat → Prop) (m : AM) (o_ : Int) (z : Int) (k : Int) (w : World) (hr : (arR b F m).R w) (ho : 0 ≤ o_ ∧ 0 ≤ z ∧ o_ + z ≤ 4294967296) :
    Calls Tryd.prog 88 #[.agg #[pt b 0, vi o_, vi z], vi k] w fun e w' => e = .returned (vi (bnN m o_ z k)) ∧ Fr w w' no no := by
 refine enter (args := [.agg #[pt b 0, vi o_, vi z], vi k]) (D := no) (A := []) Tryd.func88 rfl 28 rfl [] (WS.startL trivial) fun ac hS => ?_
 refine hS.regS [0, 0] [1] fun ν1 => seg [(2, pt (ν1 0) 0)] [(0, some ((ν1 0), .cells [pt b 0, vi o_, vi z] 67))] [] trivial fun ac wd hS => ?_
 refine wp_seq ?_
 refine wp_region_seq ?_
 refine hS.opsC 7 [0, 0, 0, 3, 3, 80, 0] [1, 2] fun _ => seg [(13, vb ((decide ((k : Int) < 0)) || (decide ((4 : Int) < k))))] [(0, none)] [] trivial fun ac wd hS => ?_
 rcases Bool.eq_false_or_eq_true ((decide ((k : Int) < 0)) || (decide ((4 : Int) < k))) with hg1o | hg1o
 ·
  have hg1 := nrm hg1o
  replace hS := hS.fix 13 (vb true) (congrArg Value.bool hg1o)
  refine hS.opsC 4 [2, 2, 2, 70] [1, 2] fun _ => seg [(17, vb true)] [(0, none)] [.t true, .t true, .t true, .t true] trivial fun ac wd hS => ?_
  refine list_nil_seq ?_
  refine hS.condT ?_
  refine hS.regS [0] [] fun _ => seg [(4, vi 0)] [] [] trivial fun ac wd hS => ?_
  refine wp_ret ?_
  refine pop_then_ret ?_
  refine St.retC 0 hS (vi 0) [] trivial fun hw => ?_
  refine ⟨retd (vint ?_), hw.fr0⟩
  all_goals (first | (unfold bnN; rw [if_pos (by omega)]; done) | (unfold bnN; rw [if_neg (by omega)]; done))
 ·
  have hg1 := nrm hg1o
  replace hS := hS.fix 13 (vb false) (congrArg Value.bool hg1o)
  refine hS.opsC 1 [1] [1, 2, 13] fun _ => seg [(14, .agg #[pt b 0, vi o_, vi z])] [(0, none)] [.t false, .e (ν1 0), .e (ν1 0), .e (ν1 0)] trivial fun ac wd hS => ?_
  refine hS.callG false 93 #[.agg #[pt b 0, vi o_, vi z]] (b_check b o_ z _  (by first | assumption | omega | (simp_all; done) | (simp_all; omega))) ?_
  rintro _ wd ⟨rfl, hF⟩
  refine ⟨vi (bnE z), rfl, ?_⟩
  replace hS := (hS.to (hS.mem.keep0 hF)).put (d := 15) (v := vi (bnE z)) (by decide)
  clear hF
  refine hS.opsC 2 [1, 60] [1, 2] fun _ => seg [(17, vb (((bnE z) : Int) != 0))] [(0, none)] [.t false, .t false] trivial fun ac wd hS => ?_
  refine list_nil_seq ?_
  refine hS.condC (((bnE z) : Int) != 0) (fun hb2o hb2 => ?_) (fun hb2o hb2 => ?_)
  ·
   have hz : z < 40 := by have := hb2; (unfold bnE at this; split at this <;> omega)
   refine hS.regS [0] [] fun _ => seg [(4, vi 0)] [] [] trivial fun ac wd hS => ?_
   refine wp_ret ?_
   refine pop_then_ret ?_
   refine St.retC 0 hS (vi 0) [] trivial fun hw => ?_
   refine ⟨retd (vint ?_), hw.fr0⟩
   all_goals (first | (unfold bnN; rw [if_pos (by omega)]; done) | (unfold bnN; rw [if_neg (by omega)]; done))
  ·
   have hz : ¬ z < 40 := by have := hb2; (unfold bnE at this; split at this <;> omega)
   refine wp_skip ?_
   refine pop_then ?_
   refine wp_region_seq ?_
   refine hS.opsC 4 [0, 0, 0, 20] [] fun _ => seg [(20, .agg #[pt b 0, vi o_, vi z]), (22, vi (8 * k))] [] [.p (fit .i64 (8 * k)), .e (ν1 0), .e (ν1 0), .e (ν1 0)] ⟨fit_i64 (by omega), trivial⟩ fun ac wd hS => ?_
   refine hS.call0 67 #[.agg #[pt b 0, vi o_, vi z], vi (8 * k), vi 8] 23 (vw_Load b F m o_ z (8 * k) 8 _ (Res.keep hr hS.mem.fr) (by first | assumption | omega | (simp_all; done) | (simp_all; omega))) fun ac wd hS => ?_
   refine hS.opsC 5 [0, 0, 0, 0, 0] [] fun _ => seg [(5, vu (vldV m o_ z (8 * k) 8))] [] [] trivial fun ac wd hS => ?_
   refine list_nil_seq ?_
   refine hS.regS [0, 0, 0] [] fun _ => seg [(4, vi (IntKind.wrap .i64 (vldV m o_ z (8 * k) 8)))] [] [] trivial fun ac wd hS => ?_
   refine wp_ret ?_
   refine St.retC 0 hS (vi (IntKind.wrap .i64 (vldV m o_ z (8 * k) 8))) [] trivial fun hw => ?_
   refine ⟨retd (vint ?_), hw.fr0⟩
   all_goals (first | (unfold bnN; rw [if_pos (by omega)]; done) | (unfold bnN; rw [if_neg (by omega)]; done))

set_option maxRecDepth 100000 in
set_option maxHeartbeats 1000000 in
theorem b_Push (b : Nat) (F : Nat → Prop) (m : AM) (o_ : Int) (z : Int) (a : Int) (w : World) (hr : (arR b F m).R w) (ho : 0 ≤ o_ ∧ 0 ≤ z ∧ o_ + z ≤ 4294967296) :
    Calls Tryd.prog 35 #[.agg #[pt b 0, vi o_, vi z], vi a] w fun e w' => ∃ (F' : Nat → Prop), e = .returned (vi (bpE m o_ z a)) ∧ (arR b F' (bpM m o_ z a)).R w' ∧ Fr w w' F F' := by
 have hr1 := rdOwn_rng m a
 have hr2 := rdNx_rng m a
 have hr3 := rdOrd_rng m a
 have hr4 := bnN_rng m o_ z (rdOrd m a)
 refine enter (args := [.agg #[pt b 0, vi o_, vi z], vi a]) (D := F) (A := [arR b F m]) Tryd.func35 rfl 51 rfl [] (WS.startA (r := arR b F m) hr trivial trivial) fun ac hS => ?_
 refine hS.regS [0, 0] [1] fun ν1 => seg [(2, pt (ν1 0) 0)] [(0, some ((ν1 0), .cells [pt b 0, vi o_, vi z] 67))] [] trivial fun ac wd hS => ?_
 refine wp_seq ?_
 refine wp_region_seq ?_
 refine hS.opsC 1 [0] [1, 2] fun _ => seg [(8, .agg #[pt b 0, vi o_, vi z])] [(0, none)] [.e (ν1 0), .e (ν1 0), .e (ν1 0)] trivial fun ac wd hS => ?_
 refine hS.call0 93 #[.agg #[pt b 0, vi o_, vi z]] 9 (b_check b o_ z _  (by first | assumption | omega | (simp_all; done) | (simp_all; omega))) fun ac wd hS => ?_
 refine hS.opsC 1 [0] [1, 2] fun _ => seg [(5, vi (bnE z))] [(0, none)] [] trivial fun ac wd hS => ?_
 refine list_nil_seq ?_
 refine hS.regS [0, 0] [1, 2, 5] fun _ => seg [(11, vb (((bnE z) : Int) != 0))] [(0, none)] [] trivial fun ac wd hS => ?_
 refine hS.condC (((bnE z) : Int) != 0) (fun hb1o hb1 => ?_) (fun hb1o hb1 => ?_)
 ·
  have hz : z < 40 := by have := hb1; (unfold bnE at this; split at this <;> omega)
  have hE := (bp_1 (m := m) (o := o_) (z := z) (a := a) hz).1
  have hM := (bp_1 (m := m) (o := o_) (z := z) (a := a) hz).2
  refine hS.regS [0, 0] [] fun _ => seg [(4, vi (bnE z))] [] [] trivial fun ac wd hS => ?_
  refine wp_ret ?_
  refine pop_then_ret ?_
  refine St.retC 0 hS (vi (bnE z)) [] trivial fun hw => ?_
  refine ⟨F, retd (vint ?_), (res_eq (r := arR b F m) (by exact congrArg _ hM) (hw.res 0)), hw.frA⟩
  all_goals (first | exact hE | (rw [← hE]; unfold bnE; rw [if_pos hz]))
 ·
  have hz : ¬ z < 40 := by have := hb1; (unfold bnE at this; split at this <;> omega)
  refine wp_skip ?_
  refine pop_then ?_
  refine wp_region_seq ?_
  refine hS.opsC 4 [0, 0, 0, 0] [1, 2] fun _ => seg [(16, pt b 0), (17, vi a)] [(0, none)] [.e (ν1 0)] trivial fun ac wd hS => ?_
  refine hS.call0 34 #[pt b 0, vi a] 18 (chunk_Read b F m a _ (hS.mem.res 0) ) fun ac wd hS => ?_
  refine hS.opsC 6 [0, 0, 0, 0, 100, 0] [1, 2] fun ν7 => seg [(6, pt (ν7 0) 0), (7, vi (rdE m a))] [(0, none), (1, some ((ν7 0), .cells [vi (rdAt m a), vi (rdOrd m a), vu (rdOwn m a), vi (rdNx m a)] 76))] [.e (ν7 0), .e (ν7 0), .e (ν7 0), .e (ν7 0)] trivial fun ac wd hS => ?_
  refine list_nil_seq ?_
  refine wp_seq ?_
  refine wp_block ?_
  refine hS.regS [0, 0, 0] [1, 2, 6, 7] fun _ => seg [(21, vb (((rdE m a) : Int) != 0))] [(0, none), (1, none)] [] trivial fun ac wd hS => ?_
  refine hS.condC (((rdE m a) : Int) != 0) (fun hb2o hb2 => ?_) (fun hb2o hb2 => ?_)
  ·
   have h2 : rdE m a ≠ 0 := hb2
   have hE := (bp_2 (m := m) (o := o_) (z := z) (a := a) hz h2).1
   have hM := (bp_2 (m := m) (o := o_) (z := z) (a := a) hz h2).2
   refine hS.regS [0, 0] [] fun _ => seg [(4, vi (rdE m a))] [] [] trivial fun ac wd hS => ?_
   refine wp_ret ?_
   refine pop_block_ret ?_
   refine pop_then_ret ?_
   refine St.retC 0 hS (vi (rdE m a)) [] trivial fun hw => ?_
   refine ⟨F, retd (vint ?_), (res_eq (r := arR b F m) (by exact congrArg _ hM) (hw.res 0)), hw.frA⟩
   all_goals (first | exact hE | (rw [← hE]; unfold bnE; rw [if_pos hz]))
  ·
   have h2 : ¬ rdE m a ≠ 0 := fun q => q hb2
   refine hS.regS [0, 100, 0, 0] [1, 2, 6] fun _ => seg [(25, vb (decide ((4 : Int) < (rdOrd m a))))] [(0, none), (1, none)] [.e (ν7 0)] trivial fun ac wd hS => ?_
   refine hS.condC (decide ((4 : Int) < (rdOrd m a))) (fun hb3o hb3 => ?_) (fun hb3o hb3 => ?_)
   ·
    have h3 : 4 < rdOrd m a := by have := hb3; omega
    have hE := (bp_3 (m := m) (o := o_) (z := z) (a := a) hz h2 h3).1
    have hM := (bp_3 (m := m) (o := o_) (z := z) (a := a) hz h2 h3).2
    refine hS.regS [0] [] fun _ => seg [(4, vi 2)] [] [] trivial fun ac wd hS => ?_
    refine wp_ret ?_
    refine pop_block_ret ?_
    refine pop_then_ret ?_
    refine St.retC 0 hS (vi 2) [] trivial fun hw => ?_
    refine ⟨F, retd (vint ?_), (res_eq (r := arR b F m) (by exact congrArg _ hM) (hw.res 0)), hw.frA⟩
    all_goals (first | exact hE | (rw [← hE]; unfold bnE; rw [if_pos hz]))
   ·
    have h3 : ¬ 4 < rdOrd m a := by have := hb3; omega
    refine hS.regS [0, 100, 0, 0] [1, 2, 6] fun _ => seg [(29, vb (((rdOwn m a) : Int) != 0))] [(0, none), (1, none)] [.e (ν7 0)] trivial fun ac wd hS => ?_
    refine hS.condC (((rdOwn m a) : Int) != 0) (fun hb4o hb4 => ?_) (fun hb4o hb4 => ?_)
    ·
     have h4 : rdOwn m a ≠ 0 := hb4
     have hE := (bp_4 (m := m) (o := o_) (z := z) (a := a) hz h2 h3 h4).1
     have hM := (bp_4 (m := m) (o := o_) (z := z) (a := a) hz h2 h3 h4).2
     refine hS.regS [0] [] fun _ => seg [(4, vi 11)] [] [] trivial fun ac wd hS => ?_
     refine wp_ret ?_
     refine pop_block_ret ?_
     refine pop_then_ret ?_
     refine St.retC 0 hS (vi 11) [] trivial fun hw => ?_
     refine ⟨F, retd (vint ?_), (res_eq (r := arR b F m) (by exact congrArg _ hM) (hw.res 0)), hw.frA⟩
     all_goals (first | exact hE | (rw [← hE]; unfold bnE; rw [if_pos hz]))
    ·
     have h4 : ¬ rdOwn m a ≠ 0 := fun q => q hb4
     have hE := (bp_5 (m := m) (o := o_) (z := z) (a := a) hz h2 h3 h4).1
     have hM := (bp_5 (m := m) (o := o_) (z := z) (a := a) hz h2 h3 h4).2
     refine wp_skip ?_
     refine pop_block ?_
     refine pop_then ?_
     refine wp_region_seq ?_
     refine hS.opsC 3 [0, 0, 100] [1, 2, 6] fun _ => seg [(33, .agg #[pt b 0, vi o_, vi z]), (35, vi (rdOrd m a))] [(0, none), (1, none)] [.e (ν7 0), .e (ν1 0), .e (ν1 0), .e (ν1 0)] trivial fun ac wd hS => ?_
     refine hS.call0 88 #[.agg #[pt b 0, vi o_, vi z], vi (rdOrd m a)] 36 (b_newest b F m o_ z (rdOrd m a) _ (hS.mem.res 0) (by first | assumption | omega | (simp_all; done) | (simp_all; omega))) fun ac wd hS => ?_
     refine hS.opsC 2 [0, 100] [1, 2, 6] fun _ => seg [] [(0, none), (1, some ((ν7 0), .cells [vi (rdAt m a), vi (rdOrd m a), vu (rdOwn m a), vi (bnN m o_ z (rdOrd m a))] 76))] [.e (ν7 0)] trivial fun ac wd hS => ?_
     refine list_nil_seq ?_
     refine wp_region_seq ?_
     refine hS.opsC 4 [0, 0, 0, 100] [1, 2, 6] fun _ => seg [(40, pt b 0), (41, .agg #[vi (rdAt m a), vi (rdOrd m a), vu (rdOwn m a), vi (bnN m o_ z (rdOrd m a))])] [(0, none), (1, none)] [.e (ν7 0), .e (ν7 0), .e (ν7 0), .e (ν7 0), .e (ν1 0)] trivial fun ac wd hS => ?_
     refine hS.callC 33 #[pt b 0, .agg #[vi (rdAt m a), vi (rdOrd m a), vu (rdOwn m a), vi (bnN m o_ z (rdOrd m a))]] (chunk_Write b F m (rdAt m a) (rdOrd m a) (rdOwn m a) (bnN m o_ z (rdOrd m a)) _ (hS.mem.res 0) (by first | assumption | omega | (simp_all; done) | (simp_all; omega))) ?_
     rintro _ wd ⟨F5, rfl, hA, hF⟩
     refine ⟨vi (wrcE m (rdAt m a) (rdOrd m a) (rdOwn m a) (bnN m o_ z (rdOrd m a))), rfl, ?_⟩
     replace hS := (hS.to (hS.mem.stepA 0 rfl hA hF)).put (d := 42) (v := vi (wrcE m (rdAt m a) (rdOrd m a) (rdOwn m a) (bnN m o_ z (rdOrd m a)))) (by decide)
     clear hF
     refine list_nil_seq ?_
     refine wp_region_seq ?_
     refine hS.opsC 7 [0, 0, 0, 100, 20, 0, 0] [] fun _ => seg [(44, .agg #[pt b 0, vi o_, vi z]), (47, vi (8 * (rdOrd m a))), (49, vu (IntKind.wrap .u64 a))] [] [.p (fit .i64 (8 * (rdOrd m a))), .e (ν7 0), .e (ν1 0), .e (ν1 0), .e (ν1 0)] ⟨fit_i64 (by omega), trivial⟩ fun ac wd hS => ?_
     refine hS.callC 66 #[.agg #[pt b 0, vi o_, vi z], vi (8 * (rdOrd m a)), vi 8, vu (IntKind.wrap .u64 a)] (vw_Store b F5 (wrcM m (rdAt m a) (rdOrd m a) (rdOwn m a) (bnN m o_ z (rdOrd m a))) o_ z (8 * (rdOrd m a)) 8 (IntKind.wrap .u64 a) _ (hS.mem.res 0) (by first | assumption | omega | (simp_all; done) | (simp_all; omega))) ?_
     rintro _ wd ⟨F6, rfl, hA, hF⟩
     refine ⟨vi (vstE (wrcM m (rdAt m a) (rdOrd m a) (rdOwn m a) (bnN m o_ z (rdOrd m a))) o_ z (8 * (rdOrd m a)) 8), rfl, ?_⟩
     replace hS := (hS.to (hS.mem.stepA 0 rfl hA hF)).put (d := 50) (v := vi (vstE (wrcM m (rdAt m a) (rdOrd m a) (rdOwn m a) (bnN m o_ z (rdOrd m a))) o_ z (8 * (rdOrd m a)) 8)) (by decide)
     clear hF
     refine hS.opsC 1 [0] [] fun _ => seg [(4, vi (vstE (wrcM m (rdAt m a) (rdOrd m a) (rdOwn m a) (bnN m o_ z (rdOrd m a))) o_ z (8 * (rdOrd m a)) 8))] [] [] trivial fun ac wd hS => ?_
     refine list_nil_seq ?_
     refine wp_ret ?_
     refine St.retC 0 hS (vi (vstE (wrcM m (rdAt m a) (rdOrd m a) (rdOwn m a) (bnN m o_ z (rdOrd m a))) o_ z (8 * (rdOrd m a)) 8)) [] trivial fun hw => ?_
     refine ⟨F6, retd (vint ?_), (res_eq (r := arR b F6 (vstM (wrcM m (rdAt m a) (rdOrd m a) (rdOwn m a) (bnN m o_ z (rdOrd m a))) o_ z (8 * (rdOrd m a)) 8 (IntKind.wrap .u64 a))) (by exact congrArg _ hM) (hw.res 0)), hw.frA⟩
     all_goals (first | exact hE | (rw [← hE]; unfold bnE; rw [if_pos hz]))

set_option maxRecDepth 100000 in
set_option maxHeartbeats 1000000 in
theorem b_Pop (b : Nat) (F : Nat → Prop) (m : AM) (o_ : Int) (z : Int) (k : Int) (w : World) (hr : (arR b F m).R w) (ho : 0 ≤ o_ ∧ 0 ≤ z ∧ o_ + z ≤ 4294967296) :
    Calls Tryd.prog 30 #[.agg #[pt b 0, vi o_, vi z], vi k] w fun e w' => ∃ (F' : Nat → Prop), e = .returned (.tuple #[.agg #[vi (bqAt m o_ z k), vi (bqOrd m o_ z k), vu (bqOwn m o_ z k), vi 0], vb (bqOk m o_ z k)]) ∧ (arR b F' (bqM m o_ z k)).R w' ∧ Fr w w' F F' := by
 have hr1 := rdOwn_rng m (bnN m o_ z k)
 have hr2 := rdNx_rng m (bnN m o_ z k)
 have hr4 := bnN_rng m o_ z k
 refine enter (args := [.agg #[pt b 0, vi o_, vi z], vi k]) (D := F) (A := [arR b F m]) Tryd.func30 rfl 38 rfl [] (WS.startA (r := arR b F m) hr trivial trivial) fun ac hS => ?_
 refine hS.regS [0, 0, 0] [1] fun ν1 => seg [(2, pt (ν1 0) 0), (4, pt (ν1 1) 0)] [(0, some ((ν1 0), .cells [pt b 0, vi o_, vi z] 67)), (1, some ((ν1 1), .cells [vi 0, vi 0, vu 0, vi 0] 76))] [] trivial fun ac wd hS => ?_
 refine wp_region_seq ?_
 refine hS.opsC 2 [0, 0] [1, 2, 4] fun _ => seg [(9, .agg #[pt b 0, vi o_, vi z]), (10, vi k)] [(0, none), (1, none)] [.e (ν1 0), .e (ν1 0), .e (ν1 0)] trivial fun ac wd hS => ?_
 refine hS.call0 88 #[.agg #[pt b 0, vi o_, vi z], vi k] 11 (b_newest b F m o_ z k _ (hS.mem.res 0) (by first | assumption | omega | (simp_all; done) | (simp_all; omega))) fun ac wd hS => ?_
 refine hS.opsC 1 [0] [1, 2, 4] fun _ => seg [(6, vi (bnN m o_ z k))] [(0, none), (1, none)] [] trivial fun ac wd hS => ?_
 refine list_nil_seq ?_
 refine wp_seq ?_
 refine hS.regS [0, 0] [1, 2, 4, 6] fun _ => seg [(13, vb (((bnN m o_ z k) : Int) == 0))] [(0, none), (1, none)] [] trivial fun ac wd hS => ?_
 refine hS.condC (((bnN m o_ z k) : Int) == 0) (fun hb1o hb1 => ?_) (fun hb1o hb1 => ?_)
 ·
  have hb0 : bnN m o_ z k = 0 := hb1
  have hq := bq_no hb0
  refine hS.regS [0, 100, 0] [4] fun _ => seg [(5, vb false)] [(1, none)] [.e (ν1 1), .e (ν1 1), .e (ν1 1), .e (ν1 1)] trivial fun ac wd hS => ?_
  refine wp_ret ?_
  refine pop_then_ret ?_
  refine St.retC 0 hS (.tuple #[.agg #[vi 0, vi 0, vu 0, vi 0], vb false]) [.e (ν1 1), .e (ν1 1), .e (ν1 1), .e (ν1 1)] trivial fun hw => ?_
  refine ⟨F, retd (tuple2 (agg4 (vint ?_) (vint ?_) (vint ?_) rfl) (vbool ?_)), (res_eq (r := arR b F m) (by exact congrArg _ hq.2) (hw.res 0)), hw.frA⟩
  all_goals (first | exact hq.1.1 | exact hq.1.2.1 | exact hq.1.2.2.1 | exact hq.1.2.2.2)
 ·
  have hb0 : bnN m o_ z k ≠ 0 := hb1
  obtain ⟨hk1, hk2, hk3⟩ := bnN_in hb0
  have hq := bq_yes hb0
  refine wp_skip ?_
  refine pop_then ?_
  refine wp_region_seq ?_
  refine hS.opsC 4 [0, 0, 0, 0] [1, 2, 4] fun _ => seg [(18, pt b 0), (19, vi (bnN m o_ z k))] [(0, none), (1, none)] [.e (ν1 0)] trivial fun ac wd hS => ?_
  refine hS.call0 34 #[pt b 0, vi (bnN m o_ z k)] 20 (chunk_Read b F m (bnN m o_ z k) _ (hS.mem.res 0) ) fun ac wd hS => ?_
  refine hS.opsC 6 [0, 0, 0, 0, 200, 0] [1, 2, 4] fun ν7 => seg [(7, pt (ν7 0) 0)] [(0, none), (1, none), (2, some ((ν7 0), .cells [vi (rdAt m (bnN m o_ z k)), vi (rdOrd m (bnN m o_ z k)), vu (rdOwn m (bnN m o_ z k)), vi (rdNx m (bnN m o_ z k))] 76))] [.e (ν7 0), .e (ν7 0), .e (ν7 0), .e (ν7 0)] trivial fun ac wd hS => ?_
  refine list_nil_seq ?_
  refine wp_region_seq ?_
  refine hS.opsC 7 [0, 0, 0, 20, 0, 200, 0] [2, 4, 7] fun _ => seg [(24, .agg #[pt b 0, vi o_, vi z]), (26, vi (8 * k)), (29, vu (IntKind.wrap .u64 (rdNx m (bnN m o_ z k))))] [(0, none), (1, none), (2, none)] [.e (ν7 0), .p (fit .i64 (8 * k)), .e (ν1 0), .e (ν1 0), .e (ν1 0)] ⟨fit_i64 (by omega), trivial⟩ fun ac wd hS => ?_
  refine hS.callC 66 #[.agg #[pt b 0, vi o_, vi z], vi (8 * k), vi 8, vu (IntKind.wrap .u64 (rdNx m (bnN m o_ z k)))] (vw_Store b F m o_ z (8 * k) 8 (IntKind.wrap .u64 (rdNx m (bnN m o_ z k))) _ (hS.mem.res 0) (by first | assumption | omega | (simp_all; done) | (simp_all; omega))) ?_
  rintro _ wd ⟨F2, rfl, hA, hF⟩
  refine ⟨vi (vstE m o_ z (8 * k) 8), rfl, ?_⟩
  replace hS := (hS.to (hS.mem.stepA 0 rfl hA hF)).put (d := 30) (v := vi (vstE m o_ z (8 * k) 8)) (by decide)
  clear hF
  refine list_nil_seq ?_
  refine hS.regS [0, 200] [2, 4, 7] fun _ => seg [] [(0, none), (1, none), (2, some ((ν7 0), .cells [vi (rdAt m (bnN m o_ z k)), vi (rdOrd m (bnN m o_ z k)), vu (rdOwn m (bnN m o_ z k)), vi 0] 76))] [.e (ν7 0)] trivial fun ac wd hS => ?_
  refine wp_region_seq ?_
  refine hS.opsC 4 [0, 0, 0, 200] [4, 7] fun _ => seg [(34, pt b 0), (35, .agg #[vi (rdAt m (bnN m o_ z k)), vi (rdOrd m (bnN m o_ z k)), vu (rdOwn m (bnN m o_ z k)), vi 0])] [(1, none), (2, none)] [.e (ν7 0), .e (ν7 0), .e (ν7 0), .e (ν7 0), .e (ν1 0)] trivial fun ac wd hS => ?_
  refine hS.callC 33 #[pt b 0, .agg #[vi (rdAt m (bnN m o_ z k)), vi (rdOrd m (bnN m o_ z k)), vu (rdOwn m (bnN m o_ z k)), vi 0]] (chunk_Write b F2 (vstM m o_ z (8 * k) 8 (IntKind.wrap .u64 (rdNx m (bnN m o_ z k)))) (rdAt m (bnN m o_ z k)) (rdOrd m (bnN m o_ z k)) (rdOwn m (bnN m o_ z k)) 0 _ (hS.mem.res 0) (by first | assumption | omega | (simp_all; done) | (simp_all; omega))) ?_
  rintro _ wd ⟨F3, rfl, hA, hF⟩
  refine ⟨vi (wrcE (vstM m o_ z (8 * k) 8 (IntKind.wrap .u64 (rdNx m (bnN m o_ z k)))) (rdAt m (bnN m o_ z k)) (rdOrd m (bnN m o_ z k)) (rdOwn m (bnN m o_ z k)) 0), rfl, ?_⟩
  replace hS := (hS.to (hS.mem.stepA 0 rfl hA hF)).put (d := 36) (v := vi (wrcE (vstM m o_ z (8 * k) 8 (IntKind.wrap .u64 (rdNx m (bnN m o_ z k)))) (rdAt m (bnN m o_ z k)) (rdOrd m (bnN m o_ z k)) (rdOwn m (bnN m o_ z k)) 0)) (by decide)
  clear hF
  refine list_nil_seq ?_
  refine hS.regS [100, 0, 0] [4] fun _ => seg [(5, vb true)] [(0, some ((ν1 1), .cells [vi (rdAt m (bnN m o_ z k)), vi (rdOrd m (bnN m o_ z k)), vu (rdOwn m (bnN m o_ z k)), vi 0] 76))] [.e (ν1 1), .e (ν1 1), .e (ν1 1), .e (ν1 1), .e (ν7 0), .e (ν7 0), .e (ν7 0), .e (ν7 0)] trivial fun ac wd hS => ?_
  refine wp_ret ?_
  refine St.retC 0 hS (.tuple #[.agg #[vi (rdAt m (bnN m o_ z k)), vi (rdOrd m (bnN m o_ z k)), vu (rdOwn m (bnN m o_ z k)), vi 0], vb true]) [.e (ν1 1), .e (ν1 1), .e (ν1 1), .e (ν1 1)] trivial fun hw => ?_
  refine ⟨F3, retd (tuple2 (agg4 (vint ?_) (vint ?_) (vint ?_) rfl) (vbool ?_)), (res_eq (r := arR b F3 (wrcM (vstM m o_ z (8 * k) 8 (IntKind.wrap .u64 (rdNx m (bnN m o_ z k)))) (rdAt m (bnN m o_ z k)) (rdOrd m (bnN m o_ z k)) (rdOwn m (bnN m o_ z k)) 0)) (by exact congrArg _ hq.2) (hw.res 0)), hw.frA⟩
  all_goals (first | exact hq.1.1 | exact hq.1.2.1 | exact hq.1.2.2.1 | exact hq.1.2.2.2)

set_option maxRecDepth 100000 in
set_option maxHeartbeats 1000000 in
theorem law11_open (w : World) :
    Calls Tryd.prog 29 #[] w fun e w' => ∃ (b' : Nat) (F' : Nat → Prop), e = .returned (.tuple #[pt b' 0, .agg #[pt b' 0, vi 100, vi 44], vb true]) ∧ (arR b' F' (comM (AM.new 13) 0 12)).R w' ∧ Fr w w' no F' := by
 refine enter (args := []) (D := no) (A := []) Tryd.func29 rfl 24 rfl [] (WS.startL trivial) fun ac hS => ?_
 refine hS.regS [0, 0, 0] [] fun ν1 => seg [(1, pt (ν1 0) 0)] [(0, some ((ν1 0), .cells [pnil, vi 0, vi 0] 67))] [] trivial fun ac wd hS => ?_
 refine wp_region_seq ?_
 refine hS.callC 9 #[vi 13] (ar_New 13 _  ) ?_
 rintro _ wd ⟨b'1, F2, rfl, hN, hF⟩
 refine ⟨pt b'1 0, rfl, ?_⟩
 replace hS := (hS.to (hS.mem.newA hN hF)).put (d := 7) (v := pt b'1 0) (by decide)
 clear hF
 refine hS.opsC 1 [0] [1] fun _ => seg [(3, pt b'1 0)] [(0, none)] [] trivial fun ac wd hS => ?_
 refine list_nil_seq ?_
 refine wp_region_seq ?_
 refine hS.opsC 1 [0] [1, 3] fun _ => seg [(8, pt b'1 0)] [(0, none)] [] trivial fun ac wd hS => ?_
 refine hS.callC 21 #[pt b'1 0, vi 0, vi 12] (ar_Commit b'1 F2 (AM.new 13) 0 12 _ (hS.mem.res 0) ) ?_
 rintro _ wd ⟨F3, rfl, hA, hF⟩
 refine ⟨vi (comE (AM.new 13) 0 12), rfl, ?_⟩
 replace hS := (hS.to (hS.mem.stepA 0 rfl hA hF)).put (d := 9) (v := vi (comE (AM.new 13) 0 12)) (by decide)
 clear hF
 refine hS.opsC 1 [0] [1, 3] fun _ => seg [(4, vi (comE (AM.new 13) 0 12))] [(0, none)] [] trivial fun ac wd hS => ?_
 refine list_nil_seq ?_
 refine wp_region_seq ?_
 refine hS.opsC 1 [0] [1, 3, 4] fun _ => seg [(11, pt b'1 0)] [(0, none)] [] trivial fun ac wd hS => ?_
 refine hS.call0 23 #[pt b'1 0, vi 100, vi 44] 12 (vw_Of b'1 F3 (comM (AM.new 13) 0 12) 100 44 _ (hS.mem.res 0) (by decide +kernel)) fun ac wd hS => ?_
 refine hS.opsC 6 [0, 0, 0, 0, 100, 0] [1, 3, 4] fun ν6 => seg [(5, pt (ν6 0) 0), (6, vi 0)] [(0, none), (1, some ((ν6 0), .cells [pt b'1 0, vi 100, vi 44] 55))] [.e (ν6 0), .e (ν6 0), .e (ν6 0)] trivial fun ac wd hS => ?_
 refine list_nil_seq ?_
 refine wp_region_seq ?_
 refine hS.opsC 2 [0, 100] [1, 4, 6] fun _ => seg [(15, pt b'1 0), (16, .agg #[pt b'1 0, vi 100, vi 44])] [(0, none)] [.e (ν6 0), .e (ν6 0), .e (ν6 0)] trivial fun ac wd hS => ?_
 refine hS.call0 39 #[.agg #[pt b'1 0, vi 100, vi 44]] 17 (b_Open b'1 100 44 _  ) fun ac wd hS => ?_
 refine hS.opsC 9 [0, 0, 0, 3, 3, 80, 0, 0, 0] [1] fun _ => seg [(0, pt b'1 0), (2, vb ((((comE (AM.new 13) 0 12) : Int) == 0) && true))] [(0, some ((ν1 0), .cells [pt b'1 0, vi 100, vi 44] 67))] [.e (ν1 0), .e (ν1 0), .e (ν1 0)] trivial fun ac wd hS => ?_
 refine list_nil_seq ?_
 refine wp_ret ?_
 refine St.retC 0 hS (.tuple #[pt b'1 0, .agg #[pt b'1 0, vi 100, vi 44], vb ((((comE (AM.new 13) 0 12) : Int) == 0) && true)]) [.e (ν1 0), .e (ν1 0), .e (ν1 0)] trivial fun hw => ?_
 refine ⟨b'1, F3, retd (tuple3 rfl rfl (vbool ?_)), (hw.res 0), hw.frA⟩
 all_goals (first | rfl | decide +kernel)

set_option maxRecDepth 100000 in
set_option maxHeartbeats 1000000 in
theorem law11_awake (w : World) (hh0 : HE.holds w 0 (.fn 0 64 dbT)) :
    Calls Tryd.prog 28 #[] w fun e w' => e = .returned (vb true) ∧ Fr w w' no no := by
 refine enter (args := []) (D := no) (A := []) Tryd.func28 rfl 51 rfl [(0, .fn 0 64 dbT)] (WS.startL ⟨⟨rfl, hh0⟩, trivial⟩) fun ac hS => ?_
 refine hS.regS [0] [] fun _ => seg [] [(0, none)] [] trivial fun ac wd hS => ?_
 refine wp_region_seq ?_
 refine hS.callC 29 #[] (law11_open  _  ) ?_
 rintro _ wd ⟨b'1, F2, rfl, hN, hF⟩
 refine ⟨.tuple #[pt b'1 0, .agg #[pt b'1 0, vi 100, vi 44], vb true], rfl, ?_⟩
 replace hS := (hS.to (hS.mem.newA hN hF)).put (d := 9) (v := .tuple #[pt b'1 0, .agg #[pt b'1 0, vi 100, vi 44], vb true]) (by decide)
 clear hF
 refine hS.opsC 8 [0, 0, 0, 0, 0, 0, 100, 0] [] fun ν2 => seg [(1, pt b'1 0), (2, pt (ν2 0) 0), (3, vb true)] [(0, none), (1, some ((ν2 0), .cells [pt b'1 0, vi 100, vi 44] 67))] [.e (ν2 0), .e (ν2 0), .e (ν2 0)] trivial fun ac wd hS => ?_
 refine list_nil_seq ?_
 refine wp_seq ?_
 refine hS.regS [0, 0, 0] [1, 2, 3] fun ν3 => seg [(13, sc (ν3 0) 0 2 2), (14, vi 2), (15, vi 0)] [(0, none), (1, none), (2, some ((ν3 0), .cells [vi 4096, vi 8192] 3))] [] trivial fun ac wd hS => ?_
 refine wp_block ?_
 refine wp_loop_rounds 3 ?_
 refine rounds_in ?_
 refine hS.regS [0] [1, 2, 3, 13, 14, 15] fun _ => seg [(16, vb true)] [(0, none), (1, none), (2, none)] [] trivial fun ac wd hS => ?_
 refine wp_seq ?_
 refine hS.condT ?_
 refine wp_skip ?_
 refine pop_then ?_
 refine wp_seq ?_
 refine wp_block ?_
 refine hS.regS [0, 200, 0] [1, 2, 3, 13, 14, 15] fun _ => seg [(5, vi 4096)] [(0, none), (1, none), (2, none)] [.e (ν3 0)] trivial fun ac wd hS => ?_
 refine wp_region_lit ?_
 refine hS.opsC 2 [0, 0] [1, 2, 3, 5, 13, 14, 15] fun _ => seg [(20, vb true)] [(0, none), (1, none), (2, none)] [] trivial fun ac wd hS => ?_
 refine hS.opsC 3 [1, 1, 1] [1, 2, 3, 5, 13, 14, 15, 20] fun _ => seg [(21, pt b'1 0), (23, .agg #[vi 4096, vi 0, vu 0, vi 0])] [(0, none), (1, none), (2, none)] [.t true, .t true, .t true] trivial fun ac wd hS => ?_
 refine hS.callG true 33 #[pt b'1 0, .agg #[vi 4096, vi 0, vu 0, vi 0]] (chunk_Write b'1 F2 (comM (AM.new 13) 0 12) 4096 0 0 0 _ (hS.mem.res 0) (by decide)) ?_
 rintro _ wd ⟨F3, rfl, hA, hF⟩
 refine ⟨vi (wrcE (comM (AM.new 13) 0 12) 4096 0 0 0), rfl, ?_⟩
 replace hS := (hS.to (hS.mem.stepA 0 rfl hA hF)).put (d := 24) (v := vi (wrcE (comM (AM.new 13) 0 12) 4096 0 0 0)) (by decide)
 clear hF
 replace hS := hS.fix 24 (vi 0) (show (vi (wrcE (comM (AM.new 13) 0 12) 4096 0 0 0) : Value) = vi 0 from (vint (by decide +kernel)))
 refine hS.opsC 3 [1, 70, 0] [1, 2, 3, 5, 13, 14, 15] fun _ => seg [(27, vb true)] [(0, none), (1, none), (2, none)] [.t true, .t true] trivial fun ac wd hS => ?_
 refine hS.opsC 2 [101, 1] [1, 2, 3, 13, 14, 15, 27] fun _ => seg [(28, .agg #[pt b'1 0, vi 100, vi 44]), (29, vi 4096)] [(0, none), (1, none), (2, none)] [.t true, .t true, .e (ν2 0), .e (ν2 0), .e (ν2 0)] trivial fun ac wd hS => ?_
 refine hS.callG true 35 #[.agg #[pt b'1 0, vi 100, vi 44], vi 4096] (b_Push b'1 F3 (wrcM (comM (AM.new 13) 0 12) 4096 0 0 0) 100 44 4096 _ (hS.mem.res 0) (by decide)) ?_
 rintro _ wd ⟨F4, rfl, hA, hF⟩
 refine ⟨vi (bpE (wrcM (comM (AM.new 13) 0 12) 4096 0 0 0) 100 44 4096), rfl, ?_⟩
 replace hS := (hS.to (hS.mem.stepA 0 rfl hA hF)).put (d := 30) (v := vi (bpE (wrcM (comM (AM.new 13) 0 12) 4096 0 0 0) 100 44 4096)) (by decide)
 clear hF
 replace hS := hS.fix 30 (vi 0) (show (vi (bpE (wrcM (comM (AM.new 13) 0 12) 4096 0 0 0) 100 44 4096) : Value) = vi 0 from (vint (by decide +kernel)))
 refine hS.opsC 3 [1, 70, 0] [1, 2, 13, 14, 15] fun _ => seg [(3, vb true)] [(0, none), (1, none), (2, none)] [.t true, .t true] trivial fun ac wd hS => ?_
 refine list_nil ?_
 refine pop_block ?_
 refine pop_then ?_
 refine hS.regC [0, 0] [1, 2, 3, 13, 14] fun _ => seg [(15, vi 1)] [(0, none), (1, none), (2, none)] [] trivial fun ac wd hS => ?_
 refine pop_then ?_
 refine rounds_in ?_
 refine hS.regS [0] [1, 2, 3, 13, 14, 15] fun _ => seg [(16, vb true)] [(0, none), (1, none), (2, none)] [] trivial fun ac wd hS => ?_
 refine wp_seq ?_
 refine hS.condT ?_
 refine wp_skip ?_
 refine pop_then ?_
 refine wp_seq ?_
 refine wp_block ?_
 refine hS.regS [0, 200, 0] [1, 2, 3, 13, 14, 15] fun _ => seg [(5, vi 8192)] [(0, none), (1, none), (2, none)] [.e (ν3 0)] trivial fun ac wd hS => ?_
 refine wp_region_lit ?_
 refine hS.opsC 2 [0, 0] [1, 2, 3, 5, 13, 14, 15] fun _ => seg [(20, vb true)] [(0, none), (1, none), (2, none)] [] trivial fun ac wd hS => ?_
 refine hS.opsC 3 [1, 1, 1] [1, 2, 3, 5, 13, 14, 15, 20] fun _ => seg [(21, pt b'1 0), (23, .agg #[vi 8192, vi 0, vu 0, vi 0])] [(0, none), (1, none), (2, none)] [.t true, .t true, .t true] trivial fun ac wd hS => ?_
 refine hS.callG true 33 #[pt b'1 0, .agg #[vi 8192, vi 0, vu 0, vi 0]] (chunk_Write b'1 F4 (bpM (wrcM (comM (AM.new 13) 0 12) 4096 0 0 0) 100 44 4096) 8192 0 0 0 _ (hS.mem.res 0) (by decide)) ?_
 rintro _ wd ⟨F5, rfl, hA, hF⟩
 refine ⟨vi (wrcE (bpM (wrcM (comM (AM.new 13) 0 12) 4096 0 0 0) 100 44 4096) 8192 0 0 0), rfl, ?_⟩
 replace hS := (hS.to (hS.mem.stepA 0 rfl hA hF)).put (d := 24) (v := vi (wrcE (bpM (wrcM (comM (AM.new 13) 0 12) 4096 0 0 0) 100 44 4096) 8192 0 0 0)) (by decide)
 clear hF
 replace hS := hS.fix 24 (vi 0) (show (vi (wrcE (bpM (wrcM (comM (AM.new 13) 0 12) 4096 0 0 0) 100 44 4096) 8192 0 0 0) : Value) = vi 0 from (vint (by decide +kernel)))
 refine hS.opsC 3 [1, 70, 0] [1, 2, 3, 5, 13, 14, 15] fun _ => seg [(27, vb true)] [(0, none), (1, none), (2, none)] [.t true, .t true] trivial fun ac wd hS => ?_
 refine hS.opsC 2 [101, 1] [1, 2, 3, 13, 14, 15, 27] fun _ => seg [(28, .agg #[pt b'1 0, vi 100, vi 44]), (29, vi 8192)] [(0, none), (1, none), (2, none)] [.t true, .t true, .e (ν2 0), .e (ν2 0), .e (ν2 0)] trivial fun ac wd hS => ?_
 refine hS.callG true 35 #[.agg #[pt b'1 0, vi 100, vi 44], vi 8192] (b_Push b'1 F5 (wrcM (bpM (wrcM (comM (AM.new 13) 0 12) 4096 0 0 0) 100 44 4096) 8192 0 0 0) 100 44 8192 _ (hS.mem.res 0) (by decide)) ?_
 rintro _ wd ⟨F6, rfl, hA, hF⟩
 refine ⟨vi (bpE (wrcM (bpM (wrcM (comM (AM.new 13) 0 12) 4096 0 0 0) 100 44 4096) 8192 0 0 0) 100 44 8192), rfl, ?_⟩
 replace hS := (hS.to (hS.mem.stepA 0 rfl hA hF)).put (d := 30) (v := vi (bpE (wrcM (bpM (wrcM (comM (AM.new 13) 0 12) 4096 0 0 0) 100 44 4096) 8192 0 0 0) 100 44 8192)) (by decide)
 clear hF
 replace hS := hS.fix 30 (vi 0) (show (vi (bpE (wrcM (bpM (wrcM (comM (AM.new 13) 0 12) 4096 0 0 0) 100 44 4096) 8192 0 0 0) 100 44 8192) : Value) = vi 0 from (vint (by decide +kernel)))
 refine hS.opsC 3 [1, 70, 0] [1, 2, 13, 14, 15] fun _ => seg [(3, vb true)] [(0, none), (1, none), (2, none)] [.t true, .t true] trivial fun ac wd hS => ?_
 refine list_nil ?_
 refine pop_block ?_
 refine pop_then ?_
 refine hS.regC [0, 0] [1, 2, 3, 13, 14] fun _ => seg [(15, vi 2)] [(0, none), (1, none), (2, none)] [] trivial fun ac wd hS => ?_
 refine pop_then ?_
 refine rounds_in ?_
 refine hS.regS [0] [1, 2, 3, 13, 14, 15] fun _ => seg [(16, vb false)] [(0, none), (1, none), (2, none)] [] trivial fun ac wd hS => ?_
 refine wp_seq ?_
 refine hS.condF ?_
 refine wp_exit ?_
 refine pop_then_exit ?_
 refine pop_then_exit ?_
 refine pop_block_hit ?_
 refine pop_then ?_
 refine wp_region_seq ?_
 refine hS.opsC 1 [100] [3] fun _ => seg [(35, .agg #[pt b'1 0, vi 100, vi 44])] [(0, none)] [.e (ν2 0), .e (ν2 0), .e (ν2 0)] trivial fun ac wd hS => ?_
 refine hS.callC 30 #[.agg #[pt b'1 0, vi 100, vi 44], vi 0] (b_Pop b'1 F6 (bpM (wrcM (bpM (wrcM (comM (AM.new 13) 0 12) 4096 0 0 0) 100 44 4096) 8192 0 0 0) 100 44 8192) 100 44 0 _ (hS.mem.res 0) (by decide)) ?_
 rintro _ wd ⟨F7, rfl, hA, hF⟩
 refine ⟨.tuple #[.agg #[vi (bqAt (bpM (wrcM (bpM (wrcM (comM (AM.new 13) 0 12) 4096 0 0 0) 100 44 4096) 8192 0 0 0) 100 44 8192) 100 44 0), vi (bqOrd (bpM (wrcM (bpM (wrcM (comM (AM.new 13) 0 12) 4096 0 0 0) 100 44 4096) 8192 0 0 0) 100 44 8192) 100 44 0), vu (bqOwn (bpM (wrcM (bpM (wrcM (comM (AM.new 13) 0 12) 4096 0 0 0) 100 44 4096) 8192 0 0 0) 100 44 8192) 100 44 0), vi 0], vb (bqOk (bpM (wrcM (bpM (wrcM (comM (AM.new 13) 0 12) 4096 0 0 0) 100 44 4096) 8192 0 0 0) 100 44 8192) 100 44 0)], rfl, ?_⟩
 replace hS := (hS.to (hS.mem.stepA 0 rfl hA hF)).put (d := 36) (v := .tuple #[.agg #[vi (bqAt (bpM (wrcM (bpM (wrcM (comM (AM.new 13) 0 12) 4096 0 0 0) 100 44 4096) 8192 0 0 0) 100 44 8192) 100 44 0), vi (bqOrd (bpM (wrcM (bpM (wrcM (comM (AM.new 13) 0 12) 4096 0 0 0) 100 44 4096) 8192 0 0 0) 100 44 8192) 100 44 0), vu (bqOwn (bpM (wrcM (bpM (wrcM (comM (AM.new 13) 0 12) 4096 0 0 0) 100 44 4096) 8192 0 0 0) 100 44 8192) 100 44 0), vi 0], vb (bqOk (bpM (wrcM (bpM (wrcM (comM (AM.new 13) 0 12) 4096 0 0 0) 100 44 4096) 8192 0 0 0) 100 44 8192) 100 44 0)]) (by decide)
 clear hF
 replace hS := hS.fix 36 (.tuple #[.agg #[vi 8192, vi (bqOrd (bpM (wrcM (bpM (wrcM (comM (AM.new 13) 0 12) 4096 0 0 0) 100 44 4096) 8192 0 0 0) 100 44 8192) 100 44 0), vu (bqOwn (bpM (wrcM (bpM (wrcM (comM (AM.new 13) 0 12) 4096 0 0 0) 100 44 4096) 8192 0 0 0) 100 44 8192) 100 44 0), vi 0], vb true]) (show (.tuple #[.agg #[vi (bqAt (bpM (wrcM (bpM (wrcM (comM (AM.new 13) 0 12) 4096 0 0 0) 100 44 4096) 8192 0 0 0) 100 44 8192) 100 44 0), vi (bqOrd (bpM (wrcM (bpM (wrcM (comM (AM.new 13) 0 12) 4096 0 0 0) 100 44 4096) 8192 0 0 0) 100 44 8192) 100 44 0), vu (bqOwn (bpM (wrcM (bpM (wrcM (comM (AM.new 13) 0 12) 4096 0 0 0) 100 44 4096) 8192 0 0 0) 100 44 8192) 100 44 0), vi 0], vb (bqOk (bpM (wrcM (bpM (wrcM (comM (AM.new 13) 0 12) 4096 0 0 0) 100 44 4096) 8192 0 0 0) 100 44 8192) 100 44 0)] : Value) = .tuple #[.agg #[vi 8192, vi (bqOrd (bpM (wrcM (bpM (wrcM (comM (AM.new 13) 0 12) 4096 0 0 0) 100 44 4096) 8192 0 0 0) 100 44 8192) 100 44 0), vu (bqOwn (bpM (wrcM (bpM (wrcM (comM (AM.new 13) 0 12) 4096 0 0 0) 100 44 4096) 8192 0 0 0) 100 44 8192) 100 44 0), vi 0], vb true] from (tuple2 (agg4 (vint (by decide +kernel)) rfl rfl rfl) (vbool (by decide +kernel))))
 refine hS.opsC 6 [0, 0, 0, 0, 100, 0] [3] fun ν22 => seg [(6, pt (ν22 0) 0), (7, vb true)] [(0, none), (1, some ((ν22 0), .cells [vi 8192, vi (bqOrd (bpM (wrcM (bpM (wrcM (comM (AM.new 13) 0 12) 4096 0 0 0) 100 44 4096) 8192 0 0 0) 100 44 8192) 100 44 0), vu (bqOwn (bpM (wrcM (bpM (wrcM (comM (AM.new 13) 0 12) 4096 0 0 0) 100 44 4096) 8192 0 0 0) 100 44 8192) 100 44 0), vi 0] 76))] [.e (ν22 0), .e (ν22 0), .e (ν22 0), .e (ν22 0)] trivial fun ac wd hS => ?_
 refine list_nil_seq ?_
 refine wp_region_seq ?_
 refine hS.call0 87 #[] 39 (law10_Awake  _ (hS.mem.get 0 0 (.fn 0 64 dbT)) ) fun ac wd hS => ?_
 refine hS.opsC 12 [0, 1, 70, 0, 1, 70, 0, 1, 101, 1, 70, 0] [] fun _ => seg [(0, vb true)] [(0, none)] [.t true, .t true, .t true, .e (ν22 0), .t true, .t true, .t true, .t true, .t true] trivial fun ac wd hS => ?_
 refine list_nil_seq ?_
 refine wp_ret ?_
 refine St.retC 0 hS (vb true) [] trivial fun hw => ?_
 refine ⟨retd rfl, hw.fr0⟩

end Go.Proofs.YtdjhdcaanmkblaaDoor.K

/-
  Lists of what is to be done, plainly.
-/
namespace Go.Proofs.YtdjhdcaanmkblaaDoor.K
set_option linter.unusedSimpArgs false
set_option linter.unusedVariables false

section
variable {c : Cx} {H : Heap} {A : List Res} {w : World}
/-- What has not grown is nothing. -/
theorem WS.grNil {e : TypeId} {sz m : Nat} {v : Value} {F : Nat → Prop} {f : Nat → Value} (h : WS c H [grR e sz v F (m, f)] w) (hm : m = 0) : v = vnil ∧ WS c H [] w := by
  have hB : GrV e sz w v F m f := h.res 0
  refine ⟨?_, h.dropA [] (fun r hr => nomatch hr) List.Pairwise.nil⟩
  rcases hB with ⟨h1, _, _⟩ | ⟨g, cap, _, h2, _⟩
  · exact h1
  · omega
end

/-- A slot's two numbers, and what they tell. -/
def cN0 (m : AM) (o i : Int) : Int := getW oRec m (o + i * 24) 24 0
def cN1 (m : AM) (o i : Int) : Int := getW oRec m (o + i * 24) 24 1
def cId (m : AM) (o i : Int) : Int := cN0 m o i / 65536
def cKd (m : AM) (o i : Int) : Int := IntKind.wrap .u8 (cN0 m o i)
def cLv (m : AM) (o i : Int) : Int := IntKind.wrap .u8 (cN0 m o i / 256)
def cEnt (m : AM) (o : Int) (i : Nat) : Int × Int × Int × Int := (cId m o (i : Int), cKd m o (i : Int), cLv m o (i : Int), cN1 m o (i : Int))
def cNo (m : AM) (o : Int) (i : Nat) : Bool := cId m o (i : Int) == 0
def cSl (z : Int) : Int := z / 24
/-- How many entries there are. -/
def cCnt (m : AM) (o z : Int) : Nat := (fstN (cNo m o) (cSl z).toNat).getD (cSl z).toNat
theorem cCnt_at {m : AM} {o z x : Int} (h : NoUp (cNo m o) x) (h0 : 0 ≤ x) (h1 : x < cSl z) (hf : cId m o x = 0) : cCnt m o z = x.toNat := by
  unfold cCnt
  rw [fstN_at h h0 (by omega) (by unfold cNo; rw [Int.toNat_of_nonneg h0, hf]; rfl)]; rfl
theorem cCnt_end {m : AM} {o z x : Int} (h : NoUp (cNo m o) x) (h0 : 0 ≤ x) (h1 : x ≤ cSl z) (h2 : ¬ x < cSl z) : cCnt m o z = x.toNat := by
  unfold cCnt
  rw [fstN_none h (by omega)]; show (cSl z).toNat = _; omega
/-- Where a number stands; -1. -/
def cIs (m : AM) (o id : Int) (i : Nat) : Bool := cId m o (i : Int) == id
def cFind (m : AM) (o z id : Int) : Int := match fstN (cIs m o id) (cCnt m o z) with | some i => (i : Int) | none => -1
theorem cFind_at {m : AM} {o z id x : Int} (h : NoUp (cIs m o id) x) (h0 : 0 ≤ x) (h1 : x < ((cCnt m o z : Nat) : Int)) (hf : cId m o x = id) : x = cFind m o z id := by
  unfold cFind
  rw [fstN_at h h0 h1 (by unfold cIs; rw [Int.toNat_of_nonneg h0, hf]; simp)]
  show x = ((x.toNat : Nat) : Int); omega
theorem cFind_no {m : AM} {o z id x : Int} (h : NoUp (cIs m o id) x) (h1 : ((cCnt m o z : Nat) : Int) ≤ x) : -1 = cFind m o z id := by
  unfold cFind
  rw [fstN_none h h1]
/-- A slot is laid. -/
def eN0 (id kd lv : Int) : Int := ior .u64 (ior .u64 (IntKind.wrap .u64 (id * 2 ^ 16)) (IntKind.wrap .u64 (lv * 2 ^ 8))) kd
def eNum (id kd lv ar : Int) (i : Nat) : Nat := if i = 0 then (eN0 id kd lv).toNat else ar.toNat
theorem eN0_rng (id kd lv : Int) : 0 ≤ eN0 id kd lv ∧ eN0 id kd lv ≤ 18446744073709551615 := by unfold eN0; exact wrap_u64_rng _
def cPutM (m : AM) (o i id kd lv ar : Int) : AM := pRM oRec 2 (eNum id kd lv ar) m (o + i * 24) 24
theorem thr_same {m m' : AM} (h1 : m'.cap = m.cap) (h2 : m'.com = m.com) (a n : Int) : thr m' a n = thr m a n := by unfold thr inB; rw [h1, h2]
theorem vstM_com (m : AM) (o z a k v : Int) : (vstM m o z a k v).cap = m.cap ∧ (vstM m o z a k v).com = m.com := by
  unfold vstM stM putM laidM
  (repeat' split) <;> exact ⟨rfl, rfl⟩
theorem setM_com (l : List Int) (m : AM) (o z i x : Int) : (setM l m o z i x).cap = m.cap ∧ (setM l m o z i x).com = m.com := by
  unfold setM
  split
  · split
    · exact vstM_com _ _ _ _ _ _
    · exact ⟨rfl, rfl⟩
  · exact ⟨rfl, rfl⟩
theorem putA_com (l : List Int) (o z : Int) (nums : Nat → Nat) (m : AM) : ∀ k, (putA l o z nums m k).cap = m.cap ∧ (putA l o z nums m k).com = m.com
  | 0 => ⟨rfl, rfl⟩
  | k + 1 => by
    have h := putA_com l o z nums m k
    have h2 := setM_com l (putA l o z nums m k) o z (k : Int) ((nums k : Nat) : Int)
    exact ⟨h2.1.trans h.1, h2.2.trans h.2⟩
theorem pRM_com (l : List Int) (nn : Nat) (nums : Nat → Nat) (m : AM) (o z : Int) : (pRM l nn nums m o z).cap = m.cap ∧ (pRM l nn nums m o z).com = m.com := by
  unfold pRM
  split
  · exact ⟨rfl, rfl⟩
  · split
    · split
      · exact putA_com _ _ _ _ _ _
      · exact ⟨rfl, rfl⟩
    · exact ⟨rfl, rfl⟩
theorem cPutM_thr (m : AM) (o i id kd lv ar a n : Int) : thr (cPutM m o i id kd lv ar) a n = thr m a n := thr_same (pRM_com _ _ _ _ _ _).1 (pRM_com _ _ _ _ _ _).2 a n
def addE (m : AM) (o z id : Int) : Int := if id = 0 ∨ 281474976710655 < id then 2 else if 0 ≤ cFind m o z id then 9 else if cSl z - ((cCnt m o z : Nat) : Int) = 0 then 10 else 0
def addM (m : AM) (o z id kd lv ar : Int) : AM := if addE m o z id = 0 then cPutM m o ((cCnt m o z : Nat) : Int) id kd lv ar else m
theorem add_1 {m : AM} {o z id kd lv ar : Int} (h : id = 0 ∨ 281474976710655 < id) : 2 = addE m o z id ∧ m = addM m o z id kd lv ar := by
  have e : addE m o z id = 2 := by unfold addE; rw [if_pos h]
  unfold addM; rw [e]; exact ⟨rfl, rfl⟩
theorem add_2 {m : AM} {o z id kd lv ar : Int} (h : ¬ (id = 0 ∨ 281474976710655 < id)) (h2 : 0 ≤ cFind m o z id) : 9 = addE m o z id ∧ m = addM m o z id kd lv ar := by
  have e : addE m o z id = 9 := by unfold addE; rw [if_neg h, if_pos h2]
  unfold addM; rw [e]; exact ⟨rfl, rfl⟩
theorem add_3 {m : AM} {o z id kd lv ar : Int} (h : ¬ (id = 0 ∨ 281474976710655 < id)) (h2 : ¬ 0 ≤ cFind m o z id) (h3 : cSl z - ((cCnt m o z : Nat) : Int) = 0) : 10 = addE m o z id ∧ m = addM m o z id kd lv ar := by
  have e : addE m o z id = 10 := by unfold addE; rw [if_neg h, if_neg h2, if_pos h3]
  unfold addM; rw [e]; exact ⟨rfl, rfl⟩
theorem add_4 {m : AM} {o z id kd lv ar : Int} (h : ¬ (id = 0 ∨ 281474976710655 < id)) (h2 : ¬ 0 ≤ cFind m o z id) (h3 : ¬ cSl z - ((cCnt m o z : Nat) : Int) = 0) : 0 = addE m o z id ∧ cPutM m o ((cCnt m o z : Nat) : Int) id kd lv ar = addM m o z id kd lv ar := by
  have e : addE m o z id = 0 := by unfold addE; rw [if_neg h, if_neg h2, if_neg h3]
  unfold addM; rw [e]; exact ⟨rfl, rfl⟩
def popM (m : AM) (o z : Int) : AM := if cCnt m o z = 0 then m else cPutM m o (((cCnt m o z : Nat) : Int) - 1) 0 0 0 0
def pIf (m : AM) (o z x : Int) : Int := if cCnt m o z = 0 then 0 else x
def popB (m : AM) (o z : Int) : Bool := !(cCnt m o z == 0)
theorem pp_no {m : AM} {o z : Int} (h : cCnt m o z = 0) : m = popM m o z ∧ (∀ x, 0 = pIf m o z x) ∧ false = popB m o z := by unfold popM pIf popB; rw [if_pos h]; exact ⟨rfl, fun x => by rw [if_pos h], by rw [h]; rfl⟩
theorem pp_yes {m : AM} {o z : Int} (h : 0 < cCnt m o z) : cPutM m o (((cCnt m o z : Nat) : Int) - 1) 0 0 0 0 = popM m o z ∧ (∀ x, x = pIf m o z x) ∧ true = popB m o z := by
  have h2 : cCnt m o z ≠ 0 := by omega
  unfold popM pIf popB; rw [if_neg h2]; exact ⟨rfl, fun x => by rw [if_neg h2], by simpa using h2⟩
end Go.Proofs.YtdjhdcaanmkblaaDoor.K

/-
  What is laid in fields is told by them, plainly.
-/
namespace Go.Proofs.YtdjhdcaanmkblaaDoor.K
set_option linter.unusedSimpArgs false
set_option linter.unusedVariables false

theorem comM_zero {m : AM} (h : ∀ x, m.mem x = 0) (f n : Int) : ∀ x, (comM m f n).mem x = 0 := by
  intro x
  unfold comM
  split
  · exact h x
  · split
    · exact h x
    · show zeroP m.mem _ _ x = 0
      unfold zeroP
      split
      · rfl
      · exact h x
theorem stM_eq {m : AM} {a k x : Int} (hw : wholeB k = true) (ht : thr m a k = true) : stM m a k x = laidM m a.toNat (bs (stB x) k.toNat) := by
  obtain ⟨h1, h8⟩ := wholeB_le hw
  unfold stM putM; rw [if_pos hw, bs_size, show ((k.toNat : Nat) : Int) = k by omega, if_pos ht]
theorem ld_st {m : AM} {a k x : Int} (hw : wholeB k = true) (ht : thr m a k = true) (hx : 0 ≤ x) : ldV (stM m a k x) a k = x % 2 ^ (8 * k.toNat) := by
  obtain ⟨h1, h8⟩ := wholeB_le hw
  obtain ⟨n, rfl⟩ := Int.eq_ofNat_of_zero_le hx
  rw [stM_eq hw ht]
  have ht2 : thr (laidM m a.toNat (bs (stB (n : Int)) k.toNat)) a k = true := (thr_same (m := m) (m' := laidM m a.toNat (bs (stB (n : Int)) k.toNat)) rfl rfl a k).trans ht
  rw [← ld_v4 hw ht2, byt_laid ht2 (bs_size _ _), ldN_num (by omega) k.toNat (Nat.le_refl _)]
  rw [Int.natCast_emod, Int.natCast_pow]; rfl
theorem mem_st {m : AM} {a k x : Int} (hw : wholeB k = true) (ht : thr m a k = true) {y : Nat} (hy : (y : Int) < a ∨ a + k ≤ (y : Int)) : (stM m a k x).mem y = m.mem y := by
  obtain ⟨h1, h8⟩ := wholeB_le hw
  obtain ⟨g1, _⟩ := inB_facts (thr_in ht)
  rw [stM_eq hw ht]
  show laidF m.mem a.toNat _ _ y = _
  unfold laidF
  rw [bs_size, if_neg (by omega)]
theorem ld_mem {m m' : AM} {a k : Int} (hc : m'.cap = m.cap) (hm : m'.com = m.com) (h : ∀ y : Nat, a ≤ (y : Int) → (y : Int) < a + k → m'.mem y = m.mem y) : ldV m' a k = ldV m a k := by
  unfold ldV
  rw [thr_same hc hm]
  cases ht : thr m a k with
  | false => simp
  | true =>
    have hb : bytS m' a k = bytS m a k := by
      obtain ⟨g1, _⟩ := inB_facts (thr_in ht)
      unfold bytS
      rw [thr_same hc hm, ht]
      exact bs_congr fun j hj => h _ (by omega) (by omega)
    rw [hb]
theorem stM_com (m : AM) (a k x : Int) : (stM m a k x).cap = m.cap ∧ (stM m a k x).com = m.com := by
  have hp : ∀ (a : Int) (s : ByteArray), (putM m a s).cap = m.cap ∧ (putM m a s).com = m.com := fun a s => by
    unfold putM
    split
    · exact ⟨rfl, rfl⟩
    · exact ⟨rfl, rfl⟩
  unfold stM
  split
  · exact hp _ _
  · exact ⟨rfl, rfl⟩
theorem ld_far {m : AM} {a k x a' k' : Int} (hw : wholeB k = true) (ht : thr m a k = true) (h : a' + k' ≤ a ∨ a + k ≤ a') : ldV (stM m a k x) a' k' = ldV m a' k' := by
  obtain ⟨h1, h8⟩ := wholeB_le hw
  exact ld_mem (stM_com _ _ _ _).1 (stM_com _ _ _ _).2 fun y y1 y2 => mem_st hw ht (by omega)
theorem okw_whole {w : Int} (h : w = 1 ∨ w = 2 ∨ w = 4 ∨ w = 8) : wholeB w = true := by rcases h with rfl | rfl | rfl | rfl <;> rfl

/-- A view with room for a record. -/
structure RecV (l : List Int) (m : AM) (o z : Int) : Prop where
  ok : okW l
  there : thr m o z = true
  room : sumT l l.length ≤ z
namespace RecV
variable {l : List Int} {m : AM} {o z i x : Int}
theorem same {m' : AM} (h : RecV l m o z) (h1 : m'.cap = m.cap) (h2 : m'.com = m.com) : RecV l m' o z := ⟨h.ok, (thr_same h1 h2 o z).trans h.there, h.room⟩
theorem fld (h : RecV l m o z) (hi : hasW l i = true) : wholeB (l.getD i.toNat 0) = true ∧ 0 ≤ sumT l i.toNat ∧ sumT l i.toNat + l.getD i.toNat 0 ≤ z ∧ 1 ≤ l.getD i.toNat 0 ∧ atW l i = sumT l i.toNat := by
  have hh := hasW_in hi
  have h1 := okW_at h.ok (i := i.toNat) (by omega)
  have h2 := sumT_bd h.ok i.toNat
  have h3 := sumT_mono h.ok (i := i.toNat) (n := l.length) (by omega)
  exact ⟨okw_whole h1, h2.1, by have := h.room; omega, by omega, (atW_in hh).symm⟩
theorem at_ (h : RecV l m o z) (hi : hasW l i = true) : thr m (o + sumT l i.toNat) (l.getD i.toNat 0) = true ∧ vchE z (atW l i) (l.getD i.toNat 0) = 0 := by
  obtain ⟨f1, f2, f3, f4, f5⟩ := h.fld hi
  refine ⟨thr_sub h.there (by omega) (by omega) (by omega), ?_⟩
  rw [f5]; exact (vch_yes (by omega)).symm
theorem get (h : RecV l m o z) (hi : hasW l i = true) : getW l m o z i = ldV m (o + sumT l i.toNat) (l.getD i.toNat 0) := by
  obtain ⟨f1, f2, f3, f4, f5⟩ := h.fld hi
  obtain ⟨a1, a2⟩ := h.at_ hi
  unfold getW vldV
  rw [hi, if_pos rfl, f1, if_pos rfl, if_pos a2, f5]
theorem set (h : RecV l m o z) (hi : hasW l i = true) (hf : fitW (l.getD i.toNat 0) x = true) : setM l m o z i x = stM m (o + sumT l i.toNat) (l.getD i.toNat 0) x ∧ setE l m o z i x = 0 := by
  obtain ⟨f1, f2, f3, f4, f5⟩ := h.fld hi
  obtain ⟨a1, a2⟩ := h.at_ hi
  unfold setM setE vstM vstE stE
  rw [hi, if_pos rfl, if_pos rfl, hf, if_pos rfl, if_pos rfl, f1, if_pos rfl, if_pos rfl, if_pos a2, if_pos a2, f5, if_pos rfl, chk_thr a1]
  exact ⟨rfl, rfl⟩
theorem fit_mod {w : Int} (hw : w = 1 ∨ w = 2 ∨ w = 4 ∨ w = 8) (hx : 0 ≤ x ∧ x ≤ 18446744073709551615) (hf : fitW w x = true) : x % 2 ^ (8 * w.toNat) = x := by
  unfold fitW at hf
  rcases hw with rfl | rfl | rfl | rfl
  · have e : (8 * (1 : Int)).toNat = 8 := rfl
    simp [e] at hf
    show x % 2 ^ 8 = x
    omega
  · have e : (8 * (2 : Int)).toNat = 16 := rfl
    simp [e] at hf
    show x % 2 ^ 16 = x
    omega
  · have e : (8 * (4 : Int)).toNat = 32 := rfl
    simp [e] at hf
    show x % 2 ^ 32 = x
    omega
  · show x % 2 ^ 64 = x
    omega
theorem get_same (h : RecV l m o z) (hi : hasW l i = true) (hf : fitW (l.getD i.toNat 0) x = true) (hx : 0 ≤ x ∧ x ≤ 18446744073709551615) : getW l (setM l m o z i x) o z i = x := by
  obtain ⟨f1, _⟩ := h.fld hi
  obtain ⟨a1, _⟩ := h.at_ hi
  have hh := hasW_in hi
  have h2 := h.same (setM_com l m o z i x).1 (setM_com l m o z i x).2
  rw [h2.get hi, (h.set hi hf).1, ld_st f1 a1 hx.1]
  exact fit_mod (okW_at h.ok (by omega)) hx hf
theorem get_other (h : RecV l m o z) {j : Int} (hj : hasW l j = true) (hij : j ≠ i) : getW l (setM l m o z i x) o z j = getW l m o z j := by
  have h2 := h.same (setM_com l m o z i x).1 (setM_com l m o z i x).2
  cases hi : hasW l i with
  | false => rw [← set_4 (m := m) (o := o) (z := z) (x := x) hi]
  | true =>
    cases hf : fitW (l.getD i.toNat 0) x with
    | false => rw [← set_5 (m := m) (o := o) (z := z) hf]
    | true =>
      obtain ⟨f1, f2, f3, f4, _⟩ := h.fld hi
      obtain ⟨a1, _⟩ := h.at_ hi
      have hh := hasW_in hi
      have hh2 := hasW_in hj
      rw [h2.get hj, h.get hj, (h.set hi hf).1]
      refine ld_far f1 a1 ?_
      rcases Int.lt_or_le j i with h3 | h3
      · left; have := sumT_mono h.ok (i := j.toNat) (n := i.toNat) (by omega); omega
      · right; have := sumT_mono h.ok (i := i.toNat) (n := j.toNat) (by omega); omega
theorem put_get (h : RecV l m o z) {nums : Nat → Nat} (hn : ∀ i, i < l.length → nums i ≤ 18446744073709551615) : ∀ k, k ≤ l.length → fitA l nums k = true → ∀ j : Nat, j < k → getW l (putA l o z nums m k) o z (j : Int) = ((nums j : Nat) : Int)
  | 0, _, _, j, hj => absurd hj (by omega)
  | k + 1, hk, hf, j, hj => by
    have hs := h.same (putA_com l o z nums m k).1 (putA_com l o z nums m k).2
    have hf' : fitA l nums k = true ∧ fitW (l.getD k 0) ((nums k : Nat) : Int) = true := by
      have : (fitA l nums k && fitW (l.getD k 0) ((nums k : Nat) : Int)) = true := hf
      simpa using this
    have hnk := hn k (by omega)
    have hhas : ∀ q : Nat, q < l.length → hasW l (q : Int) = true := fun q hq => by unfold hasW; simp; omega
    show getW l (setM l (putA l o z nums m k) o z (k : Int) ((nums k : Nat) : Int)) o z (j : Int) = _
    by_cases e : j = k
    · subst e
      exact hs.get_same (hhas j (by omega)) (by rw [Int.toNat_natCast]; exact hf'.2) (by omega)
    · rw [hs.get_other (hhas j (by omega)) (by omega)]
      exact put_get h hn k (by omega) hf'.1 j (by omega)
theorem zero (h : RecV l m o z) (hm : ∀ x, m.mem x = 0) (hi : hasW l i = true) : getW l m o z i = 0 := by
  obtain ⟨f1, _⟩ := h.fld hi
  obtain ⟨a1, _⟩ := h.at_ hi
  obtain ⟨g1, g8⟩ := wholeB_le f1
  rw [h.get hi, ← ld_v4 f1 a1]
  unfold bytS
  rw [a1, if_pos rfl]
  have e : bs (fun j => m.mem ((o + sumT l i.toNat).toNat + j)) (l.getD i.toNat 0).toNat = bs (stB ((0 : Nat) : Int)) (l.getD i.toNat 0).toNat := bs_congr fun j hj => by
    rw [hm]
    apply UInt8.toNat_inj.1
    rw [stB_nat]; simp
  rw [e, ldN_num (by omega) _ (Nat.le_refl _)]; simp
theorem vb0 (h : RecV l m o z) (hz : z ≤ z) : vbyE m o z 0 (sumT l l.length) = 0 := by
  have hb := sumT_bd h.ok l.length
  have hr := h.room
  have e : vchE z 0 (sumT l l.length) = 0 := (vch_yes (by omega)).symm
  unfold vbyE
  rw [if_pos e, chk_thr (thr_sub h.there (by omega) (by omega) hb.1)]
end RecV
theorem pR_bad {l : List Int} {m : AM} {o z : Int} {nums : Nat → Nat} (h : RecV l m o z) (he : pRE l l.length nums m o z ≠ 0) : pRE l l.length nums m o z = 16 ∧ pRM l l.length nums m o z = m := by
  have hv := h.vb0 (Int.le_refl _)
  have hn : ¬ l.length ≠ l.length := fun q => q rfl
  cases hf : fitA l nums l.length with
  | false => unfold pRE pRM; rw [if_neg hn, if_neg hn, hf]; exact ⟨rfl, rfl⟩
  | true =>
    exfalso; apply he
    unfold pRE; rw [if_neg hn, hf, if_pos rfl, hv]
theorem pR_good {l : List Int} {m : AM} {o z : Int} {nums : Nat → Nat} (h : RecV l m o z) (he : pRE l l.length nums m o z = 0) : fitA l nums l.length = true ∧ pRM l l.length nums m o z = putA l o z nums m l.length := by
  have hv := h.vb0 (Int.le_refl _)
  have hn : ¬ l.length ≠ l.length := fun q => q rfl
  cases hf : fitA l nums l.length with
  | false => exfalso; unfold pRE at he; rw [if_neg hn, hf] at he; simp at he
  | true => unfold pRM; rw [if_neg hn, hf, if_pos rfl, if_pos hv]; exact ⟨rfl, rfl⟩
theorem field_back0 {l : List Int} {m : AM} {o z : Int} {nums : Nat → Nat} (h : RecV l m o z) (hn : ∀ i, i < l.length → nums i ≤ 18446744073709551615) (hp : pRE l l.length nums m o z = 0) : ∀ j : Nat, j < l.length → getW l (pRM l l.length nums m o z) o z (j : Int) = ((nums j : Nat) : Int) := by
  obtain ⟨hf, e⟩ := pR_good h hp
  intro j hj
  rw [e]
  exact h.put_get hn l.length (Nat.le_refl _) hf j hj
end Go.Proofs.YtdjhdcaanmkblaaDoor.K

/-
  A walk by computing: records of numbers that are compared.
-/
namespace Go.Proofs.YtdjhdcaanmkblaaDoor.K
set_option linter.unusedSimpArgs false
set_option linter.unusedVariables false

section
variable {P : Program} {c : Cx} {n : Nat} {E : Env} {H : Heap} {A : List Res} {a : Act} {w : World} {o : Oper}
end
section
variable {P : Program} {c : Cx} {n : Nat} {E : Env} {H Hf : Heap} {A : List Res} {a : Act} {w : World} {ops : Array Oper} {R : Act → World → Prop} {Q : Exit → Act → World → Prop}
end
end Go.Proofs.YtdjhdcaanmkblaaDoor.K

/-
  A chunk's header that is written, read, wiped: plainly.
-/
namespace Go.Proofs.YtdjhdcaanmkblaaDoor.K
set_option linter.unusedSimpArgs false
set_option linter.unusedVariables false

theorem setM_far {l : List Int} {m : AM} {o z i x : Int} (h : RecV l m o z) {y : Nat} (hy : (y : Int) < o ∨ o + z ≤ (y : Int)) : (setM l m o z i x).mem y = m.mem y := by
  cases hi : hasW l i with
  | false => rw [← set_4 (m := m) (o := o) (z := z) (x := x) hi]
  | true =>
    cases hf : fitW (l.getD i.toNat 0) x with
    | false => rw [← set_5 (m := m) (o := o) (z := z) hf]
    | true =>
      obtain ⟨f1, f2, f3, f4, _⟩ := h.fld hi
      rw [(h.set hi hf).1]
      exact mem_st f1 (h.at_ hi).1 (by omega)
theorem putA_far {l : List Int} {m : AM} {o z : Int} {nums : Nat → Nat} (h : RecV l m o z) {y : Nat} (hy : (y : Int) < o ∨ o + z ≤ (y : Int)) : ∀ k, (putA l o z nums m k).mem y = m.mem y
  | 0 => rfl
  | k + 1 => by
    show (setM l (putA l o z nums m k) o z _ _).mem y = _
    rw [setM_far (h.same (putA_com l o z nums m k).1 (putA_com l o z nums m k).2) hy, putA_far h hy k]
theorem pRM_far {l : List Int} {m : AM} {o z : Int} {nums : Nat → Nat} (h : RecV l m o z) {y : Nat} (hy : (y : Int) < o ∨ o + z ≤ (y : Int)) (nn : Nat) : (pRM l nn nums m o z).mem y = m.mem y := by
  unfold pRM
  split
  · rfl
  · split
    · split
      · exact putA_far h hy _
      · rfl
    · rfl

section
variable {m : AM} {at_ ord own nx : Int}
theorem rec_c (h : thr m at_ 32 = true) : RecV cRec m at_ 32 := ⟨cRec_ok, h, by decide⟩
theorem wrc_bad (h : wrcE m at_ ord own nx ≠ 0) : wrcM m at_ ord own nx = m := by
  unfold wrcE at h; unfold wrcM
  cases hb : badC at_ ord nx with
  | true => rfl
  | false =>
    rw [hb] at h
    cases ht : thr m at_ 32 with
    | false => rfl
    | true =>
      rw [ht] at h
      exact (pR_bad (rec_c ht) h).2
theorem wrc_good (h : wrcE m at_ ord own nx = 0) : badC at_ ord nx = false ∧ thr m at_ 32 = true ∧ pRE cRec 4 (cNum ord own nx) m at_ 32 = 0 ∧ wrcM m at_ ord own nx = pRM cRec 4 (cNum ord own nx) m at_ 32 := by
  unfold wrcE at h; unfold wrcM
  cases hb : badC at_ ord nx with
  | true => rw [hb] at h; simp at h
  | false =>
    rw [hb] at h
    cases ht : thr m at_ 32 with
    | false => rw [ht] at h; simp at h
    | true => rw [ht] at h; exact ⟨rfl, rfl, h, rfl⟩
theorem badC_in (h : badC at_ ord nx = false) : 0 ≤ at_ ∧ at_ % 4096 = 0 ∧ 0 ≤ nx ∧ spanV ord ≠ 0 ∧ 0 ≤ ord ∧ ord ≤ 10 := by
  unfold badC at h
  simp at h
  have := span_pos h.2
  exact ⟨by omega, h.1.1.2, by omega, h.2, this.1, this.2⟩
theorem wrcM_com (m : AM) (at_ ord own nx : Int) : (wrcM m at_ ord own nx).cap = m.cap ∧ (wrcM m at_ ord own nx).com = m.com := by
  unfold wrcM
  split
  · exact ⟨rfl, rfl⟩
  · split
    · exact pRM_com _ _ _ _ _ _
    · exact ⟨rfl, rfl⟩
theorem wrcM_far {y : Nat} (hy : (y : Int) < at_ ∨ at_ + 32 ≤ (y : Int)) : (wrcM m at_ ord own nx).mem y = m.mem y := by
  unfold wrcM
  split
  · rfl
  · split
    · rename_i _ ht; exact pRM_far (rec_c ht) hy 4
    · rfl
theorem wrap_i64_in {x : Int} (h : 0 ≤ x ∧ x ≤ 9223372036854775807) : IntKind.wrap .i64 x = x := i64_in (by omega)
theorem cNum_le (ho : 0 ≤ ord ∧ ord ≤ 10) (hw : 0 ≤ own ∧ own ≤ 18446744073709551615 ∧ nx ≤ 9223372036854775807) : ∀ i, i < cRec.length → cNum ord own nx i ≤ 18446744073709551615 := by
  intro i _
  unfold cNum
  split
  · decide
  · split
    · omega
    · split <;> omega
/-- What was written is read. -/
theorem wrc_read (h : wrcE m at_ ord own nx = 0) (hw : 0 ≤ own ∧ own ≤ 18446744073709551615 ∧ nx ≤ 9223372036854775807) :
    ((rdAt (wrcM m at_ ord own nx) at_ = at_ ∧ rdOrd (wrcM m at_ ord own nx) at_ = ord) ∧ (rdOwn (wrcM m at_ ord own nx) at_ = own ∧ rdNx (wrcM m at_ ord own nx) at_ = nx)) ∧ rdE (wrcM m at_ ord own nx) at_ = 0 := by
  obtain ⟨hb, ht, hp, hm⟩ := wrc_good h
  obtain ⟨b1, b2, b3, b4, b5, b6⟩ := badC_in hb
  have hc := wrcM_com m at_ ord own nx
  have ht2 : thr (wrcM m at_ ord own nx) at_ 32 = true := (thr_same hc.1 hc.2 _ _).trans ht
  have hg := field_back0 (rec_c ht) (cNum_le ⟨b5, b6⟩ hw) hp
  have g0 : rdN (wrcM m at_ ord own nx) at_ 0 = 1263421507 := by rw [hm]; exact hg 0 (by decide)
  have g1 : rdN (wrcM m at_ ord own nx) at_ 1 = ord := by rw [hm]; exact (hg 1 (by decide)).trans (Int.toNat_of_nonneg b5)
  have g2 : rdN (wrcM m at_ ord own nx) at_ 2 = own := by rw [hm]; exact (hg 2 (by decide)).trans (Int.toNat_of_nonneg hw.1)
  have g3 : rdN (wrcM m at_ ord own nx) at_ 3 = nx := by rw [hm]; exact (hg 3 (by decide)).trans (Int.toNat_of_nonneg b3)
  have hbr : badR (wrcM m at_ ord own nx) at_ = false := by
    unfold badR
    rw [g0, g1, g3, wrap_i64_in (by omega), wrap_i64_in (by omega)]
    simp [b2, b4, b3]
  have hok := rdOk_yes ht2 hbr
  have hy := rd_yes hok.1
  rw [g1, g2, g3, wrap_i64_in (by omega), wrap_i64_in (by omega)] at hy
  exact ⟨⟨⟨hy.1.symm, hy.2.1.symm⟩, hy.2.2.1.symm, hy.2.2.2.symm⟩, hok.2⟩
end

section
variable {s : ByteArray} {at_ ord own nx : Int}
end
end Go.Proofs.YtdjhdcaanmkblaaDoor.K

/-
  Lists of what is to be done, as lists.
-/
namespace Go.Proofs.YtdjhdcaanmkblaaDoor.K
set_option linter.unusedSimpArgs false
set_option linter.unusedVariables false

abbrev Ent := Int × Int × Int × Int
def Ent.ok (e : Ent) : Prop := (0 ≤ e.1 ∧ e.1 ≤ 281474976710655) ∧ (0 ≤ e.2.1 ∧ e.2.1 ≤ 255) ∧ (0 ≤ e.2.2.1 ∧ e.2.2.1 ≤ 255) ∧ 0 ≤ e.2.2.2 ∧ e.2.2.2 ≤ 18446744073709551615
theorem eN0_eq {id kd lv : Int} (h : (0 ≤ id ∧ id ≤ 281474976710655) ∧ (0 ≤ kd ∧ kd ≤ 255) ∧ (0 ≤ lv ∧ lv ≤ 255)) : eN0 id kd lv = id * 65536 + lv * 256 + kd := by
  obtain ⟨⟨h1, h2⟩, ⟨h3, h4⟩, h5, h6⟩ := h
  obtain ⟨a, rfl⟩ := Int.eq_ofNat_of_zero_le h1
  obtain ⟨b, rfl⟩ := Int.eq_ofNat_of_zero_le h3
  obtain ⟨c, rfl⟩ := Int.eq_ofNat_of_zero_le h5
  have e1 : IntKind.wrap .u64 ((a : Int) * 2 ^ 16) = ((2 ^ 16 * a : Nat) : Int) := by rw [u64_in (by omega)]; omega
  have e2 : IntKind.wrap .u64 ((c : Int) * 2 ^ 8) = ((2 ^ 8 * c : Nat) : Int) := by rw [u64_in (by omega)]; omega
  have ea : a ≤ 281474976710655 := by omega
  have eb : b ≤ 255 := by omega
  have ec : c ≤ 255 := by omega
  unfold eN0
  rw [e1, e2, ior_u (by omega) (by omega), ← Nat.two_pow_add_eq_or_of_lt (by omega) a]
  have e3 : 2 ^ 16 * a + 2 ^ 8 * c = 2 ^ 8 * (2 ^ 8 * a + c) := by omega
  rw [e3, ior_u (by omega) (by omega), ← Nat.two_pow_add_eq_or_of_lt (by omega) (2 ^ 8 * a + c)]
  omega
theorem eN0_parts {id kd lv : Int} (h : (0 ≤ id ∧ id ≤ 281474976710655) ∧ (0 ≤ kd ∧ kd ≤ 255) ∧ (0 ≤ lv ∧ lv ≤ 255)) : eN0 id kd lv / 65536 = id ∧ IntKind.wrap .u8 (eN0 id kd lv) = kd ∧ IntKind.wrap .u8 (eN0 id kd lv / 256) = lv := by
  rw [eN0_eq h, IntKind.wrap_u8, IntKind.wrap_u8]
  omega
theorem getW_mem {l : List Int} {m m' : AM} {o z : Int} (h : RecV l m o z) (hc : m'.cap = m.cap) (hm : m'.com = m.com) (hy : ∀ y : Nat, o ≤ (y : Int) → (y : Int) < o + z → m'.mem y = m.mem y) (i : Int) : getW l m' o z i = getW l m o z i := by
  cases hi : hasW l i with
  | false => unfold getW; rw [hi, if_neg Bool.false_ne_true, if_neg Bool.false_ne_true]
  | true =>
    obtain ⟨f1, f2, f3, f4, f5⟩ := h.fld hi
    rw [h.get hi, (h.same hc hm).get hi]
    exact ld_mem hc hm fun y h1 h2 => hy y (by omega) (by omega)
theorem oRec_fit (nums : Nat → Nat) : fitA oRec nums oRec.length = true := by
  show ((true && fitW 8 _) && fitW 8 _) = true
  unfold fitW; rfl
section
variable {m : AM} {o z i : Int}
theorem oRec_at (ht : thr m o z = true) (h0 : 0 ≤ i) (h1 : i < cSl z) : RecV oRec m (o + i * 24) 24 := ⟨oRec_ok, thr_sub ht (by omega) (by unfold cSl at h1; omega) (by decide), by decide⟩
theorem oRec_pE (ht : thr m o z = true) (h0 : 0 ≤ i) (h1 : i < cSl z) (nums : Nat → Nat) : pRE oRec oRec.length nums m (o + i * 24) 24 = 0 := by
  unfold pRE
  rw [if_neg (fun q => q rfl), oRec_fit, if_pos rfl]
  exact (oRec_at ht h0 h1).vb0 (Int.le_refl _)
theorem cPutM_ent (ht : thr m o z = true) (h0 : 0 ≤ i) (h1 : i < cSl z) {e : Ent} (he : e.ok) {j : Nat} (hj : (j : Int) < cSl z) : cEnt (cPutM m o i e.1 e.2.1 e.2.2.1 e.2.2.2) o j = if (j : Int) = i then e else cEnt m o j := by
  obtain ⟨q1, q2, q3, q4⟩ := he
  split
  · rename_i hji
    have hle : ∀ k, k < oRec.length → eNum e.1 e.2.1 e.2.2.1 e.2.2.2 k ≤ 18446744073709551615 := by
      intro k _
      have := eN0_rng e.1 e.2.1 e.2.2.1
      unfold eNum
      split <;> omega
    have hg := field_back0 (oRec_at ht h0 h1) hle (oRec_pE ht h0 h1 _)
    have n0 : cN0 (cPutM m o i e.1 e.2.1 e.2.2.1 e.2.2.2) o j = eN0 e.1 e.2.1 e.2.2.1 := by rw [hji]; exact (hg 0 (by decide)).trans (Int.toNat_of_nonneg (eN0_rng _ _ _).1)
    have n1 : cN1 (cPutM m o i e.1 e.2.1 e.2.2.1 e.2.2.2) o j = e.2.2.2 := by rw [hji]; exact (hg 1 (by decide)).trans (Int.toNat_of_nonneg q4.1)
    obtain ⟨p1, p2, p3⟩ := eN0_parts ⟨q1, q2, q3⟩
    unfold cEnt cId cKd cLv
    rw [n0, n1, p1, p2, p3]
  · rename_i hji
    have hR := oRec_at (i := (j : Int)) ht (by omega) hj
    have hfar := oRec_at ht h0 h1
    have hs : ∀ k, getW oRec (cPutM m o i e.1 e.2.1 e.2.2.1 e.2.2.2) (o + (j : Int) * 24) 24 k = getW oRec m (o + (j : Int) * 24) 24 k := getW_mem hR (pRM_com _ _ _ _ _ _).1 (pRM_com _ _ _ _ _ _).2 fun y y1 y2 => pRM_far hfar (by omega) _
    unfold cEnt cId cKd cLv cN0 cN1
    rw [hs, hs]
end

/-- Slots that hold what a function tells. -/
structure Slots (m : AM) (o z : Int) (f : Nat → Ent) : Prop where
  there : thr m o z = true
  all : ∀ j : Nat, (j : Int) < cSl z → cEnt m o j = f j
theorem Slots.put {m : AM} {o z : Int} {f : Nat → Ent} (h : Slots m o z f) {i : Nat} (hi : (i : Int) < cSl z) {e : Ent} (he : e.ok) : Slots (cPutM m o (i : Int) e.1 e.2.1 e.2.2.1 e.2.2.2) o z (fun j => if j = i then e else f j) := by
  refine ⟨(cPutM_thr _ _ _ _ _ _ _ _ _).trans h.there, fun j hj => ?_⟩
  rw [cPutM_ent h.there (by omega) hi he hj]
  by_cases hji : j = i
  · rw [if_pos (by omega), if_pos hji]
  · rw [if_neg (by omega), if_neg hji]; exact h.all j hj
def noEnt : Ent := (0, 0, 0, 0)
theorem noEnt_ok : noEnt.ok := by unfold Ent.ok noEnt; decide
/-- A list's entries. -/
structure HL (m : AM) (o z : Int) (L : List Ent) : Prop where
  slots : Slots m o z (fun i => L.getD i noEnt)
  len : (L.length : Int) ≤ cSl z
  good : ∀ e, e ∈ L → e.ok ∧ e.1 ≠ 0
section
variable {m : AM} {o z : Int} {L : List Ent}
theorem HL.id (h : HL m o z L) {j : Nat} (hj : (j : Int) < cSl z) : cId m o (j : Int) = (L.getD j noEnt).1 := congrArg Prod.fst (h.slots.all j hj)
theorem getD_in {L : List Ent} {j : Nat} (h : j < L.length) : L.getD j noEnt ∈ L := by
  rw [List.getD_eq_getElem?_getD, List.getElem?_eq_getElem h]; exact List.getElem_mem h
theorem getD_out {L : List Ent} {j : Nat} (h : L.length ≤ j) : L.getD j noEnt = noEnt := by
  rw [List.getD_eq_getElem?_getD, List.getElem?_eq_none h]; rfl
theorem HL.ids (h : HL m o z L) {j : Nat} (hj : j < L.length) : cId m o (j : Int) ≠ 0 := by
  rw [h.id (by have := h.len; omega)]; exact (h.good _ (getD_in hj)).2
theorem HL.noUp (h : HL m o z L) : NoUp (cNo m o) ((L.length : Nat) : Int) := fun j hj => by
  unfold cNo
  have := h.ids (j := j) (by omega)
  simpa using this
theorem HL.cnt (h : HL m o z L) : cCnt m o z = L.length := by
  have hl := h.len
  rcases Int.lt_or_le (L.length : Int) (cSl z) with h1 | h1
  · have := cCnt_at h.noUp (by omega) h1 (by rw [h.id h1, getD_out (Nat.le_refl _)]; rfl)
    rw [this]; omega
  · have := cCnt_end h.noUp (by omega) hl (by omega)
    rw [this]; omega
theorem HL.fresh (h : HL m o z L) {id : Int} (hid : ∀ e, e ∈ L → e.1 ≠ id) : cFind m o z id = -1 := by
  refine (cFind_no (x := ((L.length : Nat) : Int)) (fun j hj => ?_) (by rw [h.cnt]; omega)).symm
  unfold cIs
  rw [h.id (by have := h.len; omega)]
  have := hid _ (getD_in (L := L) (j := j) (by omega))
  simpa using this
theorem HL.found (h : HL m o z L) {L1 L2 : List Ent} {e : Ent} (hL : L = L1 ++ e :: L2) (hid : ∀ x, x ∈ L1 → x.1 ≠ e.1) : cFind m o z e.1 = ((L1.length : Nat) : Int) := by
  have hlen : L.length = L1.length + (L2.length + 1) := by rw [hL]; simp
  have hl := h.len
  refine (cFind_at (x := ((L1.length : Nat) : Int)) (fun j hj => ?_) (by omega) (by rw [h.cnt]; omega) ?_).symm
  · unfold cIs
    rw [h.id (by omega), hL]
    have hj' : j < L1.length := by omega
    have e2 : (L1 ++ e :: L2).getD j noEnt = L1.getD j noEnt := by
      rw [List.getD_eq_getElem?_getD, List.getD_eq_getElem?_getD, List.getElem?_append_left hj']
    rw [e2]
    simpa using hid _ (getD_in hj')
  · rw [h.id (by omega), hL]
    rw [List.getD_eq_getElem?_getD, List.getElem?_append_right (Nat.le_refl _)]; simp
theorem HL.at_ (h : HL m o z L) {L1 L2 : List Ent} {e : Ent} (hL : L = L1 ++ e :: L2) : cEnt m o L1.length = e := by
  have hlen : L.length = L1.length + (L2.length + 1) := by rw [hL]; simp
  have hl := h.len
  rw [h.slots.all _ (by omega), hL]
  rw [List.getD_eq_getElem?_getD, List.getElem?_append_right (Nat.le_refl _)]; simp
/-- An entry more. -/
theorem HL.add (h : HL m o z L) {id kd lv ar : Int} (he : Ent.ok (id, kd, lv, ar)) (h0 : id ≠ 0) (hid : ∀ e, e ∈ L → e.1 ≠ id) (hl : (L.length : Int) < cSl z) : addE m o z id = 0 ∧ HL (addM m o z id kd lv ar) o z (L ++ [(id, kd, lv, ar)]) := by
  have hc := h.cnt
  have hA := add_4 (m := m) (o := o) (z := z) (id := id) (kd := kd) (lv := lv) (ar := ar) (by have := he.1; simp at this; omega) (by rw [h.fresh hid]; omega) (by rw [hc]; omega)
  refine ⟨hA.1.symm, ?_⟩
  rw [← hA.2, hc]
  have hp := h.slots.put (i := L.length) hl he
  refine ⟨⟨hp.there, fun j hj => (hp.all j hj).trans ?_⟩, by simp; omega, fun e hm => ?_⟩
  · show (if j = L.length then (id, kd, lv, ar) else L.getD j noEnt) = _
    rw [List.getD_eq_getElem?_getD, List.getD_eq_getElem?_getD]
    rcases Nat.lt_trichotomy j L.length with h1 | h1 | h1
    · rw [if_neg (by omega), List.getElem?_append_left h1]
    · rw [if_pos h1, h1, List.getElem?_append_right (Nat.le_refl _)]; simp
    · rw [if_neg (by omega), List.getElem?_eq_none (by omega), List.getElem?_eq_none (by simp; omega)]
  · rcases List.mem_append.1 hm with h1 | h1
    · exact h.good e h1
    · rw [List.mem_singleton.1 h1]; exact ⟨he, h0⟩
/-- The last one comes out. -/
theorem HL.pop {e : Ent} (h : HL m o z (L ++ [e])) : popB m o z = true ∧ (∀ x, pIf m o z x = x) ∧ cEnt m o L.length = e ∧ cCnt m o z = L.length + 1 ∧ HL (popM m o z) o z L := by
  have hc := h.cnt
  have hl := h.len
  simp only [List.length_append, List.length_singleton] at hc hl
  obtain ⟨k1, k2, k3⟩ := pp_yes (m := m) (o := o) (z := z) (by omega)
  refine ⟨k3.symm, fun x => (k2 x).symm, h.at_ (L1 := L) (L2 := []) rfl, hc, ?_⟩
  rw [← k1, hc, show (((L.length + 1 : Nat) : Int) - 1) = ((L.length : Nat) : Int) by omega]
  have hp := h.slots.put (i := L.length) (by omega) noEnt_ok
  refine ⟨⟨hp.there, fun i hi => (hp.all i hi).trans ?_⟩, by omega, fun x hx => h.good x (List.mem_append.2 (.inl hx))⟩
  show (if i = L.length then noEnt else (L ++ [e]).getD i noEnt) = _
  simp only [List.getD_eq_getElem?_getD]
  rcases Nat.lt_trichotomy i L.length with h1 | h1 | h1
  · rw [if_neg (by omega), List.getElem?_append_left h1]
  · rw [if_pos h1, List.getElem?_eq_none (by omega)]; rfl
  · rw [if_neg (by omega), List.getElem?_eq_none (by simp; omega), List.getElem?_eq_none (by omega)]
theorem HL.pop0 (h : HL m o z []) : popB m o z = false ∧ cCnt m o z = 0 := by
  have hc : cCnt m o z = 0 := h.cnt
  exact ⟨(pp_no hc).2.2.symm, hc⟩
end
end Go.Proofs.YtdjhdcaanmkblaaDoor.K

/-
  Entries that come, and go, and come out again: plainly.
-/
namespace Go.Proofs.YtdjhdcaanmkblaaDoor.K
set_option linter.unusedSimpArgs false
set_option linter.unusedVariables false

section
variable {q : Nat → Bool} {kf : Nat → UInt8} {k n : Nat}
end
section
variable {q : Nat → Bool} {kf : Nat → UInt8} {n : Nat} {m : AM} {x y : Int}
end
end Go.Proofs.YtdjhdcaanmkblaaDoor.K

/-
  A walk by computing: lists of elements of any number of cells: made, copied, appended to one another; lists that may be nothing.
-/
namespace Go.Proofs.YtdjhdcaanmkblaaDoor.K
set_option linter.unusedSimpArgs false
set_option linter.unusedVariables false

/-- Of a block that is there nothing is told. -/
theorem HE.fn_none {w : World} {b lo hi o k : Nat} {f f' : Nat → Value} (h : HE.holds w b (.fn lo hi f)) (hk : k = 0) : HE.holds w b (.fn o (o + k) f') := by
  subst hk
  obtain ⟨c, T, fz, hc, _⟩ := h
  exact ⟨c, T, fz, hc, fun x h1 h2 => by have h1 : o ≤ x := h1; have h2 : x < o + 0 := h2; omega⟩
theorem HE.row_to {w : World} {b m hi tot : Nat} {e : TypeId} {f f' : Nat → Value} (h : HE.holds w b (.row e m tot f)) (e1 : m = hi) (e2 : ∀ x, x < m → f x = f' x) : HE.holds w b (.fn 0 hi f') := by
  subst e1
  obtain ⟨c, hc, h1, h2, hf⟩ := h
  exact ⟨c, e, (0, 0), hc, fun x _ h4 => (hf x h4).trans (congrArg some (e2 x h4))⟩
theorem slN {x : Option Addr} {n n' c : Nat} (h : n = n') : (Value.slice x n c) = .slice x n' c := by rw [h]
theorem CellsV.none {w : World} {b o k : Nat} {F : Nat → Value} (h : k = 0) : CellsV w b o k F := fun j hj => absurd hj (by omega)

theorem run_app0 {P : Program} (w : World) (t ty e : TypeId) (i : TypeInfo) (ht : P.underlying t = some (.slice e)) (hi : P.info? e = some i) (base ak : Option Addr) (sLen sCap ck : Nat) (hle : sLen ≤ sCap) :
    (Builtin.append_ #[t, t] ty #[.slice base sLen sCap, .slice ak 0 ck]).run P w = .ok (.slice base sLen sCap) w := by
  have hl := fun a => run_loadCells_list (P := P) w a [] (by simp)
  simp only [List.length_nil] at hl
  cases ak <;> cases base <;> simp [Builtin.append_, run_underlying ht, sizeOf, typeInfo, hi, Builtin.lenOf, hle, Builtin.firstCells, hl, storeCells]

def catF (f : Nat → Value) (n : Nat) (F : Nat → Value) (x : Nat) : Value := if x < n then f x else F (x - n)
theorem appF_cat {f : Nat → Value} {n k : Nat} {F : Nat → Value} {x : Nat} (h : x < n + k) : appF f n ((List.range k).map F) x = catF f n F x := by
  unfold appF catF
  split
  · rfl
  · rw [List.getD_eq_getElem?_getD, List.getElem?_map, List.getElem?_range (by omega)]; rfl
theorem grow_fitsK {n k cap bytes : Nat} (h : cap < n + k) (hb : bytes ≤ 64) (hn : n + k ≤ 2 ^ 32) : Builtin.nextslicecap (n + k) cap * bytes ≤ 281474976710656 := growslice_fits (by omega) (by
  have : (n + k) * bytes ≤ 2 ^ 32 * 64 := Nat.mul_le_mul hn hb
  omega)
theorem gr_roomK {e : TypeId} {sz : Nat} {w : World} {g cap n k : Nat} {f : Nat → Value} (hrow : HE.holds w g (.row e (n * sz) (cap * sz) f)) (hr : n + k ≤ cap) {news : List Value} (hl : news.length = k * sz) :
    ∃ cur, w.heap[g]? = some (.cells cur e (0, 0)) ∧ cur.size = cap * sz ∧ n * sz + news.length ≤ cur.size ∧
      HE.holds (w.setRow g (cur.toList.take (n * sz) ++ news ++ cur.toList.drop (n * sz + news.length)).toArray) g (.row e ((n + k) * sz) (cap * sz) (appF f (n * sz) news)) := by
  obtain ⟨cur, hc, hsz, hnt, hf⟩ := hrow
  have hcl : cur.toList.length = cap * sz := by simpa using hsz
  have hm : (n + k) * sz ≤ cap * sz := Nat.mul_le_mul_right _ hr
  have hm2 : (n + k) * sz = n * sz + k * sz := Nat.add_mul n k sz
  refine ⟨cur, hc, hsz, by omega, ⟨_, setRow_heap w g cur _ e _ hc, ?_, hm, fun x hx => ?_⟩⟩
  · simp only [List.size_toArray, List.length_append, List.length_take, List.length_drop, hcl]
    omega
  · rw [List.getElem?_toArray]
    unfold appF
    by_cases hx2 : x < n * sz
    · rw [if_pos hx2, List.append_assoc, List.getElem?_append_left (by rw [List.length_take, hcl]; omega), List.getElem?_take_of_lt hx2, Array.getElem?_toList]
      exact hf x hx2
    · rw [if_neg hx2, List.append_assoc, List.getElem?_append_right (by rw [List.length_take, hcl]; omega), List.length_take, hcl, show min (n * sz) (cap * sz) = n * sz by omega, List.getElem?_append_left (by omega), List.getD_eq_getElem?_getD, List.getElem?_eq_getElem (by omega)]
      rfl

section
variable {P : Program} {c : Cx} {n : Nat} {E : Env} {H : Heap} {A : List Res} {a : Act} {w : World} {o : Oper}

/-- append of what lies in cells: k elements. -/
theorem St.appL {K : Act → World → Prop} {v : Value} {Fv : Nat → Prop} {m sz : Nat} {f : Nat → Value} {e : TypeId} (j : Nat) (hS : St c n E H A a w) (x y : Operand) (t : TypeId) (ho : o.op = .call { callee := .builtin .append, args := #[x, y], argTypes := #[t, t] }) {d : Nat} (hd : o.dst = some d) (hdn : d < n) {z : Value} {i : TypeInfo} (ht : P.underlying t = some (.slice e)) (hi : P.info? e = some i) (hz : i.zero = some z) (h1 : i.size = sz) (hby : i.bytes ≤ 64) (hzc : z.cells.size = sz) (hsz : 0 < sz)
    {ak : Option Addr} {k ck g so : Nat} {F : Nat → Value} (hak : k = 0 ∨ ak = some ⟨g, so, none⟩) (hC : CellsV w g so (k * sz) F) (hone : ∀ q, q < k * sz → (F q).oneCell' = true) (hn : m + k ≤ 2 ^ 32)
    (h : ∀ a' w' v' F', GrV e sz w' v' F' (m + k) (catF f (m * sz) F) → St c n (putE E d [] v') H (A.set j (grR e sz v' F' (m + k, catF f (m * sz) F))) a' w' → K a' w')
    (hj : A[j]? = some (grR e sz v Fv (m, f)) := by rfl)
    (hok : okO E [] x = true := by as_aux_lemma => kernel_rfl) (hok2 : okO E [] y = true := by as_aux_lemma => kernel_rfl) (hx : rho E x = v := by as_aux_lemma => kernel_rfl) (hy : rho E y = .slice ak k ck := by as_aux_lemma => kernel_rfl) : Runs1 P o a w K := by
  have hB : GrV e sz w v Fv m f := hS.mem.ars.each _ (List.mem_of_getElem? hj)
  have heq : ∀ x, x < (m + k) * sz → catF f (m * sz) F x = appF f (m * sz) ((List.range (k * sz)).map F) x := fun x hx => (appF_cat (by rw [Nat.add_mul] at hx; exact hx)).symm
  rcases Nat.eq_zero_or_pos k with hk0 | hk0
  · subst hk0
    have hG : GrV e sz w v Fv (m + 0) (catF f (m * sz) F) := by
      rcases hB with hB | ⟨gb, cap, rfl, h0, hrow, hcap, hF⟩
      · exact .inl hB
      · exact .inr ⟨gb, cap, rfl, h0, HE.row_eq hrow (fun x hx => by unfold catF; rw [if_pos (show x < m * sz from hx)]), hcap, hF⟩
    have hr : (Builtin.append_ #[t, t] o.type #[v, .slice ak 0 ck]).run P w = .ok v w := by
      rcases hB with ⟨rfl, _, _⟩ | ⟨gb, cap, rfl, h0, hrow, hcap, hF⟩
      · exact run_app0 w t o.type e i ht hi none ak 0 0 ck (Nat.le_refl _)
      · exact run_app0 w t o.type e i ht hi _ ak m cap ck hcap
    refine ⟨_, _, append_run ho (by rw [eval1 hS hok, eval1 hS hok2, hx, hy]; exact hr), ?_⟩
    rw [hd]
    have hA := hS.mem.stepA j (r' := grR e sz v Fv (m + 0, catF f (m * sz) F)) hj hG ((Fr.refl w no).to (fun k hk => hk.elim) (fun k hk => .inl hk))
    exact h _ _ _ _ hG ((hS.to hA).put hdn)
  obtain rfl : ak = some ⟨g, so, none⟩ := hak.resolve_left (by omega)
  have hl : ((List.range (k * sz)).map F).length = k * sz := by simp
  have hone' : ∀ u ∈ (List.range (k * sz)).map F, u.oneCell' = true := fun u hu => by
    obtain ⟨q, hq, rfl⟩ := List.mem_map.1 hu
    exact hone q (List.mem_range.1 hq)
  have hcell : ∀ j u, ((List.range (k * sz)).map F)[j]? = some u → w.cell? ((⟨g, so, none⟩ : Addr).add j) = some u := by
    intro j u hj
    have hjk : j < k * sz := by have := (List.getElem?_eq_some_iff.1 hj).1; simpa using this
    rw [List.getElem?_map, List.getElem?_range hjk] at hj
    simp only [Option.map_some, Option.some.injEq] at hj
    subst hj
    rw [addr_add _ rfl]; exact hC j hjk
  generalize hnews : (List.range (k * sz)).map F = news at hl hone' hcell heq
  have hksz : 0 < k * sz := Nat.mul_pos hk0 hsz
  rcases hB with ⟨rfl, rfl, hF⟩ | ⟨gb, cap, rfl, h0, hrow, hcap, hF⟩
  · have hkb : k * i.bytes ≤ 281474976710656 := by
      have : k * i.bytes ≤ 2 ^ 32 * 64 := Nat.mul_le_mul (by omega) hby
      omega
    have hr := run_append_nil (P := P) (w := w) t o.type e i z ht hi hz ⟨g, so, none⟩ k ck news (by rw [h1]; exact hl) hcell hk0 (by omega) hkb
    have hge := grownCap_ge w k 0 e
    have hh : GrV e sz (w.drew.alloc (.cells (news.toArray ++ Builtin.zeroCells z.cells (grownCap w k 0 e - k)) e (0, 0))) (sc w.heap.size 0 k (grownCap w k 0 e)) (one w.heap.size) (0 + k) (catF f (0 * sz) F) := by
      refine .inr ⟨w.heap.size, grownCap w k 0 e, by rw [Nat.zero_add], by omega, HE.row_eq (f := appF f (0 * sz) news) ⟨_, alloc_at _ _, ?_, Nat.mul_le_mul_right _ (by omega), fun x hx => ?_⟩ (fun x hx => by rw [heq x hx]), by omega, fun q => Iff.rfl⟩
      · simp only [Array.size_append, List.size_toArray, size_zeroCells, hzc, hl]
        have h1 : k * sz ≤ grownCap w k 0 e * sz := Nat.mul_le_mul_right _ hge
        have h2 : (grownCap w k 0 e - k) * sz = grownCap w k 0 e * sz - k * sz := Nat.mul_sub_right_distrib _ _ _
        have h3 : sz * (grownCap w k 0 e - k) = (grownCap w k 0 e - k) * sz := Nat.mul_comm _ _
        omega
      · rw [Nat.zero_add] at hx
        rw [Array.getElem?_append_left (by simp; omega)]
        unfold appF
        rw [Nat.zero_mul, if_neg (by omega), Nat.sub_zero, List.getElem?_toArray, List.getD_eq_getElem?_getD, List.getElem?_eq_getElem (by omega)]
        rfl
    refine ⟨_, _, append_run ho (by rw [eval1 hS hok, eval1 hS hok2, hx, hy]; exact hr), ?_⟩
    rw [hd]
    have hA := hS.mem.stepA j (r' := grR e sz (sc w.heap.size 0 k (grownCap w k 0 e)) (one w.heap.size) (0 + k, catF f (0 * sz) F)) hj hh ((Fr.alloc w _).to (fun k hk => hk.elim) (fun q hq => .inr (by rw [show q = w.heap.size from hq]; exact Nat.le_refl _)))
    exact h _ _ _ _ hh ((hS.to hA).put hdn)
  · by_cases hroom : m + k ≤ cap
    · obtain ⟨cur, hc, hcs, hfit, hh⟩ := gr_roomK hrow hroom hl
      have hr := run_append_room (P := P) w t o.type e i ht hi gb m cap cur hc ⟨g, so, none⟩ k ck news (by rw [h1]; exact hl) hcell hone' hroom (by rw [h1]; exact hfit)
      rw [h1] at hr
      have hh2 : GrV e sz (w.setRow gb (cur.toList.take (m * sz) ++ news ++ cur.toList.drop (m * sz + news.length)).toArray) (sc gb 0 (m + k) cap) (one gb) (m + k) (catF f (m * sz) F) := .inr ⟨gb, cap, rfl, by omega, HE.row_eq hh (fun x hx => by rw [heq x hx]), hroom, fun q => Iff.rfl⟩
      refine ⟨_, _, append_run ho (by rw [eval1 hS hok, eval1 hS hok2, hx, hy]; exact hr), ?_⟩
      rw [hd]
      have hA := hS.mem.stepA j (r' := grR e sz (sc gb 0 (m + k) cap) (one gb) (m + k, catF f (m * sz) F)) hj hh2 ⟨rfl, rfl, rfl, by simp, fun q hq hn => setRow_other w gb q _ (fun e => hn ((hF q).2 e)), fun q hq => .inl ((hF q).2 hq)⟩
      exact h _ _ _ _ hh2 ((hS.to hA).put hdn)
    · obtain ⟨cur, hc, hcs, hnt, hf⟩ := id hrow
      have hol : ((List.range (m * sz)).map f).length = m * i.size := by simp [h1]
      have hold : ∀ j v, ((List.range (m * sz)).map f)[j]? = some v → w.cell? ((⟨gb, 0, none⟩ : Addr).add j) = some v := by
        intro j v hj
        have hjn : j < m * sz := by
          have := (List.getElem?_eq_some_iff.1 hj).1
          simpa using this
        rw [List.getElem?_map, List.getElem?_range hjn] at hj
        simp only [Option.map_some, Option.some.injEq] at hj
        subst hj
        rw [addr_add _ rfl, Nat.zero_add]
        unfold World.cell?
        simp only [hc]
        exact hf _ hjn
      have hr := run_append_grow (P := P) (w := w) t o.type e i z ht hi hz ⟨gb, 0, none⟩ m cap _ hol hold ⟨g, so, none⟩ k ck news (by rw [h1]; exact hl) hcell (by omega) (by omega) (grow_fitsK (by omega) hby hn)
      have hge := grownCap_ge w (m + k) cap e
      have hm2 : (m + k) * sz = m * sz + k * sz := Nat.add_mul m k sz
      have hml : (m + k) * sz ≤ grownCap w (m + k) cap e * sz := Nat.mul_le_mul_right _ hge
      have hh2 : GrV e sz (w.drew.alloc (.cells (((List.range (m * sz)).map f).toArray ++ news.toArray ++ Builtin.zeroCells z.cells (grownCap w (m + k) cap e - (m + k))) e (0, 0))) (sc w.heap.size 0 (m + k) (grownCap w (m + k) cap e)) (one w.heap.size) (m + k) (catF f (m * sz) F) := by
        refine .inr ⟨w.heap.size, _, rfl, by omega, HE.row_eq (f := appF f (m * sz) news) ⟨_, alloc_at _ _, ?_, hml, fun x hx => ?_⟩ (fun x hx => by rw [heq x hx]), hge, fun q => Iff.rfl⟩
        · simp only [Array.size_append, List.size_toArray, List.length_map, List.length_range, size_zeroCells, hzc, hl]
          have : (grownCap w (m + k) cap e - (m + k)) * sz = grownCap w (m + k) cap e * sz - (m + k) * sz := Nat.mul_sub_right_distrib _ _ _
          have h3 : sz * (grownCap w (m + k) cap e - (m + k)) = (grownCap w (m + k) cap e - (m + k)) * sz := Nat.mul_comm _ _
          omega
        · have hx1 : x < (((List.range (m * sz)).map f).toArray ++ news.toArray).size := by simp [hl]; omega
          rw [Array.getElem?_append_left hx1]
          unfold appF
          by_cases hx2 : x < m * sz
          · rw [if_pos hx2, Array.getElem?_append_left (by simpa using hx2)]
            simp [hx2]
          · rw [if_neg hx2, Array.getElem?_append_right (by simp; omega)]
            simp only [List.size_toArray, List.length_map, List.length_range, List.getElem?_toArray]
            rw [List.getD_eq_getElem?_getD, List.getElem?_eq_getElem (by omega)]
            rfl
      refine ⟨_, _, append_run ho (by rw [eval1 hS hok, eval1 hS hok2, hx, hy]; exact hr), ?_⟩
      rw [hd]
      have hA := hS.mem.stepA j (r' := grR e sz (sc w.heap.size 0 (m + k) (grownCap w (m + k) cap e)) (one w.heap.size) (m + k, catF f (m * sz) F)) hj hh2 ((Fr.alloc w _).to (fun k hk => hk.elim) (fun q hq => .inr (by rw [show q = w.heap.size from hq]; exact Nat.le_refl _)))
      exact h _ _ _ _ hh2 ((hS.to hA).put hdn)

end

/-! ## Lists of elements of some kinds -/
/-- The element at a place. -/
def gtD {α : Type} [Inhabited α] (l : List α) (i : Nat) : α := l.getD i default
theorem gtD_lt {α : Type} [Inhabited α] {l : List α} {i : Nat} (h : i < l.length) : gtD l i = l[i] := by
  unfold gtD; rw [List.getD_eq_getElem?_getD, List.getElem?_eq_getElem h]; rfl
theorem gtD_app {α : Type} [Inhabited α] (l k : List α) (i : Nat) : gtD (l ++ k) i = if i < l.length then gtD l i else gtD k (i - l.length) := by
  unfold gtD
  simp only [List.getD_eq_getElem?_getD, List.getElem?_append]
  split <;> rfl
theorem gtD_set {α : Type} [Inhabited α] (l : List α) (i : Nat) (x : α) (j : Nat) (h : i < l.length) : gtD (l.set i x) j = if j = i then x else gtD l j := by
  unfold gtD
  simp only [List.getD_eq_getElem?_getD, List.getElem?_set]
  by_cases e : i = j
  · subst e; rw [if_pos rfl, if_pos rfl, if_pos h]; rfl
  · rw [if_neg e, if_neg (fun q => e q.symm)]
end Go.Proofs.YtdjhdcaanmkblaaDoor.K

/-
  Rows of structs, told by functions of the place.
-/
namespace Go.Proofs.YtdjhdcaanmkblaaDoor.K
set_option linter.unusedSimpArgs false
set_option linter.unusedVariables false
def updF {α : Type} (E : Nat → α) (i : Nat) (x : α) (k : Nat) : α := if k = i then x else E k

section
end

section
end

section
end

section
end

section
end

section
end

section
end

section
end

section
end

section
end

section
end

section
end

section
end

section
def a11V (E : Nat → Int × Int × Int × Int) (o x : Nat) : Value := if (x - o) % 4 = 0 then v8 (E ((x - o) / 4)).1 else if (x - o) % 4 = 1 then v8 (E ((x - o) / 4)).2.1 else if (x - o) % 4 = 2 then v8 (E ((x - o) / 4)).2.2.1 else vi (E ((x - o) / 4)).2.2.2
theorem a11V_0 (E : Nat → Int × Int × Int × Int) (o i : Nat) : a11V E o (o + i * 4) = v8 (E i).1 := by
  unfold a11V; rw [show o + i * 4 - o = i * 4 by omega, if_pos (by omega), show (i * 4) / 4 = i by omega]
theorem a11V_1 (E : Nat → Int × Int × Int × Int) (o i : Nat) : a11V E o (o + i * 4 + 1) = v8 (E i).2.1 := by
  unfold a11V; rw [show o + i * 4 + 1 - o = i * 4 + 1 by omega, if_neg (by omega), if_pos (by omega), show (i * 4 + 1) / 4 = i by omega]
theorem a11V_2 (E : Nat → Int × Int × Int × Int) (o i : Nat) : a11V E o (o + i * 4 + 2) = v8 (E i).2.2.1 := by
  unfold a11V; rw [show o + i * 4 + 2 - o = i * 4 + 2 by omega, if_neg (by omega), if_neg (by omega), if_pos (by omega), show (i * 4 + 2) / 4 = i by omega]
theorem a11V_3 (E : Nat → Int × Int × Int × Int) (o i : Nat) : a11V E o (o + i * 4 + 3) = vi (E i).2.2.2 := by
  unfold a11V; rw [show o + i * 4 + 3 - o = i * 4 + 3 by omega, if_neg (by omega), if_neg (by omega), if_neg (by omega), show (i * 4 + 3) / 4 = i by omega]
theorem a11V_cg {E E' : Nat → Int × Int × Int × Int} {n : Nat} (o : Nat) (h : ∀ i, i < n → E i = E' i) : ∀ x, x < o + n * 4 → a11V E o x = a11V E' o x ∨ x < o := by
  intro x hx
  by_cases h1 : x < o
  · exact .inr h1
  · left; unfold a11V; rw [h _ (by omega)]
end

section
end

section
end

end Go.Proofs.YtdjhdcaanmkblaaDoor.K
