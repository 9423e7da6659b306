/-
  An arena, plainly: what its calls do to it; how its parts lie open.
-/
import Derived.Test.YtlnecfdbmoilbaaDoorVw
import Derived.Test.YtlnecfdbmoilbaaDoorBv
namespace Go.Proofs.YtlnecfdbmoilbaaDoor.K
set_option linter.unusedSimpArgs false
set_option linter.unusedVariables false

/-- Cells that are read alone. -/
def roF (cs : List Value) (o : Nat) : Value := cs.getD o undef
theorem HE.ro {w : World} {b : Nat} {cs : List Value} {T : TypeId} (h : HE.holds w b (.cells cs T)) : HE.holds w b (.fn 0 cs.length (roF cs)) := by
  refine HE.of_cells h fun o ho => ?_
  unfold roF
  rw [List.getD_eq_getElem?_getD, List.getElem?_eq_getElem ho]; rfl

/-! ## What an arena answers -/
def inB (m : AM) (a n : Int) : Bool := decide (0 ≤ a) && decide (0 ≤ n) && decide (n ≤ (m.cap : Int) * 4096) && decide (a ≤ (m.cap : Int) * 4096 - n)
def pg0 (a : Int) : Nat := (a / 4096).toNat
def pgN (a n : Int) : Nat := ((a + n - 1) / 4096 - a / 4096 + 1).toNat
/-- Are bytes there? -/
def thr (m : AM) (a n : Int) : Bool := inB m a n && (decide (n = 0) || decide (cntR m.com (pg0 a) (pgN a n) = pgN a n))
def chkE (m : AM) (a n : Int) : Int := if thr m a n then 0 else 3
def rowE (m : AM) (f n : Int) : Int := if n < 1 then 2 else trnE m.cap f n
def rowC (m : AM) (f n : Int) : Int := if n < 1 then 0 else cntV m.com m.cap f n

/-! ## Its parts, open -/
theorem ArAt.hd {w : World} {b : Nat} {F : Nat → Prop} {m : AM} {d : Lie} (h : ArAt w ⟨b, F, m⟩ d) :
    HE.holds w b (.cells [sc d.bp 0 m.cap m.cap, vi (m.cap : Int), sc d.bw d.ow d.nw d.cw, vi (countTo m.com m.cap : Int), vb m.armed, vi (m.refuse : Int)] d.TA) := h.head
theorem ArAt.ro {w : World} {b : Nat} {F : Nat → Prop} {m : AM} {d : Lie} (h : ArAt w ⟨b, F, m⟩ d) :
    HE.holds w b (.fn 0 6 (roF [sc d.bp 0 m.cap m.cap, vi (m.cap : Int), sc d.bw d.ow d.nw d.cw, vi (countTo m.com m.cap : Int), vb m.armed, vi (m.refuse : Int)])) := HE.ro h.hd
theorem ArAt.wo {w : World} {b : Nat} {F : Nat → Prop} {m : AM} {d : Lie} (h : ArAt w ⟨b, F, m⟩ d) : HE.holds w d.bw (.fn d.ow (d.ow + d.nw) (u64s d.ws d.ow)) := by
  obtain ⟨c, T, fz, h1, h2⟩ := h.words
  refine ⟨c, T, fz, h1, fun x h3 h4 => ?_⟩
  have := h2 (x - d.ow) (by omega)
  rw [show d.ow + (x - d.ow) = x by omega] at this
  exact this

/-- The pointers of pages. -/
def pagesV (com : Nat → Bool) (pb : Nat → Nat) (o x : Nat) : Value := .pointer (if com (x - o) then some ⟨pb (x - o), 0, none⟩ else none)
theorem ArAt.po {w : World} {b : Nat} {F : Nat → Prop} {m : AM} {d : Lie} (h : ArAt w ⟨b, F, m⟩ d) : HE.holds w d.bp (.fn 0 (0 + m.cap) (pagesV m.com d.pb 0)) := by
  obtain ⟨c, h1, h2, h3⟩ := h.pages
  exact ⟨c, d.TP, (0, 0), h1, fun x _ h4 => h3 x (by simpa using h4)⟩
theorem ArAt.pr {w : World} {b : Nat} {F : Nat → Prop} {m : AM} {d : Lie} (h : ArAt w ⟨b, F, m⟩ d) : HE.holds w d.bp (.row d.TP m.cap m.cap (pagesV m.com d.pb 0)) := by
  obtain ⟨c, h1, h2, h3⟩ := h.pages
  exact ⟨c, h1, h2, Nat.le_refl _, fun x h4 => h3 x h4⟩
theorem ArAt.pw {w : World} {b : Nat} {F : Nat → Prop} {m : AM} {d : Lie} (h : ArAt w ⟨b, F, m⟩ d) {i : Nat} (hi : i < m.cap) (hc : m.com i = true) : ∃ T, HE.holds w (d.pb i) (.row T 4096 4096 (bytes (fun o => m.mem (4096 * i + o)) 0)) := by
  obtain ⟨c, T, h1, h2, h3⟩ := h.page i hi hc
  exact ⟨T, c, h1, h2, Nat.le_refl _, fun x h4 => h3 x h4⟩
theorem ArAt.po1 {w : World} {b : Nat} {F : Nat → Prop} {m : AM} {d : Lie} (h : ArAt w ⟨b, F, m⟩ d) {i : Nat} (hi : i < m.cap) (hc : m.com i = true) : HE.holds w (d.pb i) (.fn 0 (0 + 4096) (bytes (fun o => m.mem (4096 * i + o)) 0)) := by
  obtain ⟨c, T, h1, h2, h3⟩ := h.page i hi hc
  exact ⟨c, T, (0, 0), h1, fun x _ h4 => h3 x (by omega)⟩

theorem rowE_lt {m : AM} {f n : Int} (h : n < 1) : rowE m f n = 2 := if_pos h
theorem rowC_lt {m : AM} {f n : Int} (h : n < 1) : rowC m f n = 0 := if_pos h
theorem rowE_ge {m : AM} {f n : Int} (h : 1 ≤ n) : rowE m f n = trnE m.cap f n := if_neg (by omega)
theorem rowC_ge {m : AM} {f n : Int} (h : 1 ≤ n) : rowC m f n = cntV m.com m.cap f n := if_neg (by omega)

theorem chk_out {m : AM} {a n : Int} (h : inB m a n = false) : (3 : Int) = chkE m a n := by unfold chkE thr; rw [h]; rfl
theorem chk_nil {m : AM} {a n : Int} (h : inB m a n = true) (h0 : n = 0) : (0 : Int) = chkE m a n := by unfold chkE thr; rw [h, h0]; rfl
theorem inB_facts {m : AM} {a n : Int} (h : inB m a n = true) : 0 ≤ a ∧ 0 ≤ n ∧ n ≤ (m.cap : Int) * 4096 ∧ a ≤ (m.cap : Int) * 4096 - n := by
  unfold inB at h
  simp only [Bool.and_eq_true, decide_eq_true_eq] at h
  omega
theorem cnt_here {m : AM} {a n : Int} (h : inB m a n = true) (h0 : n ≠ 0) : cntV m.com m.cap (a / 4096) ((a + n - 1) / 4096 - a / 4096 + 1) = ((cntR m.com (pg0 a) (pgN a n) : Nat) : Int) ∧ cntR m.com (pg0 a) (pgN a n) ≤ pgN a n ∧ (pgN a n : Int) = (a + n - 1) / 4096 - a / 4096 + 1 := by
  obtain ⟨h1, h2, h3, h4⟩ := inB_facts h
  have hw : wth m.cap (a / 4096) ((a + n - 1) / 4096 - a / 4096 + 1) = true := by
    unfold wth
    simp only [Bool.and_eq_true, decide_eq_true_eq]
    omega
  refine ⟨cntV_yes hw, cntR_le _ _ _, ?_⟩
  unfold pgN; omega
theorem chk_no {m : AM} {a n : Int} (h : inB m a n = true) (h0 : n ≠ 0) (hc : cntV m.com m.cap (a / 4096) ((a + n - 1) / 4096 - a / 4096 + 1) ≤ (a + n - 1) / 4096 - a / 4096) : (3 : Int) = chkE m a n := by
  obtain ⟨h1, h2, h3⟩ := cnt_here h h0
  unfold chkE thr
  have : ¬ cntR m.com (pg0 a) (pgN a n) = pgN a n := by omega
  rw [h]
  simp [h0, this]
theorem chk_yes {m : AM} {a n : Int} (h : inB m a n = true) (h0 : n ≠ 0) (hc : (a + n - 1) / 4096 - a / 4096 < cntV m.com m.cap (a / 4096) ((a + n - 1) / 4096 - a / 4096 + 1)) : (0 : Int) = chkE m a n := by
  obtain ⟨h1, h2, h3⟩ := cnt_here h h0
  unfold chkE thr
  have : cntR m.com (pg0 a) (pgN a n) = pgN a n := by omega
  rw [h]
  simp [this]
theorem inB_no {m : AM} {a n : Int} (h : a < 0 ∨ n < 0 ∨ (m.cap : Int) * 4096 < n ∨ (m.cap : Int) * 4096 - n < a) : inB m a n = false := by
  rw [Bool.eq_false_iff]
  intro hb
  have := inB_facts hb
  omega
theorem inB_yes {m : AM} {a n : Int} (h : 0 ≤ a) (h1 : 0 ≤ n) (h2 : n ≤ (m.cap : Int) * 4096) (h3 : a ≤ (m.cap : Int) * 4096 - n) : inB m a n = true := by
  unfold inB
  simp [h, h1, h2, h3]

/-! ## A new one -/
def AM.new (c : Int) : AM := ⟨capN c, fun _ => false, fun _ => 0, false, 0⟩

theorem countTo_none (n : Nat) : countTo (fun _ => false) n = 0 := by
  induction n with
  | zero => rfl
  | succ n ih => simp [countTo, ih]

theorem ar_new {w : World} {b bp bw nw cw n : Nat} {TA TP : TypeId} (h1 : HE.holds w b (.cells [sc bp 0 n n, vi (n : Int), sc bw 0 nw cw, vi 0, vb false, vi 0] TA)) (h2 : HE.holds w bp (.row TP n n zerosP)) (h3 : HE.holds w bw (.fn 0 (0 + nw) (u64s (fun _ => 0) 0)))
    (e1 : b ≠ bp) (e2 : b ≠ bw) (e3 : bp ≠ bw) (hn : n ≤ 1048576) (hw : nw = (n + 63) / 64) : (arR b (fun k => k = b ∨ k = bp ∨ k = bw) ⟨n, fun _ => false, fun _ => 0, false, 0⟩).R w := by
  obtain ⟨c, k1, k2, k3, k4⟩ := h2
  obtain ⟨c3, T, fz, k5, k6⟩ := h3
  refine ⟨⟨bp, bw, 0, nw, cw, fun _ => 0, fun _ => 0, TA, TP⟩, ?_, ⟨c, k1, k2, fun i hi => k4 i hi⟩, ⟨c3, T, fz, k5, fun j hj => ?_⟩, ?_, (fun i _ h => by cases h), e1, e2, e3, (fun i _ h => by cases h), (fun i j _ h => by cases h), hn, (show 0 < 2 ^ 63 by decide), fun k => ?_⟩
  · rw [countTo_none]; exact h1
  · have hj : j < nw := hj
    have := k6 (0 + j) (by omega) (by omega)
    exact this
  · subst hw; exact words_none n
  · constructor
    · rintro (h | h | h)
      · exact .inl h
      · exact .inr (.inl h)
      · exact .inr (.inr (.inl h))
    · rintro (h | h | h | ⟨i, _, h, _⟩)
      · exact .inl h
      · exact .inr (.inl h)
      · exact .inr (.inr h)
      · cases h

end Go.Proofs.YtlnecfdbmoilbaaDoor.K
