/-
  What Commit, Decommit and Refuse come to, plainly.
-/
import Derived.Test.YtlnecfdbmoilbaaDoorAo
namespace Go.Proofs.YtlnecfdbmoilbaaDoor.K
set_option linter.unusedSimpArgs false
set_option linter.unusedVariables false

theorem cntR_plus (p : Nat → Bool) : ∀ (n f k : Nat), cntR p f (n + k) = cntR p f n + cntR p (f + n) k
  | 0, f, k => by rw [Nat.zero_add, Nat.add_zero]; show _ = 0 + _; omega
  | n + 1, f, k => by
    rw [show n + 1 + k = (n + k) + 1 by omega]
    show (if p f then 1 else 0) + cntR p (f + 1) (n + k) = (if p f then 1 else 0) + cntR p (f + 1) n + _
    rw [cntR_plus p n (f + 1) k, show f + (n + 1) = f + 1 + n by omega]; omega
theorem cntR_same {p q : Nat → Bool} : ∀ (n f : Nat), (∀ x, f ≤ x → x < f + n → p x = q x) → cntR p f n = cntR q f n
  | 0, f, h => rfl
  | n + 1, f, h => by
    show (if p f then 1 else 0) + cntR p (f + 1) n = (if q f then 1 else 0) + cntR q (f + 1) n
    rw [h f (by omega) (by omega), cntR_same n (f + 1) fun x h1 h2 => h x (by omega) (by omega)]
theorem cntR_all {b : Bool} {p : Nat → Bool} : ∀ (n f : Nat), (∀ x, f ≤ x → x < f + n → p x = b) → cntR p f n = if b then n else 0
  | 0, f, h => by cases b <;> rfl
  | n + 1, f, h => by
    show (if p f then 1 else 0) + cntR p (f + 1) n = _
    rw [h f (by omega) (by omega), cntR_all n (f + 1) fun x h1 h2 => h x (by omega) (by omega)]
    cases b <;> simp; omega
theorem cntR_zero {p : Nat → Bool} : ∀ (n f : Nat), cntR p f n = 0 → ∀ x, f ≤ x → x < f + n → p x = false
  | 0, f, _, x, h1, h2 => by omega
  | n + 1, f, h, x, h1, h2 => by
    have h : (if p f then 1 else 0) + cntR p (f + 1) n = 0 := h
    have h3 : cntR p (f + 1) n = 0 := by omega
    by_cases e : x = f
    · subst e
      cases hp : p x with
      | false => rfl
      | true => rw [hp] at h; simp at h
    · exact cntR_zero n (f + 1) h3 x (by omega) (by omega)
theorem cntR_full {p : Nat → Bool} : ∀ (n f : Nat), cntR p f n = n → ∀ x, f ≤ x → x < f + n → p x = true
  | 0, f, _, x, h1, h2 => by omega
  | n + 1, f, h, x, h1, h2 => by
    have h : (if p f then 1 else 0) + cntR p (f + 1) n = n + 1 := h
    have h4 := cntR_le p n (f + 1)
    have h3 : cntR p (f + 1) n = n := by split at h <;> omega
    by_cases e : x = f
    · subst e
      cases hp : p x with
      | true => rfl
      | false => rw [hp] at h; simp at h; omega
    · exact cntR_full n (f + 1) h3 x (by omega) (by omega)
theorem countTo_cntR (p : Nat → Bool) (n : Nat) : countTo p n = cntR p 0 n := by
  induction n with
  | zero => rfl
  | succ n ih =>
    rw [cntR_plus p n 0 1]
    show countTo p n + (if p n then 1 else 0) = _
    rw [ih, Nat.zero_add]
    show _ = _ + ((if p n then 1 else 0) + 0)
    omega
theorem cnt_setR {p : Nat → Bool} {cap f n : Nat} {b : Bool} (h : f + n ≤ cap) (hp : ∀ x, f ≤ x → x < f + n → p x = !b) : (countTo (setR p f n b) cap : Int) = if b then (countTo p cap : Int) + n else (countTo p cap : Int) - n := by
  have e : cap = f + (n + (cap - f - n)) := by omega
  rw [countTo_cntR, countTo_cntR, e, cntR_plus, cntR_plus, cntR_plus p, cntR_plus p]
  rw [cntR_same (p := setR p f n b) (q := p) f 0 (fun x h1 h2 => by unfold setR; rw [if_neg (by omega)]), cntR_same (p := setR p f n b) (q := p) (cap - f - n) (0 + f + n) (fun x h1 h2 => by unfold setR; rw [if_neg (by omega)]),
    cntR_all (b := b) (p := setR p f n b) n (0 + f) (fun x h1 h2 => by unfold setR; rw [if_pos (by omega)]), cntR_all (b := !b) (p := p) n (0 + f) (fun x h1 h2 => hp x (by omega) (by omega))]
  cases b <;> simp <;> omega

def zeroP (mem : Nat → UInt8) (f n : Nat) (x : Nat) : UInt8 := if 4096 * f ≤ x ∧ x < 4096 * (f + n) then 0 else mem x

def comE (m : AM) (f n : Int) : Int := if rowE m f n ≠ 0 then rowE m f n else if 0 < rowC m f n then 9 else if m.armed = true ∧ m.refuse = 0 then 4 else 0
def comM (m : AM) (f n : Int) : AM := if rowE m f n ≠ 0 ∨ 0 < rowC m f n then m else if m.armed = true ∧ m.refuse = 0 then { m with armed := false } else ⟨m.cap, setR m.com f.toNat n.toNat true, zeroP m.mem f.toNat n.toNat, m.armed, m.refuse - 1⟩
def decE (m : AM) (f n : Int) : Int := if rowE m f n ≠ 0 then rowE m f n else if rowC m f n < n then 8 else 0
def decM (m : AM) (f n : Int) : AM := if rowE m f n ≠ 0 ∨ rowC m f n < n then m else { m with com := setR m.com f.toNat n.toNat false }
def refM (m : AM) (n : Int) : AM := { m with armed := true, refuse := (imax 0 n).toNat }

theorem refuse_dec (r : Nat) : imax 0 ((r : Int) - 1) = ((r - 1 : Nat) : Int) := by unfold imax; split <;> omega
theorem refuse_set (n : Int) : imax 0 n = (((imax 0 n).toNat : Nat) : Int) := by unfold imax; split <;> omega

theorem row_facts {m : AM} {f n : Int} (h : rowE m f n = 0) : 1 ≤ n ∧ 0 ≤ f ∧ f + n ≤ (m.cap : Int) ∧ wth m.cap f n = true ∧ rowC m f n = ((cntR m.com f.toNat n.toNat : Nat) : Int) := by
  unfold rowE at h
  split at h
  · omega
  · rename_i hn
    have hw := trnE_wth h
    obtain ⟨h1, h2, h3⟩ := wth_facts hw
    exact ⟨by omega, h1, by omega, hw, by rw [rowC_ge (by omega)]; exact cntV_yes hw⟩
theorem com_free {m : AM} {f n : Int} (h : rowE m f n = 0) (hc : rowC m f n ≤ 0) : ∀ x, f.toNat ≤ x → x < f.toNat + n.toNat → m.com x = false := by
  obtain ⟨h1, h2, h3, h4, h5⟩ := row_facts h
  exact cntR_zero _ _ (by omega)
theorem com_full {m : AM} {f n : Int} (h : rowE m f n = 0) (hc : n ≤ rowC m f n) : ∀ x, f.toNat ≤ x → x < f.toNat + n.toNat → m.com x = true := by
  obtain ⟨h1, h2, h3, h4, h5⟩ := row_facts h
  have := cntR_le m.com n.toNat f.toNat
  exact cntR_full _ _ (by omega)

theorem comX_step {p : Nat → Bool} {f x : Int} (h0 : 0 ≤ f) (h1 : f ≤ x) : setB (setR p f.toNat (x - f).toNat true) x.toNat true = setR p f.toNat (x + 1 - f).toNat true := by
  funext y
  unfold setB setR
  by_cases h : y = x.toNat
  · rw [if_pos h, if_pos (by omega)]
  · rw [if_neg h]
    by_cases h2 : f.toNat ≤ y ∧ y < f.toNat + (x - f).toNat
    · rw [if_pos h2, if_pos (by omega)]
    · rw [if_neg h2, if_neg (by omega)]
theorem memX_step {mem : Nat → UInt8} {f x : Int} (h0 : 0 ≤ f) (h1 : f ≤ x) : putPg (zeroP mem f.toNat (x - f).toNat) x.toNat (fun _ => 0) = zeroP mem f.toNat (x + 1 - f).toNat := by
  funext y
  unfold putPg zeroP
  by_cases h : 4096 * x.toNat ≤ y ∧ y < 4096 * x.toNat + 4096
  · rw [if_pos h, if_pos (by omega)]
  · rw [if_neg h]
    by_cases h2 : 4096 * f.toNat ≤ y ∧ y < 4096 * (f.toNat + (x - f).toNat)
    · rw [if_pos h2, if_pos (by omega)]
    · rw [if_neg h2, if_neg (by omega)]
theorem setR_none (p : Nat → Bool) (f : Nat) (b : Bool) : setR p f 0 b = p := by
  funext y; unfold setR; rw [if_neg (by omega)]
theorem zeroP_none (mem : Nat → UInt8) (f : Nat) : zeroP mem f 0 = mem := by
  funext y; unfold zeroP; rw [if_neg (by omega)]

theorem pagesV_putv (com : Nat → Bool) (pb : Nat → Nat) (i v o : Nat) : pagesV (setB com i true) (putN pb i v) 0 o = if o = i then Value.pointer (some ⟨v, 0, none⟩) else pagesV com pb 0 o := by
  unfold pagesV setB putN
  simp only [Nat.sub_zero]
  by_cases h : o = i
  · simp [h]
  · simp [h]
theorem pagesV_rel (com : Nat → Bool) (pb : Nat → Nat) (i : Nat) : pagesV com pb 0 (0 + i * 1) = .pointer (if com i then some ⟨pb i, 0, none⟩ else none) := by unfold pagesV; simp
theorem pagesV_abs (com : Nat → Bool) (pb : Nat → Nat) (i : Nat) : pagesV com pb 0 i = .pointer (if com i then some ⟨pb i, 0, none⟩ else none) := rfl

theorem com_no {m : AM} {f n : Int} (h : rowE m f n ≠ 0 ∨ 0 < rowC m f n) : m = comM m f n := by unfold comM; rw [if_pos h]
theorem com_ref {m : AM} {f n : Int} (h : rowE m f n = 0) (hc : rowC m f n ≤ 0) (ha : m.armed = true) (hr : m.refuse = 0) : ({ m with armed := false } : AM) = comM m f n := by
  unfold comM; rw [if_neg (by omega), if_pos ⟨ha, hr⟩]
theorem com_yes {m : AM} {f n : Int} (h : rowE m f n = 0) (hc : rowC m f n ≤ 0) (ha : ¬ (m.armed = true ∧ m.refuse = 0)) : (⟨m.cap, setR m.com f.toNat n.toNat true, zeroP m.mem f.toNat n.toNat, m.armed, m.refuse - 1⟩ : AM) = comM m f n := by
  unfold comM; rw [if_neg (by omega), if_neg ha]
theorem dec_no {m : AM} {f n : Int} (h : rowE m f n ≠ 0 ∨ rowC m f n < n) : m = decM m f n := by unfold decM; rw [if_pos h]
theorem dec_yes {m : AM} {f n : Int} (h : rowE m f n = 0) (hc : n ≤ rowC m f n) : ({ m with com := setR m.com f.toNat n.toNat false } : AM) = decM m f n := by unfold decM; rw [if_neg (by omega)]

theorem setR_sub {p : Nat → Bool} {f n i : Nat} (h : setR p f n false i = true) : p i = true := by unfold setR at h; split at h; cases h; exact h
theorem countTo_le (p : Nat → Bool) (n : Nat) : countTo p n ≤ n := by rw [countTo_cntR]; exact cntR_le p n 0
theorem add_nat {a : Nat} {n : Int} (h : 0 ≤ n) : (a : Int) + n = ((a + n.toNat : Nat) : Int) := by omega
theorem com_next {m : AM} {f n x : Int} (h : rowE m f n = 0) (h1 : f ≤ x) (h2 : x < f + n) (hf : ∀ x, f.toNat ≤ x → x < f.toNat + n.toNat → m.com x = false) : setR m.com f.toNat (x - f).toNat true x.toNat = false := by
  obtain ⟨q1, q2, q3, _⟩ := row_facts h
  unfold setR
  rw [if_neg (by omega)]
  exact hf _ (by omega) (by omega)
theorem cnt_up {m : AM} {f n : Int} (h : rowE m f n = 0) (hc : rowC m f n ≤ 0) : countTo m.com m.cap + n.toNat = countTo (setR m.com f.toNat n.toNat true) m.cap := by
  obtain ⟨q1, q2, q3, _⟩ := row_facts h
  have := cnt_setR (p := m.com) (cap := m.cap) (f := f.toNat) (n := n.toNat) (b := true) (by omega) (com_free h hc)
  rw [if_pos rfl] at this; omega
theorem cnt_down {m : AM} {f n : Int} (h : rowE m f n = 0) (hc : n ≤ rowC m f n) : countTo m.com m.cap - n.toNat = countTo (setR m.com f.toNat n.toNat false) m.cap ∧ n.toNat ≤ countTo m.com m.cap := by
  obtain ⟨q1, q2, q3, _⟩ := row_facts h
  have := cnt_setR (p := m.com) (cap := m.cap) (f := f.toNat) (n := n.toNat) (b := false) (by omega) (com_full h hc)
  rw [if_neg (by decide)] at this; omega
theorem com_e1 {m : AM} {f n : Int} (h : rowE m f n ≠ 0) : comE m f n = rowE m f n := by unfold comE; rw [if_pos h]
theorem com_e2 {m : AM} {f n : Int} (h : rowE m f n = 0) (hc : 0 < rowC m f n) : comE m f n = 9 := by unfold comE; rw [if_neg (by omega), if_pos hc]
theorem com_e3 {m : AM} {f n : Int} (h : rowE m f n = 0) (hc : rowC m f n ≤ 0) (ha : m.armed = true) (hr : m.refuse = 0) : comE m f n = 4 := by unfold comE; rw [if_neg (by omega), if_neg (by omega), if_pos ⟨ha, hr⟩]
theorem com_e4 {m : AM} {f n : Int} (h : rowE m f n = 0) (hc : rowC m f n ≤ 0) (ha : ¬ (m.armed = true ∧ m.refuse = 0)) : comE m f n = 0 := by unfold comE; rw [if_neg (by omega), if_neg (by omega), if_neg ha]
theorem dec_e1 {m : AM} {f n : Int} (h : rowE m f n ≠ 0) : decE m f n = rowE m f n := by unfold decE; rw [if_pos h]
theorem dec_e2 {m : AM} {f n : Int} (h : rowE m f n = 0) (hc : rowC m f n < n) : decE m f n = 8 := by unfold decE; rw [if_neg (by omega), if_pos hc]
theorem dec_e3 {m : AM} {f n : Int} (h : rowE m f n = 0) (hc : n ≤ rowC m f n) : decE m f n = 0 := by unfold decE; rw [if_neg (by omega), if_neg (by omega)]

end Go.Proofs.YtlnecfdbmoilbaaDoor.K
