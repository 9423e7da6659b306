/-
  Members in whatever order; lists of u16 numbers in arrays.
-/
import Derived.Test.YtdjhdcaanmkblaaDoorNc
namespace Go.Proofs.YtdjhdcaanmkblaaDoor.K
set_option linter.unusedSimpArgs false
set_option linter.unusedVariables false

theorem lj1_com2 (m : AM) (o z k : Int) (L : List Int) (at_ : Int) : (lsaM m o z k L at_).cap = m.cap ∧ (lsaM m o z k L at_).com = m.com := by
  unfold lsaM
  split
  · exact ⟨(ljM_com _ _ _ _ _ _).1.trans (ljM_com _ _ _ _ _ _).1, (ljM_com _ _ _ _ _ _).2.trans (ljM_com _ _ _ _ _ _).2⟩
  · exact ⟨rfl, rfl⟩
theorem lsrM_com (m : AM) (o z k : Int) (L : List Int) (at_ : Int) : (lsrM m o z k L at_).cap = m.cap ∧ (lsrM m o z k L at_).com = m.com := by
  unfold lsrM
  split
  · exact ljM_com _ _ _ _ _ _
  · exact ⟨rfl, rfl⟩
def lBase : AM := comM (AM.new 3) 0 2
theorem lBase_thr {a n : Int} (h : 0 ≤ a ∧ 0 ≤ n ∧ a + n ≤ 8192) : thr lBase a n = true := by
  have h1 : thr lBase 0 8192 = true := by decide +kernel
  exact thr_sub h1 (by omega) (by omega) h.2.1
/-- Lists with no members yet. -/
theorem lq_zero {z : Int} {n : Nat} (hz : 8 * (n : Int) ≤ z ∧ 64 + z ≤ 4096) : LQ lBase 64 z n (fun _ => []) := by
  refine ⟨lBase_thr (by omega), by decide, hz.1, fun k hk a ha => (nomatch ha), fun k k' _ _ a a' ha => (nomatch ha), fun k hk => List.Pairwise.nil, fun k hk i hi => ?_⟩
  have hi : i = 0 := by simpa using hi
  subst hi
  have hm : ∀ x, lBase.mem x = 0 := comM_zero (fun _ => rfl) 0 2
  show lnx lBase 64 z (k : Int) 0 = 0
  unfold lnx vldV
  rw [if_pos rfl, ld_zero hm]
  simp [IntKind.wrap]
  decide
/-- One list of members at multiples of 16. -/
def atA (f : Nat → Nat) (i : Nat) : Int := 4096 + 16 * ((f i % 256 : Nat) : Int)
structure LO (m : AM) (f : Nat → Nat) (L : List Int) (b : Int) : Prop where
  lq : LQ m 64 11 1 (fun _ => L)
  cap : m.cap = lBase.cap
  com : m.com = lBase.com
  of_ : ∀ a, a ∈ L → ∃ j : Nat, (j : Int) < b ∧ a = atA f j
section
variable {m : AM} {f : Nat → Nat} {L : List Int} {b : Int}
theorem LO.ps (h : LO m f L b) : ∀ a, a ∈ L → 0 < a ∧ a ≤ 4611686018427387904 := h.lq.ps (k := 0) (by decide)
theorem LO.ch (h : LO m f L b) : ChainL m 64 11 0 L := h.lq.chain 0 (by decide)
theorem LO.rise (h : LO m f L b) : L.Pairwise (· < ·) := h.lq.rise 0 (by decide)
theorem LO.thr (h : LO m f L b) {a n : Int} (q : 0 ≤ a ∧ 0 ≤ n ∧ a + n ≤ 8192) : thr m a n = true := (thr_same h.cap h.com a n).trans (lBase_thr q)
end
/-- Two lists with the members of which a call asks. -/
def qW (l : List Int) (k : Nat) : List Int := if k = 0 then l else []
structure LW (m : AM) (l : List Int) : Prop where
  lq : LQ m 64 19 2 (qW l)
  cap : m.cap = lBase.cap
  com : m.com = lBase.com
section
variable {m : AM} {l : List Int}
theorem LW.thr (h : LW m l) {a n : Int} (q : 0 ≤ a ∧ 0 ≤ n ∧ a + n ≤ 8192) : thr m a n = true := (thr_same h.cap h.com a n).trans (lBase_thr q)
theorem LW.ch (h : LW m l) : ChainL m 64 19 0 l := h.lq.chain 0 (by decide)
theorem LW.ps (h : LW m l) : ∀ a, a ∈ l → 0 < a ∧ a ≤ 4611686018427387904 := h.lq.ps (k := 0) (by decide)
theorem LW.add (h : LW m l) {at_ : Int} (ha : 4096 ≤ at_ ∧ at_ ≤ 8176) (hn : ∀ a, a ∈ l → a + 16 ≤ at_ ∨ at_ + 16 ≤ a) : lsaE m l at_ = (if l.getD (cntL l at_) 0 = at_ then 9 else 0) ∧ LW (lsaM m 64 19 0 l at_) (addL l at_) := by
  obtain ⟨e1, e2⟩ := h.lq.put (k := 0) (at_ := at_) (by decide) ⟨by omega, h.thr (by omega), by omega, by omega⟩ (fun k' hk' a hm => by
    unfold qW at hm
    split at hm
    · exact .inr (hn a hm)
    · exact nomatch hm)
  have hc := lj1_com2 m 64 19 0 l at_
  refine ⟨e1, ⟨e2.congr fun k hk => ?_, hc.1.trans h.cap, hc.2.trans h.com⟩⟩
  unfold updQ qW
  by_cases e : k = 0
  · rw [if_pos e, if_pos e]; rfl
  · simp only [if_neg e]
theorem LW.del (h : LW m l) (at_ : Int) : LW (lsrM m 64 19 0 l at_) (delL l at_) := by
  have e2 := h.lq.del (k := 0) (by decide) at_
  have hc := lsrM_com m 64 19 0 l at_
  refine ⟨e2.congr fun k hk => ?_, hc.1.trans h.cap, hc.2.trans h.com⟩
  unfold updQ qW
  by_cases e : k = 0
  · rw [if_pos e, if_pos e]; rfl
  · simp only [if_neg e]
end
end Go.Proofs.YtdjhdcaanmkblaaDoor.K
