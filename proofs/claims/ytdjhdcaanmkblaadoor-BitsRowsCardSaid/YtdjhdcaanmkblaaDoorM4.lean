import Derived.Test.YtdjhdcaanmkblaaDoorM3
import Derived.Test.YtdjhdcaanmkblaaDoorProg
/-
  A walk by computing: slices that grow from nothing, by elements of any number of cells, as something that a walk holds.
-/
namespace Go.Proofs.YtdjhdcaanmkblaaDoor.K
set_option linter.unusedSimpArgs false
set_option linter.unusedVariables false

/-- What a slice that grows holds: so many elements, of sz cells each. -/
def GrV (e : TypeId) (sz : Nat) (w : World) (v : Value) (F : Nat → Prop) (n : Nat) (f : Nat → Value) : Prop :=
  (v = vnil ∧ n = 0 ∧ ∀ k, ¬ F k) ∨ ∃ g cap, v = sc g 0 n cap ∧ 0 < n ∧ HE.holds w g (.row e (n * sz) (cap * sz) f) ∧ n ≤ cap ∧ ∀ k, F k ↔ k = g

theorem GrV.slice {e : TypeId} {sz : Nat} {w : World} {v : Value} {F : Nat → Prop} {n : Nat} {f : Nat → Value} (h : GrV e sz w v F n f) : ∃ x c, v = .slice x n c := by
  rcases h with ⟨rfl, rfl, _⟩ | ⟨g, cap, rfl, _⟩
  · exact ⟨none, 0, rfl⟩
  · exact ⟨_, _, rfl⟩

section
variable {P : Program} {c : Cx} {n : Nat} {E : Env} {H : Heap} {A : List Res} {a : Act} {w : World} {o : Oper}

end

section
variable {P : Program} {c : Cx} {n : Nat} {E : Env} {H : Heap} {A : List Res} {a : Act} {w : World}
end

end Go.Proofs.YtdjhdcaanmkblaaDoor.K

/-
  A walk by computing: regions that draw their order, where operations that turn memory may come in one order or another: all are walked.
-/
namespace Go.Proofs.YtdjhdcaanmkblaaDoor.K
set_option linter.unusedSimpArgs false
set_option linter.unusedVariables false

section
variable {P : Program} {ops : Array Oper} {V : World → Prop} {Q : Exit → Act → World → Prop}

variable {c : Cx} {n : Nat} {E : Env} {H Hf : Heap} {A : List Res} {a : Act} {w : World} {R : Act → World → Prop}
end
end Go.Proofs.YtdjhdcaanmkblaaDoor.K

/-
  Records of fields, plainly: widths, where a field begins, what fits, what is put and told.
-/
namespace Go.Proofs.YtdjhdcaanmkblaaDoor.K
set_option linter.unusedSimpArgs false
set_option linter.unusedVariables false

def okw (w : Int) : Bool := w == 1 || w == 2 || w == 4 || w == 8
def okW (l : List Int) : Prop := 0 < l.length ∧ l.length ≤ 32 ∧ l.all okw = true
/-- The first n widths together. -/
def sumT (l : List Int) : Nat → Int
  | 0 => 0
  | n + 1 => sumT l n + l.getD n 0

instance (l : List Int) : Decidable (okW l) := by unfold okW; exact inferInstance
theorem okw_in {w : Int} (h : okw w = true) : w = 1 ∨ w = 2 ∨ w = 4 ∨ w = 8 := by
  unfold okw at h; simp at h; omega
theorem all_at {l : List Int} (h : l.all okw = true) {i : Nat} (hi : i < l.length) : okw (l.getD i 0) = true := by
  rw [List.getD_eq_getElem?_getD, List.getElem?_eq_getElem hi]
  exact List.all_eq_true.1 h _ (List.getElem_mem hi)
theorem okW_at {l : List Int} (h : okW l) {i : Nat} (hi : i < l.length) : l.getD i 0 = 1 ∨ l.getD i 0 = 2 ∨ l.getD i 0 = 4 ∨ l.getD i 0 = 8 := okw_in (all_at h.2.2 hi)
theorem okW_le {l : List Int} (h : okW l) (i : Nat) : 0 ≤ l.getD i 0 ∧ l.getD i 0 ≤ 8 := by
  rcases Nat.lt_or_ge i l.length with hi | hi
  · have := okW_at h hi; omega
  · rw [List.getD_eq_getElem?_getD, List.getElem?_eq_none hi]; decide
theorem sumT_bd {l : List Int} (h : okW l) : ∀ n : Nat, 0 ≤ sumT l n ∧ sumT l n ≤ 8 * (n : Int)
  | 0 => by unfold sumT; omega
  | n + 1 => by
    have := sumT_bd h n; have := okW_le h n
    unfold sumT; omega
theorem sumT_mono {l : List Int} (h : okW l) {i : Nat} : ∀ {n : Nat}, i + 1 ≤ n → sumT l i + l.getD i 0 ≤ sumT l n
  | 0, hi => by omega
  | n + 1, hi => by
    rcases Nat.lt_or_ge i n with h1 | h1
    · have := sumT_mono h (i := i) (n := n) (by omega); have := okW_le h n; show _ ≤ sumT l n + l.getD n 0; omega
    · obtain rfl : i = n := by omega
      show _ ≤ sumT l i + l.getD i 0; omega
/-- Where a field begins. -/
def atW (l : List Int) (i : Int) : Int := if 0 ≤ i ∧ i < (l.length : Int) then sumT l i.toNat else 0
theorem atW_in {l : List Int} {i : Int} (h : 0 ≤ i ∧ i < (l.length : Int)) : sumT l i.toNat = atW l i := by unfold atW; rw [if_pos h]
def hasW (l : List Int) (i : Int) : Bool := decide (0 ≤ i) && decide (i < (l.length : Int))
/-- Has a number no more bytes than a field? -/
def fitW (w x : Int) : Bool := w == 8 || x / 2 ^ (8 * w).toNat == 0
/-- What Set makes of an arena, and answers. -/
def setE (l : List Int) (m : AM) (o z i x : Int) : Int := if hasW l i then (if fitW (l.getD i.toNat 0) x then vstE m o z (atW l i) (l.getD i.toNat 0) else 16) else 2
def setM (l : List Int) (m : AM) (o z i x : Int) : AM := if hasW l i then (if fitW (l.getD i.toNat 0) x then vstM m o z (atW l i) (l.getD i.toNat 0) x else m) else m
theorem set_4 {l : List Int} {m : AM} {o z i x : Int} (h : hasW l i = false) : m = setM l m o z i x := by unfold setM; rw [h]; rfl
theorem set_5 {l : List Int} {m : AM} {o z i x : Int} (h2 : fitW (l.getD i.toNat 0) x = false) : m = setM l m o z i x := by unfold setM; rw [h2]; split <;> rfl
def getW (l : List Int) (m : AM) (o z i : Int) : Int := if hasW l i then vldV m o z (atW l i) (l.getD i.toNat 0) else 0
theorem hasW_in {l : List Int} {i : Int} (h : hasW l i = true) : 0 ≤ i ∧ i < (l.length : Int) := by unfold hasW at h; simpa using h

/-- A view's bytes. -/
def vbyE (m : AM) (o z a n : Int) : Int := if vchE z a n = 0 then chkE m (o + a) n else 3
/-- All fields are put, one behind the other. -/
def putA (l : List Int) (o z : Int) (nums : Nat → Nat) (m : AM) : Nat → AM
  | 0 => m
  | k + 1 => setM l (putA l o z nums m k) o z (k : Int) ((nums k : Nat) : Int)
def fitA (l : List Int) (nums : Nat → Nat) : Nat → Bool
  | 0 => true
  | k + 1 => fitA l nums k && fitW (l.getD k 0) ((nums k : Nat) : Int)
def pRE (l : List Int) (nn : Nat) (nums : Nat → Nat) (m : AM) (o z : Int) : Int := if nn ≠ l.length then 2 else if fitA l nums l.length then vbyE m o z 0 (sumT l l.length) else 16
def pRM (l : List Int) (nn : Nat) (nums : Nat → Nat) (m : AM) (o z : Int) : AM := if nn ≠ l.length then m else if fitA l nums l.length then (if vbyE m o z 0 (sumT l l.length) = 0 then putA l o z nums m l.length else m) else m
end Go.Proofs.YtdjhdcaanmkblaaDoor.K

/-
  Walks, printed by w2.py.
-/
namespace Go.Proofs.YtdjhdcaanmkblaaDoor.K
set_option linter.unusedVariables false
set_option linter.unusedSimpArgs false

end Go.Proofs.YtdjhdcaanmkblaaDoor.K

/-
  Walks, printed by w2.py.
-/
namespace Go.Proofs.YtdjhdcaanmkblaaDoor.K
set_option linter.unusedVariables false
set_option linter.unusedSimpArgs false

end Go.Proofs.YtdjhdcaanmkblaaDoor.K

/-
  Walks, printed by w2.py.
-/
namespace Go.Proofs.YtdjhdcaanmkblaaDoor.K
set_option linter.unusedVariables false
set_option linter.unusedSimpArgs false

end Go.Proofs.YtdjhdcaanmkblaaDoor.K
