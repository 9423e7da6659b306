import Derived.Test.YtnbkafnikpbmbaaDoorM3
import Derived.Test.YtnbkafnikpbmbaaDoorProg
/-
  A walk by computing: slices that grow from nothing, by elements of any number of cells, as something that a walk holds.
-/
namespace Go.Proofs.YtnbkafnikpbmbaaDoor.K
set_option linter.unusedSimpArgs false
set_option linter.unusedVariables false

/-- What a slice that grows holds: so many elements, of sz cells each. -/
def GrV (e : TypeId) (sz : Nat) (w : World) (v : Value) (F : Nat → Prop) (n : Nat) (f : Nat → Value) : Prop :=
  (v = vnil ∧ n = 0 ∧ ∀ k, ¬ F k) ∨ ∃ g cap, v = sc g 0 n cap ∧ 0 < n ∧ HE.holds w g (.row e (n * sz) (cap * sz) f) ∧ n ≤ cap ∧ ∀ k, F k ↔ k = g

theorem GrV.slice {e : TypeId} {sz : Nat} {w : World} {v : Value} {F : Nat → Prop} {n : Nat} {f : Nat → Value} (h : GrV e sz w v F n f) : ∃ x c, v = .slice x n c := by
  rcases h with ⟨rfl, rfl, _⟩ | ⟨g, cap, rfl, _⟩
  · exact ⟨none, 0, rfl⟩
  · exact ⟨_, _, rfl⟩

def grR (e : TypeId) (sz : Nat) (v : Value) (F : Nat → Prop) (q : Nat × (Nat → Value)) : Res := ⟨F, fun w => GrV e sz w v F q.1 q.2, fun w h k hk => by
  rcases h with ⟨_, _, h⟩ | ⟨g, cap, _, _, h, _, hF⟩
  · exact absurd hk (h k)
  · rw [(hF k).1 hk]; exact h.lt, fun w w' h he => by
  rcases h with h | ⟨g, cap, h1, h2, h3, h4, hF⟩
  · exact .inl h
  · exact .inr ⟨g, cap, h1, h2, h3.congr (he g ((hF g).2 rfl)), h4, hF⟩⟩

section
variable {P : Program} {c : Cx} {n : Nat} {E : Env} {H : Heap} {A : List Res} {a : Act} {w : World} {o : Oper}

/-- A slice that begins with nothing. -/
theorem WS.grNew (h : WS c H A w) (e : TypeId) (sz : Nat) (f : Nat → Value) : WS c H (A ++ [grR e sz vnil no (0, f)]) w :=
  h.newA (r := grR e sz vnil no (0, f)) (.inl ⟨rfl, rfl, fun _ h => h⟩) ((Fr.refl w no).to (fun k hk => hk.elim) (fun k hk => hk.elim))

/-- Told in another way. -/
theorem WS.grTell {e : TypeId} {sz m : Nat} {v : Value} {F : Nat → Prop} {f : Nat → Value} (h : WS c H A w) (j : Nat) (f' : Nat → Value) (hf : ∀ x, x < m * sz → f x = f' x) (hj : A[j]? = some (grR e sz v F (m, f)) := by rfl) : WS c H (A.set j (grR e sz v F (m, f'))) w := by
  have hB : GrV e sz w v F m f := h.ars.each _ (List.mem_of_getElem? hj)
  refine h.stepA j (r' := grR e sz v F (m, f')) hj ?_ ((Fr.refl w no).to (fun k hk => hk.elim) (fun k hk => .inl hk))
  rcases hB with h | ⟨g, cap, h1, h2, h3, h4, hF⟩
  · exact .inl h
  · exact .inr ⟨g, cap, h1, h2, HE.row_eq h3 (fun x hx => (hf x hx).symm), h4, hF⟩

theorem WS.grRe {e : TypeId} {sz m m' : Nat} {v v' : Value} {F : Nat → Prop} {f : Nat → Value} (h : WS c H A w) (j : Nat) (hv : v = v') (hm : m = m') (hj : A[j]? = some (grR e sz v F (m, f)) := by rfl) : WS c H (A.set j (grR e sz v' F (m', f))) w := by
  subst hv hm
  exact h.grTell j f (fun _ _ => rfl) hj

/-- What has grown lies there as a block of our own. -/
theorem WS.grOpen {e : TypeId} {sz m : Nat} {v : Value} {F : Nat → Prop} {f : Nat → Value} (h : WS c H [grR e sz v F (m, f)] w) (hm : 0 < m) : ∃ g cap, v = sc g 0 m cap ∧ m ≤ cap ∧ WS c (H ++ [(g, .row e (m * sz) (cap * sz) f)]) [] w := by
  have hB : GrV e sz w v F m f := h.res 0
  rcases hB with ⟨_, h1, _⟩ | ⟨g, cap, rfl, h2, h3, h4, hF⟩
  · omega
  have hin : inF [grR e sz (sc g 0 m cap) F (m, f)] g := .inl ((hF g).2 rfl)
  refine ⟨g, cap, rfl, h4, fun q hq => ?_, ?_, fun q hq ho => ?_, fun q hq hk => hk.elim, AllAr.nil w, h.fr.to (fun k hk => .inl hk) (fun k hk => hk.elim)⟩
  · rcases List.mem_append.1 hq with hq | hq
    · exact h.heap q hq
    · obtain rfl := List.mem_singleton.1 hq; exact h3
  · rw [List.pairwise_append]
    refine ⟨h.apart, List.pairwise_singleton _ _, fun p hp q hq ho e => ?_⟩
    obtain rfl := List.mem_singleton.1 hq
    exact h.free p hp (show inF _ p.1 from (show p.1 = g from e) ▸ hin)
  · rcases List.mem_append.1 hq with hq | hq
    · exact h.mine q hq ho
    · obtain rfl := List.mem_singleton.1 hq
      exact (h.fr.foot _ hin).symm
end

section
variable {P : Program} {c : Cx} {n : Nat} {E : Env} {H : Heap} {A : List Res} {a : Act} {w : World}
end

end Go.Proofs.YtnbkafnikpbmbaaDoor.K

/-
  A walk by computing: regions that draw their order, where operations that turn memory may come in one order or another: all are walked.
-/
namespace Go.Proofs.YtnbkafnikpbmbaaDoor.K
set_option linter.unusedSimpArgs false
set_option linter.unusedVariables false

section
variable {P : Program} {ops : Array Oper} {V : World → Prop} {Q : Exit → Act → World → Prop}

variable {c : Cx} {n : Nat} {E : Env} {H Hf : Heap} {A : List Res} {a : Act} {w : World} {R : Act → World → Prop}
end
end Go.Proofs.YtnbkafnikpbmbaaDoor.K

/-
  Records of fields, plainly: widths, where a field begins, what fits, what is put and told.
-/
namespace Go.Proofs.YtnbkafnikpbmbaaDoor.K
set_option linter.unusedSimpArgs false
set_option linter.unusedVariables false

def okw (w : Int) : Bool := w == 1 || w == 2 || w == 4 || w == 8
def okW (l : List Int) : Prop := 0 < l.length ∧ l.length ≤ 32 ∧ l.all okw = true
/-- The first n widths together. -/
def sumT (l : List Int) : Nat → Int
  | 0 => 0
  | n + 1 => sumT l n + l.getD n 0

instance (l : List Int) : Decidable (okW l) := by unfold okW; exact inferInstance
theorem okw_in {w : Int} (h : okw w = true) : w = 1 ∨ w = 2 ∨ w = 4 ∨ w = 8 := by
  unfold okw at h; simp at h; omega
theorem all_at {l : List Int} (h : l.all okw = true) {i : Nat} (hi : i < l.length) : okw (l.getD i 0) = true := by
  rw [List.getD_eq_getElem?_getD, List.getElem?_eq_getElem hi]
  exact List.all_eq_true.1 h _ (List.getElem_mem hi)
theorem okW_at {l : List Int} (h : okW l) {i : Nat} (hi : i < l.length) : l.getD i 0 = 1 ∨ l.getD i 0 = 2 ∨ l.getD i 0 = 4 ∨ l.getD i 0 = 8 := okw_in (all_at h.2.2 hi)
theorem okW_le {l : List Int} (h : okW l) (i : Nat) : 0 ≤ l.getD i 0 ∧ l.getD i 0 ≤ 8 := by
  rcases Nat.lt_or_ge i l.length with hi | hi
  · have := okW_at h hi; omega
  · rw [List.getD_eq_getElem?_getD, List.getElem?_eq_none hi]; decide
theorem sumT_bd {l : List Int} (h : okW l) : ∀ n : Nat, 0 ≤ sumT l n ∧ sumT l n ≤ 8 * (n : Int)
  | 0 => by unfold sumT; omega
  | n + 1 => by
    have := sumT_bd h n; have := okW_le h n
    unfold sumT; omega
theorem sumT_mono {l : List Int} (h : okW l) {i : Nat} : ∀ {n : Nat}, i + 1 ≤ n → sumT l i + l.getD i 0 ≤ sumT l n
  | 0, hi => by omega
  | n + 1, hi => by
    rcases Nat.lt_or_ge i n with h1 | h1
    · have := sumT_mono h (i := i) (n := n) (by omega); have := okW_le h n; show _ ≤ sumT l n + l.getD n 0; omega
    · obtain rfl : i = n := by omega
      show _ ≤ sumT l i + l.getD i 0; omega
/-- Where a field begins. -/
def atW (l : List Int) (i : Int) : Int := if 0 ≤ i ∧ i < (l.length : Int) then sumT l i.toNat else 0
theorem atW_in {l : List Int} {i : Int} (h : 0 ≤ i ∧ i < (l.length : Int)) : sumT l i.toNat = atW l i := by unfold atW; rw [if_pos h]
def hasW (l : List Int) (i : Int) : Bool := decide (0 ≤ i) && decide (i < (l.length : Int))
/-- Has a number no more bytes than a field? -/
def fitW (w x : Int) : Bool := w == 8 || x / 2 ^ (8 * w).toNat == 0
/-- What Set makes of an arena, and answers. -/
def setE (l : List Int) (m : AM) (o z i x : Int) : Int := if hasW l i then (if fitW (l.getD i.toNat 0) x then vstE m o z (atW l i) (l.getD i.toNat 0) else 16) else 2
def setM (l : List Int) (m : AM) (o z i x : Int) : AM := if hasW l i then (if fitW (l.getD i.toNat 0) x then vstM m o z (atW l i) (l.getD i.toNat 0) x else m) else m
theorem set_4 {l : List Int} {m : AM} {o z i x : Int} (h : hasW l i = false) : m = setM l m o z i x := by unfold setM; rw [h]; rfl
theorem set_5 {l : List Int} {m : AM} {o z i x : Int} (h2 : fitW (l.getD i.toNat 0) x = false) : m = setM l m o z i x := by unfold setM; rw [h2]; split <;> rfl
def getW (l : List Int) (m : AM) (o z i : Int) : Int := if hasW l i then vldV m o z (atW l i) (l.getD i.toNat 0) else 0
theorem hasW_in {l : List Int} {i : Int} (h : hasW l i = true) : 0 ≤ i ∧ i < (l.length : Int) := by unfold hasW at h; simpa using h

/-- A view's bytes. -/
def vbyE (m : AM) (o z a n : Int) : Int := if vchE z a n = 0 then chkE m (o + a) n else 3
/-- All fields are put, one behind the other. -/
def putA (l : List Int) (o z : Int) (nums : Nat → Nat) (m : AM) : Nat → AM
  | 0 => m
  | k + 1 => setM l (putA l o z nums m k) o z (k : Int) ((nums k : Nat) : Int)
def fitA (l : List Int) (nums : Nat → Nat) : Nat → Bool
  | 0 => true
  | k + 1 => fitA l nums k && fitW (l.getD k 0) ((nums k : Nat) : Int)
def pRE (l : List Int) (nn : Nat) (nums : Nat → Nat) (m : AM) (o z : Int) : Int := if nn ≠ l.length then 2 else if fitA l nums l.length then vbyE m o z 0 (sumT l l.length) else 16
def pRM (l : List Int) (nn : Nat) (nums : Nat → Nat) (m : AM) (o z : Int) : AM := if nn ≠ l.length then m else if fitA l nums l.length then (if vbyE m o z 0 (sumT l l.length) = 0 then putA l o z nums m l.length else m) else m
end Go.Proofs.YtnbkafnikpbmbaaDoor.K

/-
  Walks, printed by w2.py.
-/
namespace Go.Proofs.YtnbkafnikpbmbaaDoor.K
set_option linter.unusedVariables false
set_option linter.unusedSimpArgs false

end Go.Proofs.YtnbkafnikpbmbaaDoor.K

/-
  Walks, printed by w2.py.
-/
namespace Go.Proofs.YtnbkafnikpbmbaaDoor.K
set_option linter.unusedVariables false
set_option linter.unusedSimpArgs false

end Go.Proofs.YtnbkafnikpbmbaaDoor.K

/-
  Walks, printed by w2.py.
-/
namespace Go.Proofs.YtnbkafnikpbmbaaDoor.K
set_option linter.unusedVariables false
set_option linter.unusedSimpArgs false

end Go.Proofs.YtnbkafnikpbmbaaDoor.K
