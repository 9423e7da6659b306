import Derived.Test.YtnbkafnikpbmbaaDoorM3
import Derived.Test.YtnbkafnikpbmbaaDoorProg
/-
  A walk by computing: slices that grow from nothing, by elements of any number of cells, as something that a walk holds.
-/
namespace Go.Proofs.YtnbkafnikpbmbaaDoor.K
set_option linter.unusedSimpArgs false
set_option linter.unusedVariables false

/-- What a slice that grows holds: so many elements, of sz cells each. -/
def GrV (e : TypeId) (sz : Nat) (w : World) (v : Value) (F : Nat → Prop) (n : Nat) (f : Nat → Value) : Prop :=
  (v = vnil ∧ n = 0 ∧ ∀ k, ¬ F k) ∨ ∃ g cap, v = sc g 0 n cap ∧ 0 < n ∧ HE.holds w g (.row e (n * sz) (cap * sz) f) ∧ n ≤ cap ∧ ∀ k, F k ↔ k = g

theorem GrV.slice {e : TypeId} {sz : Nat} {w : World} {v : Value} {F : Nat → Prop} {n : Nat} {f : Nat → Value} (h : GrV e sz w v F n f) : ∃ x c, v = .slice x n c := by
  rcases h with ⟨rfl, rfl, _⟩ | ⟨g, cap, rfl, _⟩
  · exact ⟨none, 0, rfl⟩
  · exact ⟨_, _, rfl⟩

section
variable {P : Program} {c : Cx} {n : Nat} {E : Env} {H : Heap} {A : List Res} {a : Act} {w : World} {o : Oper}

end

section
variable {P : Program} {c : Cx} {n : Nat} {E : Env} {H : Heap} {A : List Res} {a : Act} {w : World}
end

end Go.Proofs.YtnbkafnikpbmbaaDoor.K

/-
  A walk by computing: regions that draw their order, where operations that turn memory may come in one order or another: all are walked.
-/
namespace Go.Proofs.YtnbkafnikpbmbaaDoor.K
set_option linter.unusedSimpArgs false
set_option linter.unusedVariables false

section
variable {P : Program} {ops : Array Oper} {V : World → Prop} {Q : Exit → Act → World → Prop}

variable {c : Cx} {n : Nat} {E : Env} {H Hf : Heap} {A : List Res} {a : Act} {w : World} {R : Act → World → Prop}
end
end Go.Proofs.YtnbkafnikpbmbaaDoor.K

/-
  Records of fields, plainly: widths, where a field begins, what fits, what is put and told.
-/
namespace Go.Proofs.YtnbkafnikpbmbaaDoor.K
set_option linter.unusedSimpArgs false
set_option linter.unusedVariables false

def okw (w : Int) : Bool := w == 1 || w == 2 || w == 4 || w == 8
def okW (l : List Int) : Prop := 0 < l.length ∧ l.length ≤ 32 ∧ l.all okw = true
/-- The first n widths together. -/
def sumT (l : List Int) : Nat → Int
  | 0 => 0
  | n + 1 => sumT l n + l.getD n 0

instance (l : List Int) : Decidable (okW l) := by unfold okW; exact inferInstance
theorem okw_in {w : Int} (h : okw w = true) : w = 1 ∨ w = 2 ∨ w = 4 ∨ w = 8 := by
  unfold okw at h; simp at h; omega
theorem all_at {l : List Int} (h : l.all okw = true) {i : Nat} (hi : i < l.length) : okw (l.getD i 0) = true := by
  rw [List.getD_eq_getElem?_getD, List.getElem?_eq_getElem hi]
  exact List.all_eq_true.1 h _ (List.getElem_mem hi)
theorem okW_at {l : List Int} (h : okW l) {i : Nat} (hi : i < l.length) : l.getD i 0 = 1 ∨ l.getD i 0 = 2 ∨ l.getD i 0 = 4 ∨ l.getD i 0 = 8 := okw_in (all_at h.2.2 hi)
theorem okW_le {l : List Int} (h : okW l) (i : Nat) : 0 ≤ l.getD i 0 ∧ l.getD i 0 ≤ 8 := by
  rcases Nat.lt_or_ge i l.length with hi | hi
  · have := okW_at h hi; omega
  · rw [List.getD_eq_getElem?_getD, List.getElem?_eq_none hi]; decide
theorem sumT_bd {l : List Int} (h : okW l) : ∀ n : Nat, 0 ≤ sumT l n ∧ sumT l n ≤ 8 * (n : Int)
  | 0 => by unfold sumT; omega
  | n + 1 => by
    have := sumT_bd h n; have := okW_le h n
    unfold sumT; omega
theorem sumT_mono {l : List Int} (h : okW l) {i : Nat} : ∀ {n : Nat}, i + 1 ≤ n → sumT l i + l.getD i 0 ≤ sumT l n
  | 0, hi => by omega
  | n + 1, hi => by
    rcases Nat.lt_or_ge i n with h1 | h1
    · have := sumT_mono h (i := i) (n := n) (by omega); have := okW_le h n; show _ ≤ sumT l n + l.getD n 0; omega
    · obtain rfl : i = n := by omega
      show _ ≤ sumT l i + l.getD i 0; omega
/-- Where a field begins. -/
def atW (l : List Int) (i : Int) : Int := if 0 ≤ i ∧ i < (l.length : Int) then sumT l i.toNat else 0
theorem atW_in {l : List Int} {i : Int} (h : 0 ≤ i ∧ i < (l.length : Int)) : sumT l i.toNat = atW l i := by unfold atW; rw [if_pos h]
def hasW (l : List Int) (i : Int) : Bool := decide (0 ≤ i) && decide (i < (l.length : Int))
/-- Has a number no more bytes than a field? -/
def fitW (w x : Int) : Bool := w == 8 || x / 2 ^ (8 * w).toNat == 0
/-- What Set makes of an arena, and answers. -/
def setE (l : List Int) (m : AM) (o z i x : Int) : Int := if hasW l i then (if fitW (l.getD i.toNat 0) x then vstE m o z (atW l i) (l.getD i.toNat 0) else 16) else 2
def setM (l : List Int) (m : AM) (o z i x : Int) : AM := if hasW l i then (if fitW (l.getD i.toNat 0) x then vstM m o z (atW l i) (l.getD i.toNat 0) x else m) else m
theorem set_4 {l : List Int} {m : AM} {o z i x : Int} (h : hasW l i = false) : m = setM l m o z i x := by unfold setM; rw [h]; rfl
theorem set_5 {l : List Int} {m : AM} {o z i x : Int} (h2 : fitW (l.getD i.toNat 0) x = false) : m = setM l m o z i x := by unfold setM; rw [h2]; split <;> rfl
def getW (l : List Int) (m : AM) (o z i : Int) : Int := if hasW l i then vldV m o z (atW l i) (l.getD i.toNat 0) else 0
theorem hasW_in {l : List Int} {i : Int} (h : hasW l i = true) : 0 ≤ i ∧ i < (l.length : Int) := by unfold hasW at h; simpa using h

/-- A view's bytes. -/
def vbyE (m : AM) (o z a n : Int) : Int := if vchE z a n = 0 then chkE m (o + a) n else 3
def vbyS (m : AM) (o z a n : Int) : ByteArray := if vchE z a n = 0 then bytS m (o + a) n else ByteArray.empty
theorem vby_1 {m : AM} {o z a n : Int} (h : vchE z a n ≠ 0) : vchE z a n = vbyE m o z a n := by unfold vbyE; rw [if_neg h]; exact vch_3 h
theorem vby_2 {m : AM} {o z a n : Int} (h : vchE z a n = 0) : chkE m (o + a) n = vbyE m o z a n := by unfold vbyE; rw [if_pos h]
theorem vby_3 {m : AM} {o z a n : Int} (h : vchE z a n ≠ 0) : ByteArray.empty = vbyS m o z a n := by unfold vbyS; rw [if_neg h]
theorem vby_4 {m : AM} {o z a n : Int} (h : vchE z a n = 0) : bytS m (o + a) n = vbyS m o z a n := by unfold vbyS; rw [if_pos h]

/-- All fields are put, one behind the other. -/
def putA (l : List Int) (o z : Int) (nums : Nat → Nat) (m : AM) : Nat → AM
  | 0 => m
  | k + 1 => setM l (putA l o z nums m k) o z (k : Int) ((nums k : Nat) : Int)
def fitA (l : List Int) (nums : Nat → Nat) : Nat → Bool
  | 0 => true
  | k + 1 => fitA l nums k && fitW (l.getD k 0) ((nums k : Nat) : Int)
def pRE (l : List Int) (nn : Nat) (nums : Nat → Nat) (m : AM) (o z : Int) : Int := if nn ≠ l.length then 2 else if fitA l nums l.length then vbyE m o z 0 (sumT l l.length) else 16
def pRM (l : List Int) (nn : Nat) (nums : Nat → Nat) (m : AM) (o z : Int) : AM := if nn ≠ l.length then m else if fitA l nums l.length then (if vbyE m o z 0 (sumT l l.length) = 0 then putA l o z nums m l.length else m) else m
end Go.Proofs.YtnbkafnikpbmbaaDoor.K

/-
  Walks, printed by w2.py.
-/
namespace Go.Proofs.YtnbkafnikpbmbaaDoor.K
set_option linter.unusedVariables false
set_option linter.unusedSimpArgs false

end Go.Proofs.YtnbkafnikpbmbaaDoor.K

/-
  Walks, printed by w2.py.
-/
namespace Go.Proofs.YtnbkafnikpbmbaaDoor.K
set_option linter.unusedVariables false
set_option linter.unusedSimpArgs false

set_option maxRecDepth 100000 in
set_option maxHeartbeats 1000000 in
theorem vw_Bytes (b : Nat) (F : Nat → Prop) (m : AM) (o_ : Int) (z : Int) (a : Int) (n : Int) (w : World) (hr : (arR b F m).R w) (ho : 0 ≤ o_ ∧ 0 ≤ z ∧ o_ + z ≤ 4294967296) :
    Calls Tryd.prog 145 #[.agg #[pt b 0, vi o_, vi z], vi a, vi n] w fun e w' => e = .returned (.tuple #[.string (vbyS m o_ z a n), vi (vbyE m o_ z a n)]) ∧ Fr w w' no no := by
 refine enter (args := [.agg #[pt b 0, vi o_, vi z], vi a, vi n]) (D := no) (A := []) Tryd.func145 rfl 26 rfl [] (WS.startL trivial) fun ac hS => ?_
 refine hS.regS [0, 0, 0] [1, 2] fun ν1 => seg [(3, pt (ν1 0) 0)] [(0, some ((ν1 0), .cells [pt b 0, vi o_, vi z] 72))] [] trivial fun ac wd hS => ?_
 refine wp_seq ?_
 refine wp_region_seq ?_
 refine hS.opsC 3 [0, 0, 0] [1, 2, 3] fun _ => seg [(9, .agg #[pt b 0, vi o_, vi z]), (10, vi a), (11, vi n)] [(0, none)] [.e (ν1 0), .e (ν1 0), .e (ν1 0)] trivial fun ac wd hS => ?_
 refine hS.call0 188 #[.agg #[pt b 0, vi o_, vi z], vi a, vi n] 12 (vw_check b a n o_ z _  (by first | assumption | omega | (simp_all; done) | (simp_all; omega))) fun ac wd hS => ?_
 refine hS.opsC 1 [0] [1, 2, 3] fun _ => seg [(8, vi (vchE z a n))] [(0, none)] [] trivial fun ac wd hS => ?_
 refine list_nil_seq ?_
 refine hS.regS [0, 0] [1, 2, 3, 8] fun _ => seg [(14, vb (((vchE z a n) : Int) != 0))] [(0, none)] [] trivial fun ac wd hS => ?_
 refine hS.condC (((vchE z a n) : Int) != 0) (fun hb1o hb1 => ?_) (fun hb1o hb1 => ?_)
 ·
  have hcn := hb1
  refine hS.regS [0, 0, 0] [] fun _ => seg [(6, .string (⟨#[]⟩ : ByteArray)), (7, vi (vchE z a n))] [] [] trivial fun ac wd hS => ?_
  refine wp_ret ?_
  refine pop_then_ret ?_
  refine St.retC 0 hS (.tuple #[.string (⟨#[]⟩ : ByteArray), vi (vchE z a n)]) [] trivial fun hw => ?_
  refine ⟨retd (tuple2 (vstr ?_) (vint ?_)), hw.fr0⟩
  all_goals (first | exact vby_1 hcn | exact vby_2 hc0 | exact vby_3 hcn | exact vby_4 hc0)
 ·
  have hc0 := hb1
  obtain ⟨hc1, hc2, hc3, hc4⟩ := vch_in hc0
  refine wp_skip ?_
  refine pop_then ?_
  refine wp_region_seq ?_
  refine hS.opsC 7 [0, 0, 0, 0, 0, 20, 0] [] fun _ => seg [(17, pt b 0), (21, vi (o_ + a)), (22, vi n)] [] [.p (fit .i64 (o_ + a)), .e (ν1 0), .e (ν1 0)] ⟨fit_i64 (by omega), trivial⟩ fun ac wd hS => ?_
  refine hS.call0 58 #[pt b 0, vi (o_ + a), vi n] 23 (ar_Bytes b F m (o_ + a) n _ (Res.keep hr hS.mem.fr) ) fun ac wd hS => ?_
  refine hS.opsC 4 [0, 0, 0, 0] [] fun _ => seg [(6, .string (bytS m (o_ + a) n)), (7, vi (chkE m (o_ + a) n))] [] [] trivial fun ac wd hS => ?_
  refine list_nil_seq ?_
  refine wp_ret ?_
  refine St.retC 0 hS (.tuple #[.string (bytS m (o_ + a) n), vi (chkE m (o_ + a) n)]) [] trivial fun hw => ?_
  refine ⟨retd (tuple2 (vstr ?_) (vint ?_)), hw.fr0⟩
  all_goals (first | exact vby_1 hcn | exact vby_2 hc0 | exact vby_3 hcn | exact vby_4 hc0)

end Go.Proofs.YtnbkafnikpbmbaaDoor.K

/-
  Walks, printed by w2.py.
-/
namespace Go.Proofs.YtnbkafnikpbmbaaDoor.K
set_option linter.unusedVariables false
set_option linter.unusedSimpArgs false

end Go.Proofs.YtnbkafnikpbmbaaDoor.K
