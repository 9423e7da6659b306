/-
  Acts of layer 3 in memory; what an arena keeps.
-/
import Derived.Test.YtlnecfdbmoilbaaDoorKw
namespace Go.Proofs.YtlnecfdbmoilbaaDoor.K
set_option linter.unusedSimpArgs false
set_option linter.unusedVariables false

/-- An act of layer 3. -/
structure Ac where
  d : Int
  a : Int
  n : Int
  f : Int
  x : Int
  s : ByteArray
def Ac.zero : Ac := ⟨0, 0, 0, 0, 0, ByteArray.empty⟩
def acAt (l : List Ac) (i : Nat) : Ac := l.getD i Ac.zero
def Ac.cell (c : Ac) : Nat → Value
  | 0 => .int .u8 c.d
  | 1 => .int .i64 c.a
  | 2 => .int .i64 c.f
  | 3 => .int .i64 c.n
  | 4 => .int .u64 c.x
  | _ => .string c.s
def actsA (l : List Ac) (o x : Nat) : Value := (acAt l ((x - o) / 6)).cell ((x - o) % 6)
theorem actsA_0 (l : List Ac) (o i : Nat) : actsA l o (o + i * 6) = .int .u8 (acAt l i).d := by
  unfold actsA; rw [show (o + i * 6 - o) / 6 = i by omega, show (o + i * 6 - o) % 6 = 0 by omega]; rfl
theorem actsA_1 (l : List Ac) (o i : Nat) : actsA l o (o + i * 6 + 1) = .int .i64 (acAt l i).a := by
  unfold actsA; rw [show (o + i * 6 + 1 - o) / 6 = i by omega, show (o + i * 6 + 1 - o) % 6 = 1 by omega]; rfl
theorem actsA_2 (l : List Ac) (o i : Nat) : actsA l o (o + i * 6 + 2) = .int .i64 (acAt l i).f := by
  unfold actsA; rw [show (o + i * 6 + 2 - o) / 6 = i by omega, show (o + i * 6 + 2 - o) % 6 = 2 by omega]; rfl
theorem actsA_3 (l : List Ac) (o i : Nat) : actsA l o (o + i * 6 + 3) = .int .i64 (acAt l i).n := by
  unfold actsA; rw [show (o + i * 6 + 3 - o) / 6 = i by omega, show (o + i * 6 + 3 - o) % 6 = 3 by omega]; rfl
theorem actsA_4 (l : List Ac) (o i : Nat) : actsA l o (o + i * 6 + 4) = .int .u64 (acAt l i).x := by
  unfold actsA; rw [show (o + i * 6 + 4 - o) / 6 = i by omega, show (o + i * 6 + 4 - o) % 6 = 4 by omega]; rfl
theorem actsA_5 (l : List Ac) (o i : Nat) : actsA l o (o + i * 6 + 5) = .string (acAt l i).s := by
  unfold actsA; rw [show (o + i * 6 + 5 - o) / 6 = i by omega, show (o + i * 6 + 5 - o) % 6 = 5 by omega]; rfl

/-- Are acts gone through? -/
def lightB (l : List Ac) : Bool := decide (l.length ≤ 50) && l.all fun c => decide (c.s.size ≤ 6000)
theorem lightB_at {l : List Ac} (h : lightB l = true) {i : Nat} (hi : i < l.length) : (acAt l i).s.size ≤ 6000 := by
  unfold lightB at h
  simp only [Bool.and_eq_true, decide_eq_true_eq, List.all_eq_true] at h
  unfold acAt
  rw [List.getD_eq_getElem?_getD, List.getElem?_eq_getElem hi]
  exact h.2 _ (List.getElem_mem hi)
theorem light_no {l : List Ac} {x : Int} (h0 : 0 ≤ x) (hx : x < (l.length : Int)) (h : 50 ≤ x ∨ 6000 < (((acAt l (Int.toNat x)).s.size : Nat) : Int)) : false = lightB l := by
  cases hb : lightB l with
  | false => rfl
  | true =>
    have := lightB_at hb (i := Int.toNat x) (by omega)
    unfold lightB at hb
    simp only [Bool.and_eq_true, decide_eq_true_eq] at hb
    omega
def lightUp (l : List Ac) (k : Nat) : Prop := k ≤ 50 ∧ ∀ i, i < k → (acAt l i).s.size ≤ 6000
theorem light_yes {l : List Ac} (h : lightUp l l.length) : true = lightB l := by
  unfold lightB
  symm
  simp only [Bool.and_eq_true, decide_eq_true_eq, List.all_eq_true]
  refine ⟨h.1, fun c hc => ?_⟩
  obtain ⟨i, hi, rfl⟩ := List.mem_iff_getElem.1 hc
  have := h.2 i hi
  unfold acAt at this
  rw [List.getD_eq_getElem?_getD, List.getElem?_eq_getElem hi] at this
  exact this
theorem light_step {l : List Ac} {x : Int} (h : lightUp l x.toNat) (h0 : 0 ≤ x) (h1 : x < 50 ∧ (((acAt l (Int.toNat x)).s.size : Nat) : Int) ≤ 6000) : lightUp l (x + 1).toNat := by
  refine ⟨by omega, fun i hi => ?_⟩
  by_cases e : i = x.toNat
  · rw [e]; omega
  · exact h.2 i (by omega)
theorem light_nil : lightUp [] 0 := ⟨by omega, fun i hi => by omega⟩

end Go.Proofs.YtlnecfdbmoilbaaDoor.K
