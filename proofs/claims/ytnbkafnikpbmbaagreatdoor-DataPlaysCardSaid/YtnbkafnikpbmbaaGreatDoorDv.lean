/-
  Acts that have lists of items; records that are the same.
-/
import Derived.Test.YtnbkafnikpbmbaaGreatDoorDd
import Derived.Test.YtnbkafnikpbmbaaGreatDoorM5
namespace Go.Proofs.YtnbkafnikpbmbaaGreatDoor.K
set_option linter.unusedSimpArgs false
set_option linter.unusedVariables false

/-- A list that comes in: its address, capacity, block, place, and what it holds. -/
abbrev Ls (α : Type) := Option Addr × Nat × Nat × Nat × List α
abbrev AcD := Int × Ls It
def aDV (E : Nat → AcD) (o x : Nat) : Value := if (x - o) % 2 = 0 then v8 (E ((x - o) / 2)).1 else .slice (E ((x - o) / 2)).2.1 (E ((x - o) / 2)).2.2.2.2.2.length (E ((x - o) / 2)).2.2.1
theorem aDV_0 (E : Nat → AcD) (o i : Nat) : aDV E o (o + i * 2) = v8 (E i).1 := by
  unfold aDV; rw [show o + i * 2 - o = i * 2 by omega, if_pos (by omega), show (i * 2) / 2 = i by omega]
theorem aDV_1 (E : Nat → AcD) (o i : Nat) : aDV E o (o + i * 2 + 1) = .slice (E i).2.1 (E i).2.2.2.2.2.length (E i).2.2.1 := by
  unfold aDV; rw [show o + i * 2 + 1 - o = i * 2 + 1 by omega, if_neg (by omega), show (i * 2 + 1) / 2 = i by omega]
theorem aDV_cg {E E' : Nat → AcD} {n : Nat} (o : Nat) (h : ∀ i, i < n → E i = E' i) : ∀ x, x < o + n * 2 → aDV E o x = aDV E' o x ∨ x < o := by
  intro x hx
  by_cases h1 : x < o
  · exact .inr h1
  · left; unfold aDV; rw [h _ (by omega)]
def rg_aDV (w : World) (c : AcD) : Prop := (0 ≤ c.1 ∧ c.1 ≤ 255) ∧ (c.2.2.2.2.2.length = 0 ∨ c.2.1 = some ⟨c.2.2.2.1, c.2.2.2.2.1, none⟩) ∧ HE.holds w c.2.2.2.1 (.fn c.2.2.2.2.1 (c.2.2.2.2.1 + c.2.2.2.2.2.length * 2) (itV (gtD c.2.2.2.2.2) c.2.2.2.2.1)) ∧ ∀ i, i < c.2.2.2.2.2.length → 0 ≤ (gtD c.2.2.2.2.2 i).2 ∧ (gtD c.2.2.2.2.2 i).2 ≤ 18446744073709551615
theorem rg_aDV.keep {w w' : World} {c : AcD} {D' : Nat → Prop} (h : rg_aDV w c) (hf : Fr w w' no D') : rg_aDV w' c :=
  ⟨h.1, h.2.1, h.2.2.1.congr (hf.block _ h.2.2.1.lt (fun q => q)), h.2.2.2⟩

/-! ## Records that are the same -/
def sameVals (P : Program) (xs : Array Value) : List Field → Bool
  | [] => true
  | f :: fs => (match P.underlying f.type, xs[f.offset]? with
    | some (.int _), some (.int _ _) => true
    | some .string, some (.string _) => true
    | _, _ => false) && decide (f.name ≠ "_") && sameVals P xs fs
theorem run_partS {P : Program} {t : TypeId} {cs : Array Value} {off : Nat} {v : Value} (ht : P.underlying t = some .string) (hv : cs[off]? = some v) (w : World) : (part t cs off).run P w = .ok v w := by
  unfold part isAgg
  simp [run_underlying ht, hv]
theorem sameVals_run {P : Program} {d : Nat} {xs : Array Value} {w : World} : ∀ (fs : List Field), sameVals P xs fs = true → (Op.eqFields (d + 1) xs xs fs).run P w = .ok true w
  | [], _ => rfl
  | f :: fs, h => by
    simp only [sameVals, Bool.and_eq_true, decide_eq_true_eq] at h
    obtain ⟨⟨h1, hn⟩, h2⟩ := h
    simp only [Op.eqFields]
    rw [if_pos hn]
    split at h1
    · rename_i k0 k a e1 e2
      rw [runBind (run_part e1 e2 w), runBind (run_part e1 e2 w), runBind (run_equalIn_int w d f.type k k0 a a e1)]
      simp only [beq_self_eq_true, Bool.not_true, Bool.false_eq_true, if_false]
      exact sameVals_run fs h2
    · rename_i a e1 e2
      rw [runBind (run_partS e1 e2 w), runBind (run_partS e1 e2 w), runBind (run_equalIn_string w d f.type a a e1)]
      simp only [beq_self_eq_true, Bool.not_true, Bool.false_eq_true, if_false]
      exact sameVals_run fs h2
    · cases h1
theorem run_neSame {P : Program} {t : TypeId} {xs : Array Value} (w : World) (ht : P.underlying t = some (.struct (P.fieldsOf t))) (hp : P.stoodInHeld t = false) (he : sameVals P xs (P.fieldsOf t).toList = true) : (binOp .neq t (.agg xs) (.agg xs)).run P w = .ok (vb false) w := by
  rw [run_neq_struct, run_equalIn_struct w 9999 t xs xs ht hp, sameVals_run _ he]; rfl
end Go.Proofs.YtnbkafnikpbmbaaGreatDoor.K
