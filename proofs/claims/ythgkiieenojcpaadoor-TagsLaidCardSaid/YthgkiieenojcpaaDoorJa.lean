/-
  A walk by computing: records of numbers that are compared.
-/
import Derived.Test.YthgkiieenojcpaaDoorIa
import Derived.Laws.StructEq
namespace Go.Proofs.YthgkiieenojcpaaDoor.K
set_option linter.unusedSimpArgs false
set_option linter.unusedVariables false

/-- The numbers of two records, side by side. -/
def eqVals (P : Program) (xs ys : Array Value) : List Field → Option (List (Int × Int))
  | [] => some []
  | f :: fs => match P.underlying f.type, xs[f.offset]?, ys[f.offset]?, eqVals P xs ys fs with
    | some (.int _), some (.int k a), some (.int k' b), some l => match decide (f.name ≠ "_") && decide (k = k') with
      | true => some ((a, b) :: l)
      | false => none
    | _, _, _, _ => none
def eqAll (l : List (Int × Int)) : Bool := l.all fun p => p.1 == p.2
theorem run_part {P : Program} {t : TypeId} {cs : Array Value} {off : Nat} {v : Value} {k : IntKind} (ht : P.underlying t = some (.int k)) (hv : cs[off]? = some v) (w : World) : (part t cs off).run P w = .ok v w := by
  unfold part isAgg
  simp [run_underlying ht, hv]
theorem eqVals_run {P : Program} {d : Nat} {xs ys : Array Value} {w : World} : ∀ (fs : List Field) (l : List (Int × Int)), eqVals P xs ys fs = some l → (Op.eqFields (d + 1) xs ys fs).run P w = .ok (eqAll l) w
  | [], l, h => by
    simp only [eqVals, Option.some.injEq] at h
    subst h
    rfl
  | f :: fs, l, h => by
    simp only [eqVals] at h
    split at h
    · rename_i k0 k a k' b l' h1 h2 h3 h4
      split at h
      · rename_i hd
        simp only [Bool.and_eq_true, decide_eq_true_eq] at hd
        obtain ⟨hn, rfl⟩ := hd
        simp only [Option.some.injEq] at h
        subst h
        simp only [Op.eqFields]
        rw [if_pos hn]
        rw [runBind (run_part h1 h2 w), runBind (run_part h1 h3 w), runBind (run_equalIn_int w d f.type k k0 a b h1)]
        cases hab : a == b with
        | false => simp [eqAll, hab]
        | true =>
          simp only [Bool.not_true, Bool.false_eq_true, if_false]
          rw [eqVals_run fs l' h4]
          simp [eqAll, hab]
      · cases h
    · cases h
theorem run_neS {P : Program} {t : TypeId} {xs ys : Array Value} {l : List (Int × Int)} (w : World) (ht : P.underlying t = some (.struct (P.fieldsOf t))) (hp : P.stoodInHeld t = false) (he : eqVals P xs ys (P.fieldsOf t).toList = some l) : (binOp .neq t (.agg xs) (.agg ys)).run P w = .ok (vb (!eqAll l)) w := by
  rw [run_neq_struct, run_equalIn_struct w 9999 t xs ys ht hp, eqVals_run _ l he]; rfl
section
variable {P : Program} {c : Cx} {n : Nat} {E : Env} {H : Heap} {A : List Res} {a : Act} {w : World} {o : Oper}
/-- Two records of numbers are compared. -/
theorem St.binS {K : Act → World → Prop} (hS : St c n E H A a w) (q : BinOp) (x y : Operand) (t t2 : TypeId) (ho : o.op = .binOp q t x y t2) {d : Nat} (hd : o.dst = some d) (hdn : d < n) {xs ys : Array Value} {r : Value} (hr : ∀ w, (binOp q t (.agg xs) (.agg ys)).run P w = .ok r w) (hm : P.eqGuardType P.depth t = false)
    (h : ∀ a', St c n (putE E d [] r) H A a' w → K a' w) (hok : okO E [] x = true := by as_aux_lemma => kernel_rfl) (hok2 : okO E [] y = true := by as_aux_lemma => kernel_rfl) (hx : rho E x = .agg xs := by as_aux_lemma => kernel_rfl) (hy : rho E y = .agg ys := by as_aux_lemma => kernel_rfl) : Runs1 P o a w K := by
  refine ⟨r, w, ?_, ?_⟩
  · have e1 : a.eval x = .agg xs := by rw [eval1 hS hok, hx]
    have e2 : a.eval y = .agg ys := by rw [eval1 hS hok2, hy]
    simp only [execOp, ho, e1, e2]
    have hb : (do eqGuard q t x y (.agg xs) (.agg ys); binOp q t (.agg xs) (.agg ys)).run P w = .ok r w := by
      rw [runBind (w' := w) (x := ()) (run_eqGuard_agg w q t x y xs ys hm)]
      exact hr w
    rw [runBind hb]
    rfl
  · rw [hd]; exact h _ (hS.put hdn)
end
section
variable {P : Program} {c : Cx} {n : Nat} {E : Env} {H Hf : Heap} {A : List Res} {a : Act} {w : World} {ops : Array Oper} {R : Act → World → Prop} {Q : Exit → Act → World → Prop}
/-- A guard that is known to hold. -/
theorem St.wants {o : Oper} (hS : St c n E H A a w) {d : Nat} {x : Bool} (hg : guardSlot ops o = some (d, x)) (hl : look E d = some ([], vb x)) (hd : d < n) : Region.wanted o (yielded ops a.tmps) = true :=
  (wanted_iff hg a (Nat.lt_of_lt_of_le hd hS.size)).2 (hS.env.at (look_mem hl) (fun p hp => by cases hp))
theorem Runs1.listG {o : Oper} {rest : List Oper} (hS : St c n E H A a w) (d : Nat) (x : Bool) (h : Runs1 P o a w (wpList P ops Q rest)) (hd : d < n) (hg : guardSlot ops o = some (d, x) := by rfl) (hl : look E d = some ([], vb x) := by as_aux_lemma => kernel_rfl) : wpList P ops Q (o :: rest) a w := by
  obtain ⟨v, w', h1, h2⟩ := h
  unfold wpList
  rw [if_pos (hS.wants hg hl hd)]
  refine .inl ?_
  unfold Oper.wp
  rw [h1]
  exact h2
end
end Go.Proofs.YthgkiieenojcpaaDoor.K
