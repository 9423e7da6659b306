import Derived.Test.YtojjkjedcafpeaaGreatDoorM6
namespace Go.Proofs.YtojjkjedcafpeaaGreatDoor.K
set_option linter.unusedSimpArgs false
set_option linter.unusedVariables false
def eqFV (P : Program) (xs ys : Array Value) : List Field → Option (List Bool)
  | [] => some []
  | f :: fs => match P.underlying f.type, xs[f.offset]?, ys[f.offset]?, eqFV P xs ys fs with
    | some (.int _), some (.int k a), some (.int k' b), some l => match decide (f.name ≠ "_") && decide (k = k') with
      | true => some ((a == b) :: l)
      | false => none
    | some .bool, some (.bool a), some (.bool b), some l => match decide (f.name ≠ "_") with
      | true => some ((a == b) :: l)
      | false => none
    | _, _, _, _ => none
def bAll (l : List Bool) : Bool := l.all id
theorem eqFV_run {P : Program} {d : Nat} {xs ys : Array Value} {w : World} : ∀ (fs : List Field) (l : List Bool), eqFV P xs ys fs = some l → (Op.eqFields (d + 1) xs ys fs).run P w = .ok (bAll l) w
  | [], l, h => by
    simp only [eqFV, Option.some.injEq] at h
    subst h
    rfl
  | f :: fs, l, h => by
    simp only [eqFV] at h
    split at h
    · rename_i k0 k a k' b l' h1 h2 h3 h4
      split at h
      · rename_i hd
        simp only [Bool.and_eq_true, decide_eq_true_eq] at hd
        obtain ⟨hn, rfl⟩ := hd
        simp only [Option.some.injEq] at h
        subst h
        simp only [Op.eqFields]
        rw [if_pos hn];rw [runBind (run_part h1 h2 w), runBind (run_part h1 h3 w), runBind (run_equalIn_int w d f.type k k0 a b h1)]
        cases hab : a == b with
        | false => simp [bAll]
        | true =>
          simp only [Bool.not_true, Bool.false_eq_true, if_false]
          rw [eqFV_run fs l' h4]
          simp [bAll]
      · cases h
    · rename_i a b l' h1 h2 h3 h4
      split at h
      · rename_i hd
        have hn := of_decide_eq_true hd
        simp only [Option.some.injEq] at h
        subst h
        simp only [Op.eqFields]
        rw [if_pos hn];rw [runBind (run_partB h1 h2 w), runBind (run_partB h1 h3 w), runBind (run_equalIn_bool w d f.type a b h1)]
        cases hab : a == b with
        | false => simp [bAll]
        | true =>
          simp only [Bool.not_true, Bool.false_eq_true, if_false]
          rw [eqFV_run fs l' h4]
          simp [bAll]
      · cases h
    · cases h
theorem run_eqF {P : Program} {t : TypeId} {xs ys : Array Value} {l : List Bool} (w : World) (ht : P.underlying t = some (.struct (P.fieldsOf t))) (hp : P.stoodInHeld t = false) (he : eqFV P xs ys (P.fieldsOf t).toList = some l) : (binOp .eql t (.agg xs) (.agg ys)).run P w = .ok (vb (bAll l)) w := by
  rw [run_eql_struct, run_equalIn_struct w 9999 t xs ys ht hp, eqFV_run _ l he]; rfl
def inR (L : List Rn) (a k : Int) (b : Bool) : Bool := L.any fun x => x.1 == a && (x.2.1 == k && x.2.2 == b)
theorem inR_0 (L : List Rn) (a k : Int) (b : Bool) : inR (L.take 0) a k b = false := rfl
section
variable {L : List Rn} {x a k : Int} {b : Bool}
theorem inR_st (h : inR (L.take x.toNat) a k b = false) (h0 : 0 ≤ x) (h1 : x < (L.length : Int)) (hn : bAll [(a == (gtD L x.toNat).1), (k == (gtD L x.toNat).2.1), (b == (gtD L x.toNat).2.2)] = false) : inR (L.take (x + 1).toNat) a k b = false := by
  have hlt : x.toNat < L.length := by omega
  have e : gtD L x.toNat = L[x.toNat] := gtD_lt hlt;rw [show (x + 1).toNat = x.toNat + 1 by omega, List.take_succ_eq_append_getElem hlt]
  unfold inR at h ⊢
  rw [List.any_append, h, ← e]
  simp only [bAll, List.all_cons, List.all_nil, Bool.and_true, id, List.any_cons, List.any_nil, Bool.or_false, Bool.false_or] at hn ⊢
  rw [Bool.beq_comm (a := (gtD L x.toNat).2.2), BEq.comm (a := (gtD L x.toNat).1), BEq.comm (a := (gtD L x.toNat).2.1)];exact hn
theorem inR_y (h0 : 0 ≤ x) (h1 : x < (L.length : Int)) (hn : bAll [(a == (gtD L x.toNat).1), (k == (gtD L x.toNat).2.1), (b == (gtD L x.toNat).2.2)] = true) : decide (0 ≤ x) = inR L a k b := by
  have hlt : x.toNat < L.length := by omega
  have e : gtD L x.toNat = L[x.toNat] := gtD_lt hlt;rw [decide_eq_true h0];refine (List.any_eq_true.2 ⟨L[x.toNat], List.getElem_mem hlt, ?_⟩).symm;rw [← e]
  simp only [bAll, List.all_cons, List.all_nil, Bool.and_true, id] at hn
  rw [Bool.beq_comm (a := (gtD L x.toNat).2.2), BEq.comm (a := (gtD L x.toNat).1), BEq.comm (a := (gtD L x.toNat).2.1)];exact hn
theorem inR_n (h : inR (L.take x.toNat) a k b = false) (hx : (L.length : Int) ≤ x) : decide ((0 : Int) ≤ -1) = inR L a k b := by
  rw [List.take_of_length_le (by omega)] at h; rw [h]; rfl
end
theorem mem_inR {L : List Rn} {a k : Int} {b : Bool} (h : inR L a k b = true) : (a, k, b) ∈ L := by
  obtain ⟨e, h1, h2⟩ := List.any_eq_true.1 h
  simp only [Bool.and_eq_true, beq_iff_eq] at h2
  rw [← h2.1, ← h2.2.1, ← h2.2.2]; exact h1
section
variable {m mo : AM} {N g G : Nat} {r r2 : Int} {q q2 : List Tg} {Q Q2 : Nat → List Int}
theorem rn_at (i : Nat) (hi : i < (rnTo q g).length) : ∃ p, p < g ∧ 2 ≤ (gtD q p).1 ∧ gtD (rnTo q g) i = rnE q p := by
  rw [gtD_lt hi]; exact rnTo_mem (List.getElem_mem hi)
end
theorem cap_N {c : Int} (h : ¬ imax 0 (imin c 80) ≤ 1) : ∃ N : Nat, imax 0 (imin c 80) = (N : Int) + 1 ∧ 1 ≤ N ∧ N ≤ 79 := by
  have h2 : imax 0 (imin c 80) ≤ 80 := by unfold imax imin; split <;> split <;> omega
  exact ⟨(imax 0 (imin c 80) - 1).toNat, by omega, by omega, by omega⟩
theorem new_cap1 {c : Int} (h : c ≤ 1) : (AM.new c).cap ≤ 1 := by
  show capN c ≤ 1
  unfold capN imax imin; split <;> split <;> omega
end Go.Proofs.YtojjkjedcafpeaaGreatDoor.K
