/-
  Records of numbers and truths that are compared; whether a run is in a list.
-/
import Derived.Test.YtojjkjedcafpeaaGreatDoorM6
namespace Go.Proofs.YtojjkjedcafpeaaGreatDoor.K
set_option linter.unusedSimpArgs false
set_option linter.unusedVariables false

def eqFV (P : Program) (xs ys : Array Value) : List Field → Option (List Bool)
  | [] => some []
  | f :: fs => match P.underlying f.type, xs[f.offset]?, ys[f.offset]?, eqFV P xs ys fs with
    | some (.int _), some (.int k a), some (.int k' b), some l => match decide (f.name ≠ "_") && decide (k = k') with
      | true => some ((a == b) :: l)
      | false => none
    | some .bool, some (.bool a), some (.bool b), some l => match decide (f.name ≠ "_") with
      | true => some ((a == b) :: l)
      | false => none
    | _, _, _, _ => none
def bAll (l : List Bool) : Bool := l.all id
theorem eqFV_run {P : Program} {d : Nat} {xs ys : Array Value} {w : World} : ∀ (fs : List Field) (l : List Bool), eqFV P xs ys fs = some l → (Op.eqFields (d + 1) xs ys fs).run P w = .ok (bAll l) w
  | [], l, h => by
    simp only [eqFV, Option.some.injEq] at h
    subst h
    rfl
  | f :: fs, l, h => by
    simp only [eqFV] at h
    split at h
    · rename_i k0 k a k' b l' h1 h2 h3 h4
      split at h
      · rename_i hd
        simp only [Bool.and_eq_true, decide_eq_true_eq] at hd
        obtain ⟨hn, rfl⟩ := hd
        simp only [Option.some.injEq] at h
        subst h
        simp only [Op.eqFields]
        rw [if_pos hn]
        rw [runBind (run_part h1 h2 w), runBind (run_part h1 h3 w), runBind (run_equalIn_int w d f.type k k0 a b h1)]
        cases hab : a == b with
        | false => simp [bAll]
        | true =>
          simp only [Bool.not_true, Bool.false_eq_true, if_false]
          rw [eqFV_run fs l' h4]
          simp [bAll]
      · cases h
    · rename_i a b l' h1 h2 h3 h4
      split at h
      · rename_i hd
        have hn := of_decide_eq_true hd
        simp only [Option.some.injEq] at h
        subst h
        simp only [Op.eqFields]
        rw [if_pos hn]
        rw [runBind (run_partB h1 h2 w), runBind (run_partB h1 h3 w), runBind (run_equalIn_bool w d f.type a b h1)]
        cases hab : a == b with
        | false => simp [bAll]
        | true =>
          simp only [Bool.not_true, Bool.false_eq_true, if_false]
          rw [eqFV_run fs l' h4]
          simp [bAll]
      · cases h
    · cases h
theorem run_eqF {P : Program} {t : TypeId} {xs ys : Array Value} {l : List Bool} (w : World) (ht : P.underlying t = some (.struct (P.fieldsOf t))) (hp : P.stoodInHeld t = false) (he : eqFV P xs ys (P.fieldsOf t).toList = some l) : (binOp .eql t (.agg xs) (.agg ys)).run P w = .ok (vb (bAll l)) w := by
  rw [run_eql_struct, run_equalIn_struct w 9999 t xs ys ht hp, eqFV_run _ l he]; rfl
/-- Is a run in a list? -/
def inR (L : List Rn) (a k : Int) (b : Bool) : Bool := L.any fun x => x.1 == a && (x.2.1 == k && x.2.2 == b)
theorem inR_0 (L : List Rn) (a k : Int) (b : Bool) : inR (L.take 0) a k b = false := rfl
section
variable {L : List Rn} {x a k : Int} {b : Bool}
theorem inR_st (h : inR (L.take x.toNat) a k b = false) (h0 : 0 ≤ x) (h1 : x < (L.length : Int)) (hn : bAll [(a == (gtD L x.toNat).1), (k == (gtD L x.toNat).2.1), (b == (gtD L x.toNat).2.2)] = false) : inR (L.take (x + 1).toNat) a k b = false := by
  have hlt : x.toNat < L.length := by omega
  have e : gtD L x.toNat = L[x.toNat] := gtD_lt hlt
  rw [show (x + 1).toNat = x.toNat + 1 by omega, List.take_succ_eq_append_getElem hlt]
  unfold inR at h ⊢
  rw [List.any_append, h, ← e]
  simp only [bAll, List.all_cons, List.all_nil, Bool.and_true, id, List.any_cons, List.any_nil, Bool.or_false, Bool.false_or] at hn ⊢
  rw [Bool.beq_comm (a := (gtD L x.toNat).2.2), BEq.comm (a := (gtD L x.toNat).1), BEq.comm (a := (gtD L x.toNat).2.1)]
  exact hn
theorem inR_y (h0 : 0 ≤ x) (h1 : x < (L.length : Int)) (hn : bAll [(a == (gtD L x.toNat).1), (k == (gtD L x.toNat).2.1), (b == (gtD L x.toNat).2.2)] = true) : decide (0 ≤ x) = inR L a k b := by
  have hlt : x.toNat < L.length := by omega
  have e : gtD L x.toNat = L[x.toNat] := gtD_lt hlt
  rw [decide_eq_true h0]
  refine (List.any_eq_true.2 ⟨L[x.toNat], List.getElem_mem hlt, ?_⟩).symm
  rw [← e]
  simp only [bAll, List.all_cons, List.all_nil, Bool.and_true, id] at hn
  rw [Bool.beq_comm (a := (gtD L x.toNat).2.2), BEq.comm (a := (gtD L x.toNat).1), BEq.comm (a := (gtD L x.toNat).2.1)]
  exact hn
theorem inR_n (h : inR (L.take x.toNat) a k b = false) (hx : (L.length : Int) ≤ x) : decide ((0 : Int) ≤ -1) = inR L a k b := by
  rw [List.take_of_length_le (by omega)] at h; rw [h]; rfl
end
theorem inR_mem {L : List Rn} {e : Rn} (h : e ∈ L) : inR L e.1 e.2.1 e.2.2 = true := List.any_eq_true.2 ⟨e, h, by simp⟩
section
variable {m mo : AM} {N g G : Nat} {r r2 : Int} {q q2 : List Tg} {Q Q2 : Nat → List Int}
/-- The run of a number in the list. -/
theorem rn_at (i : Nat) (hi : i < (rnTo q g).length) : ∃ p, p < g ∧ 2 ≤ (gtD q p).1 ∧ gtD (rnTo q g) i = rnE q p := by
  rw [gtD_lt hi]; exact rnTo_mem (List.getElem_mem hi)
/-- A taken run that stays taken is in the list of before. -/
theorem tk_in (h : Bdy m N g r q Q) (ht : ∀ (j : Nat) (t : Int), gtD q2 j = (3, t) ↔ gtD q j = (3, t)) {i : Nat} (hi : i < (rnTo q2 G).length) (hb : (gtD (rnTo q2 G) i).2.2 = true) : inR (rnTo q g) (gtD (rnTo q2 G) i).1 (gtD (rnTo q2 G) i).2.1 (gtD (rnTo q2 G) i).2.2 = true := by
  obtain ⟨p, p1, p2, p3⟩ := rn_at i hi
  rw [p3] at hb ⊢
  have h3 : (gtD q2 p).1 = 3 := by have h9 : ((gtD q2 p).1 == 3) = true := hb; exact eq_of_beq h9
  have e3 : gtD q2 p = (3, (gtD q2 p).2) := Prod.ext h3 rfl
  have e4 := (ht p _).1 e3
  have e5 : 2 ≤ (gtD q p).1 := by rw [e4]; show (2 : Int) ≤ 3; decide
  have hpg : p < g := by
    have := (h.tl.st p e5).2.2.2.1
    have hw : 0 < wdQ q p := Nat.pow_pos (by decide)
    omega
  have := inR_mem (rnTo_in hpg e5)
  have e6 : rnE q2 p = rnE q p := by unfold rnE; rw [e3, e4]
  rw [e6]; exact this
/-- Is there a free run of an order at least? -/
def frB (L : List Rn) (k : Int) : Bool := L.any fun x => !x.2.2 && decide (k ≤ x.2.1)
theorem frB_st {L : List Rn} {x k : Int} {b : Bool} (h : b = frB (L.take x.toNat) k) (h0 : 0 ≤ x) (h1 : x < (L.length : Int)) : (b || (!(gtD L x.toNat).2.2 && decide (k ≤ (gtD L x.toNat).2.1))) = frB (L.take (x + 1).toNat) k := by
  have hlt : x.toNat < L.length := by omega
  have e : gtD L x.toNat = L[x.toNat] := gtD_lt hlt
  rw [show (x + 1).toNat = x.toNat + 1 by omega, List.take_succ_eq_append_getElem hlt, h, e]
  unfold frB
  rw [List.any_append]
  simp
theorem frB_yes (h : Bdy m N g r q Q) {k : Int} (hk : 0 ≤ k) (hn : ¬ NoF q k.toNat) : frB (rnTo q g) k = true := by
  rcases hc : frB (rnTo q g) k with _ | _
  · exfalso
    refine hn fun j j1 j2 p hp => ?_
    obtain ⟨a1, a2, a3, a4, a5⟩ := h.tl.two hp
    have hw : 0 < 2 ^ j := Nat.pow_pos (by decide)
    have : frB (rnTo q g) k = true := by
      refine List.any_eq_true.2 ⟨rnE q p, rnTo_in (by omega) a5, ?_⟩
      unfold rnE
      rw [hp]
      show (!((2 : Int) == 3) && decide (k ≤ ((j : Nat) : Int))) = true
      rw [decide_eq_true (by omega)]; rfl
    rw [hc] at this; cases this
  · rfl
theorem cnt_lt (c : Nat) : ∀ n, c ≤ n → countTo (fun i => decide (i < c)) n = c
  | 0, h => by unfold countTo; omega
  | n + 1, h => by
    unfold countTo
    by_cases e : c ≤ n
    · rw [cnt_lt c n e, if_neg (by simp; omega)]; rfl
    · have hc : c = n + 1 := by omega
      subst hc
      rw [if_pos (by simp)]
      have : ∀ k, k ≤ n → countTo (fun i => decide (i < n + 1)) k = k := fun k => by
        induction k with
        | zero => intro _; rfl
        | succ k ih => intro hk; unfold countTo; rw [ih (by omega), if_pos (by simp; omega)]
      rw [this n (Nat.le_refl _)]
theorem Bdy.cntC (h : Bdy m N g r q Q) : countTo m.com m.cap = g + 1 := by
  have e : m.com = fun i => decide (i < g + 1) := funext h.bm.com
  have hc := h.bm.cap
  have hn := h.bm.cn
  have : m.cap = N + 1 := hc
  rw [e, this]; exact cnt_lt (g + 1) (N + 1) (by omega)
end
theorem cap_N {c : Int} (h : ¬ imax 0 (imin c 80) ≤ 1) : ∃ N : Nat, imax 0 (imin c 80) = (N : Int) + 1 ∧ 1 ≤ N ∧ N ≤ 79 := by
  have h2 : imax 0 (imin c 80) ≤ 80 := by unfold imax imin; split <;> split <;> omega
  exact ⟨(imax 0 (imin c 80) - 1).toNat, by omega, by omega, by omega⟩
theorem new_cap1 {c : Int} (h : c ≤ 1) : (AM.new c).cap ≤ 1 := by
  show capN c ≤ 1
  unfold capN imax imin; split <;> split <;> omega
/-- What Grow leaves, by numbers. -/
theorem gw_ok {N g : Nat} {r k : Int} (h : gwE N g r k = 0) : gwBad k = false ∧ ((gwG N g r k : Nat) : Int) = upG g k + 1 * 2 ^ k.toNat ∧ ((gwG N g r k : Nat) : Int) % (1 * 2 ^ k.toNat) = 0 ∧ (1 * 2 ^ k.toNat : Int) ≤ ((gwG N g r k : Nat) : Int) - (g : Int) ∧ ((gwG N g r k : Nat) : Int) - (g : Int) < 2 * (1 * 2 ^ k.toNat) := by
  obtain ⟨u1, u2, u3, u4⟩ := upG_facts g k
  have e : ((gwG N g r k : Nat) : Int) = upG g k + 1 * 2 ^ k.toNat := by unfold gwG; rw [if_pos h]; omega
  have hb : gwBad k = false := by
    unfold gwE at h
    split at h
    · omega
    · rename_i hb; simpa using hb
  refine ⟨hb, e, ?_, by omega, by omega⟩
  rw [e, Int.one_mul, Int.add_emod_right]
  have : ((upG g k).toNat : Int) % ((2 ^ k.toNat : Nat) : Int) = 0 := by rw [← Int.natCast_emod, u3]; rfl
  rw [Int.natCast_pow] at this
  rw [Int.toNat_of_nonneg (by omega)] at this
  exact this
theorem gw_no {N g : Nat} {r k : Int} (h : gwE N g r k ≠ 0) : gwG N g r k = g ∧ (gwE N g r k == 2) = (decide (k < 0) || decide (10 < k)) := by
  refine ⟨by unfold gwG; rw [if_neg h], ?_⟩
  show _ = gwBad k
  unfold gwE
  rcases gwBad k with _ | _
  · simp only [Bool.false_eq_true, if_false]; split
    · rfl
    · split <;> rfl
  · rfl
end Go.Proofs.YtojjkjedcafpeaaGreatDoor.K
