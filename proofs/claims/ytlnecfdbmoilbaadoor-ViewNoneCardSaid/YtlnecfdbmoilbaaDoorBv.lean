/-
  Rows of bits: counting in general; rows of bools.
-/
import Derived.Test.YtlnecfdbmoilbaaDoorPe
import Derived.Test.YtlnecfdbmoilbaaDoorVw
namespace Go.Proofs.YtlnecfdbmoilbaaDoor.K
set_option linter.unusedSimpArgs false
set_option linter.unusedVariables false

/-- How many of the k places from f on are so. -/
def cntR (p : Nat → Bool) : Nat → Nat → Nat
  | _, 0 => 0
  | f, k + 1 => (if p f then 1 else 0) + cntR p (f + 1) k

theorem cntR_add (p : Nat → Bool) : ∀ (a f b : Nat), cntR p f (a + b) = cntR p f a + cntR p (f + a) b
  | 0, f, b => by simp [cntR]
  | a + 1, f, b => by
    rw [show a + 1 + b = (a + b) + 1 by omega]
    simp only [cntR]
    rw [cntR_add p a (f + 1) b, show f + 1 + a = f + (a + 1) by omega]
    omega

theorem cntR_none {p : Nat → Bool} : ∀ {k f : Nat}, (∀ x, f ≤ x → x < f + k → p x = false) → cntR p f k = 0
  | 0, f, _ => rfl
  | k + 1, f, h => by
    simp only [cntR]
    rw [h f (by omega) (by omega), cntR_none fun x h1 h2 => h x (by omega) (by omega)]
    rfl

theorem cntR_congr {p q : Nat → Bool} : ∀ {k f g : Nat}, (∀ i, i < k → p (f + i) = q (g + i)) → cntR p f k = cntR q g k
  | 0, _, _, _ => rfl
  | k + 1, f, g, h => by
    simp only [cntR]
    have h0 := h 0 (by omega)
    simp only [Nat.add_zero] at h0
    rw [h0, cntR_congr (f := f + 1) (g := g + 1) fun i hi => by
      have := h (i + 1) (by omega)
      rwa [show f + (i + 1) = f + 1 + i by omega, show g + (i + 1) = g + 1 + i by omega] at this]

theorem cntR_le (p : Nat → Bool) : ∀ k f, cntR p f k ≤ k
  | 0, _ => Nat.le_refl _
  | k + 1, f => by
    have := cntR_le p k (f + 1)
    simp only [cntR]
    split <;> omega

theorem pcN_cnt : ∀ (n x : Nat), pcN x n = cntR (fun i => x.testBit i) 0 n
  | 0, x => rfl
  | n + 1, x => by
    have ih := pcN_cnt n (x / 2)
    unfold pcN at ih ⊢
    simp only [bits, List.sum_cons, cntR]
    rw [ih]
    have e : cntR (fun i => (x / 2).testBit i) 0 n = cntR (fun i => x.testBit i) (0 + 1) n := cntR_congr fun i _ => by
      show (x / 2).testBit (0 + i) = x.testBit (0 + 1 + i)
      rw [show 0 + 1 + i = i + 1 by omega, Nat.testBit_succ, Nat.zero_add]
    rw [e]
    rcases Nat.mod_two_eq_zero_or_one x with h | h <;> simp [Nat.testBit_zero, h]

theorem cnt_mid {q : Nat → Bool} {r k n : Nat} (hr : r + k ≤ n) (z : ∀ i, i < r ∨ r + k ≤ i → q i = false) : cntR q 0 n = cntR q r k := by
  have e : n = r + (k + (n - r - k)) := by omega
  have z1 : cntR q 0 r = 0 := cntR_none fun i h1 h2 => z i (.inl (by omega))
  have z2 : cntR q (r + k) (n - r - k) = 0 := cntR_none fun i h1 h2 => z i (.inr h1)
  rw [e, cntR_add, cntR_add, Nat.zero_add, z1, z2, Nat.zero_add, Nat.add_zero]

theorem Words.count {ws : Nat → Nat} {nw n : Nat} {p : Nat → Bool} (h : Words ws nw n p) {x k : Nat} (hk : x % 64 + k ≤ 64) (hn : x + k ≤ n) (hk1 : 1 ≤ k) :
    pcI (((ws (x / 64) &&& mkM (x % 64) k : Nat)) : Int) = ((cntR p x k : Nat) : Int) := by
  have hj : x / 64 < nw := by rw [h.many]; omega
  have hlt : ws (x / 64) &&& mkM (x % 64) k < 2 ^ 64 := Nat.lt_of_le_of_lt Nat.and_le_left (h.small _ hj)
  have z : cntR (fun i => (ws (x / 64) &&& mkM (x % 64) k).testBit i) 0 64 = cntR p x k := by
    rw [cnt_mid (r := x % 64) (k := k) hk]
    · refine cntR_congr fun i hi => ?_
      show (ws (x / 64) &&& mkM (x % 64) k).testBit (x % 64 + i) = p (x + i)
      rw [Nat.testBit_and, mkM_bit, h.bit _ hj _ (by omega)]
      rw [show 64 * (x / 64) + (x % 64 + i) = x + i by omega]
      have a1 : x + i < n := by omega
      have a2 : x % 64 + i < x % 64 + k := by omega
      simp [a1, a2]
    · intro i hi
      show (ws (x / 64) &&& mkM (x % 64) k).testBit i = false
      rw [Nat.testBit_and, mkM_bit]
      rcases hi with hi | hi
      · have : ¬ x % 64 ≤ i := by omega
        simp [this]
      · have : ¬ i < x % 64 + k := by omega
        simp [this]
  rw [pcI_eq hlt, pcN_cnt, z]

theorem Words.countI {ws : Nat → Nat} {nw n : Nat} {p : Nat → Bool} (h : Words ws nw n p) {x m : Int} (h0 : 0 ≤ x) (hm : 1 ≤ m) (hm2 : m ≤ 64 - x % 64) (hn : x + m ≤ (n : Int)) :
    pcI (((ws (Int.toNat (x / 64)) &&& mkM (Int.toNat (x % 64)) (Int.toNat m) : Nat)) : Int) = ((cntR p x.toNat m.toNat : Nat) : Int) := by
  have := h.count (x := x.toNat) (k := m.toNat) (by omega) (by omega) (by omega)
  rw [show Int.toNat (x / 64) = x.toNat / 64 by omega, show Int.toNat (x % 64) = x.toNat % 64 by omega, this]

theorem cnt_step {p : Nat → Bool} {f x m : Int} (h0 : 0 ≤ f) (h1 : f ≤ x) (hm : 0 ≤ m) : ((cntR p f.toNat (x - f).toNat : Nat) : Int) + ((cntR p x.toNat m.toNat : Nat) : Int) = ((cntR p f.toNat (x + m - f).toNat : Nat) : Int) := by
  rw [show (x + m - f).toNat = (x - f).toNat + m.toNat by omega, cntR_add, show f.toNat + (x - f).toNat = x.toNat by omega, Int.natCast_add]

/-- What Count answers. -/
def cntV (p : Nat → Bool) (n : Nat) (f k : Int) : Int := if wth n f k then (cntR p f.toNat k.toNat : Int) else 0
theorem cntV_no {p : Nat → Bool} {n : Nat} {f k : Int} (h : wth n f k = false) : 0 = cntV p n f k := by unfold cntV; rw [h]; rfl
theorem cntV_yes {p : Nat → Bool} {n : Nat} {f k : Int} (h : wth n f k = true) : cntV p n f k = (cntR p f.toNat k.toNat : Int) := by unfold cntV; rw [if_pos h]

theorem capN_eq2 (x : Int) : imin (imax x 0) 1048576 = ((capN x : Nat) : Int) := by
  have e : imin (imax x 0) 1048576 = imax 0 (imin x 1048576) := by
    unfold imin imax
    by_cases h : x < 0
    · rw [if_pos h, if_neg (by omega : ¬ (1048576 : Int) < 0), if_neg (by omega : ¬ (1048576 : Int) < x), if_neg (by omega)]
    · rw [if_neg h]
      by_cases h2 : 1048576 < x
      · rw [if_pos h2, if_pos (by omega)]
      · rw [if_neg h2]; split <;> omega
  rw [e, capN_eq]

theorem cnt_oneI {p : Nat → Bool} {f x : Int} (h0 : 0 ≤ f) (h1 : f ≤ x) : ((cntR p f.toNat (x + 1 - f).toNat : Nat) : Int) = ((cntR p f.toNat (x - f).toNat : Nat) : Int) + (if p x.toNat = true then 1 else 0) := by
  rw [← cnt_step (m := 1) h0 h1 (by omega)]
  congr 1
  show ((cntR p x.toNat 1 : Nat) : Int) = _
  simp only [cntR]
  split <;> rfl

theorem firstB_hit {p : Nat → Bool} {n : Nat} {f x : Int} {v : Bool} (h0 : 0 ≤ x ∧ x < (n : Int)) (hf : f ≤ x) (hp : p x.toNat = v) (hm : ∀ y, at0 f ≤ y → y < x.toNat → p y ≠ v) : x = fst1 p n f v ∧ true = fst2 p n f v := by
  have ha : (at0 f : Int) = imax 0 f := by unfold at0 imax; split <;> omega
  have hb : imax 0 f ≤ x := by unfold imax; split <;> omega
  have e := nxt_is (p := p) (v := v) (n := n) (i := at0 f) (x := x.toNat) (by omega) (by omega) hp hm
  exact fst_yes (by rw [e]; omega) h0.2

theorem firstB_no {p : Nat → Bool} {n : Nat} {f : Int} {v : Bool} (hm : ∀ y, at0 f ≤ y → y < n → p y ≠ v) : 0 = fst1 p n f v ∧ false = fst2 p n f v := by
  rcases Nat.lt_or_ge n (at0 f) with h | h
  · exact fst_no (by rw [nxt_past (by omega)]; omega)
  · exact fst_no (by rw [nxt_none h hm]; omega)

theorem firstB_go {p : Nat → Bool} {f x : Int} {v : Bool} (h0 : 0 ≤ x) (hm : ∀ y, at0 f ≤ y → y < x.toNat → p y ≠ v) (hx : f ≤ x → p x.toNat ≠ v) : ∀ y, at0 f ≤ y → y < Int.toNat (x + 1) → p y ≠ v := by
  intro y h1 h2
  have ha : (at0 f : Int) = imax 0 f := by unfold at0 imax; split <;> omega
  have hb : f ≤ imax 0 f := by unfold imax; split <;> omega
  rcases Nat.lt_or_ge y x.toNat with h | h
  · exact hm y h1 h
  · obtain rfl : y = x.toNat := by omega
    exact hx (by omega)

/-- Two rows of bools the same. -/
def eqB (n1 n2 : Nat) (w1 w2 : Nat → Bool) : Bool := n1 == n2 && (List.range n1).all (fun j => w1 j == w2 j)
theorem eqB_len {n1 n2 : Nat} {w1 w2 : Nat → Bool} (h : ¬ (n1 : Int) = (n2 : Int)) : false = eqB n1 n2 w1 w2 := by
  have : n1 ≠ n2 := fun e => h (by rw [e])
  simp [eqB, this]
theorem eqB_at {n1 n2 : Nat} {w1 w2 : Nat → Bool} {x : Int} (h0 : 0 ≤ x ∧ x < (n1 : Int)) (he : ¬ w1 (Int.toNat x) = w2 (Int.toNat x)) : false = eqB n1 n2 w1 w2 := by
  symm
  unfold eqB
  rw [Bool.and_eq_false_iff]
  right
  rw [Bool.eq_false_iff]
  intro h
  have := List.all_eq_true.1 h x.toNat (List.mem_range.2 (by omega))
  rw [beq_iff_eq] at this
  exact he this
theorem eqB_all {n1 n2 : Nat} {w1 w2 : Nat → Bool} (hl : n1 = n2) (h : ∀ j, j < n1 → w1 j = w2 j) : true = eqB n1 n2 w1 w2 := by
  symm
  unfold eqB
  rw [Bool.and_eq_true]
  refine ⟨by simpa using hl, List.all_eq_true.2 fun j hj => ?_⟩
  rw [beq_iff_eq]
  exact h j (List.mem_range.1 hj)

/-- One place more of a set that is put together place by place. -/
theorem put_in {p q : Nat → Bool} {n : Nat} {f k x : Int} {v : Bool} (hw : wth n f k = true) (h0 : 0 ≤ x) (hq : ∀ y, y < x.toNat → q y = trn p n f k v y) (h1 : f ≤ x ∧ x < f + k) : ∀ y, y < Int.toNat (x + 1) → putB (putB q (Int.toNat x) (p (Int.toNat x))) (Int.toNat x) v y = trn p n f k v y := by
  intro y hy
  obtain ⟨a, b, c⟩ := wth_facts hw
  unfold putB
  by_cases e : y = Int.toNat x
  · rw [if_pos e, trn_yes hw]
    unfold setR
    rw [if_pos (by omega)]
  · rw [if_neg e, if_neg e]
    exact hq y (by omega)
theorem put_out {p q : Nat → Bool} {n : Nat} {f k x : Int} {v : Bool} (hw : wth n f k = true) (h0 : 0 ≤ x) (hq : ∀ y, y < x.toNat → q y = trn p n f k v y) (h1 : ¬ (f ≤ x ∧ x < f + k)) : ∀ y, y < Int.toNat (x + 1) → putB q (Int.toNat x) (p (Int.toNat x)) y = trn p n f k v y := by
  intro y hy
  obtain ⟨a, b, c⟩ := wth_facts hw
  unfold putB
  by_cases e : y = Int.toNat x
  · rw [if_pos e, trn_yes hw]
    unfold setR
    rw [if_neg (by omega), e]
  · rw [if_neg e]
    exact hq y (by omega)

/-- The last number one more. -/
def incLast (l : List Int) : List Int := l.set (Int.toNat ((l.length : Int) - 1)) (l.getD (Int.toNat ((l.length : Int) - 1)) 0 + 1)
/-- The rows of the first places of a set: (begin, length), (begin, length), .. -/
def rowsUp (p : Nat → Bool) : Nat → List Int
  | 0 => []
  | i + 1 => if p i then incLast (if i = 0 ∨ p (i - 1) = false then rowsUp p i ++ [(i : Int), 0] else rowsUp p i) else rowsUp p i

theorem rowsUp_step {p : Nat → Bool} {x : Int} (h : 0 ≤ x) : rowsUp p (Int.toNat (x + 1)) = if p x.toNat then incLast (if x.toNat = 0 ∨ p (x.toNat - 1) = false then rowsUp p x.toNat ++ [x, 0] else rowsUp p x.toNat) else rowsUp p x.toNat := by
  rw [show Int.toNat (x + 1) = x.toNat + 1 by omega]
  have e : [x, 0] = [((x.toNat : Nat) : Int), 0] := by rw [Int.toNat_of_nonneg h]
  rw [e]
  rfl

theorem incLast_length (l : List Int) : (incLast l).length = l.length := by unfold incLast; rw [List.length_set]

theorem rowsUp_length (p : Nat → Bool) : ∀ i, (rowsUp p i).length ≤ 2 * i
  | 0 => Nat.le_refl _
  | i + 1 => by
    have := rowsUp_length p i
    simp only [rowsUp]
    split
    · rw [incLast_length]
      split
      · rw [List.length_append]; simp; omega
      · omega
    · omega

theorem incLast_ne {l : List Int} (h : l ≠ []) : incLast l ≠ [] := by
  intro e
  have := incLast_length l
  rw [e] at this
  exact h (List.eq_nil_of_length_eq_zero this.symm)

/-- Where a place is so, something has come. -/
theorem rowsUp_ne (p : Nat → Bool) : ∀ i, p i = true → rowsUp p (i + 1) ≠ []
  | 0, h => by
    simp only [rowsUp, h, if_true]
    exact incLast_ne (by simp)
  | i + 1, h => by
    simp only [rowsUp, h, if_true]
    refine incLast_ne ?_
    split
    · simp
    · rename_i h2
      have hp : p i = true := by
        have : ¬ p (i + 1 - 1) = false := fun e => h2 (.inr e)
        simpa using this
      exact rowsUp_ne p i hp

theorem ints_set (L : List Int) (i : Nat) (v : Int) (hi : i < L.length) : ∀ o, o < L.length → ints (L.set i v) 0 o = (fun x => if x = i then Value.int .i64 v else ints L 0 x) o := by
  intro o ho
  show ints (L.set i v) 0 o = if o = i then Value.int .i64 v else ints L 0 o
  unfold ints
  simp only [Nat.sub_zero]
  rw [List.getD_eq_getElem?_getD, List.getElem?_set]
  by_cases h : o = i
  · subst h; rw [if_pos rfl, if_pos hi, if_pos rfl]; rfl
  · rw [if_neg (fun e => h e.symm), if_neg h, List.getD_eq_getElem?_getD]

theorem rowsUp_bd (p : Nat → Bool) : ∀ i, ∀ d ∈ rowsUp p i, 0 ≤ d ∧ d ≤ (i : Int)
  | 0 => by simp [rowsUp]
  | i + 1 => by
    have ih := rowsUp_bd p i
    intro d hd
    simp only [rowsUp] at hd
    have key : ∀ l : List Int, (∀ d ∈ l, 0 ≤ d ∧ d ≤ (i : Int)) → ∀ d ∈ incLast l, 0 ≤ d ∧ d ≤ ((i + 1 : Nat) : Int) := by
      intro l hl d hd
      unfold incLast at hd
      rcases List.mem_or_eq_of_mem_set hd with h | h
      · have := hl d h; omega
      · have : 0 ≤ l.getD (Int.toNat ((l.length : Int) - 1)) 0 ∧ l.getD (Int.toNat ((l.length : Int) - 1)) 0 ≤ (i : Int) := by
          rw [List.getD_eq_getElem?_getD]
          cases hg : l[Int.toNat ((l.length : Int) - 1)]? with
          | none => simp
          | some y => exact hl y (List.mem_of_getElem? hg)
        omega
    split at hd
    · refine key _ ?_ d hd
      split
      · intro y hy
        rw [List.mem_append] at hy
        rcases hy with hy | hy
        · exact ih y hy
        · simp at hy; omega
      · exact ih
    · have := ih d hd; omega

theorem nil_prev {p : Nat → Bool} {x : Int} (h0 : 0 ≤ x) (hx : ¬ x = 0) (h : rowsUp p x.toNat = []) : p (Int.toNat (x - 1)) = false := by
  rw [Bool.eq_false_iff]
  intro hp
  have := rowsUp_ne p (Int.toNat (x - 1)) hp
  rw [show Int.toNat (x - 1) + 1 = x.toNat by omega] at this
  exact this h

/-- The last number, one more, in memory. -/
theorem ints_inc {L : List Int} {x : Int} {V : Int} (hne : L ≠ []) (hx : x = (L.length : Int) - 1) (hb : ∀ d ∈ L, 0 ≤ d ∧ d ≤ 1048576) (hV : V = IntKind.wrap .i64 (L.getD (Int.toNat x) 0 + 1)) : ∀ o, o < L.length → ints (incLast L) 0 o = (fun y => if y = Int.toNat x then Value.int .i64 V else ints L 0 y) o := by
  have hl : 0 < L.length := List.length_pos_iff.2 hne
  have hi : Int.toNat x < L.length := by omega
  have hg : 0 ≤ L.getD (Int.toNat x) 0 ∧ L.getD (Int.toNat x) 0 ≤ 1048576 := by
    rw [List.getD_eq_getElem?_getD, List.getElem?_eq_getElem hi]
    exact hb _ (List.getElem_mem hi)
  have e : V = L.getD (Int.toNat x) 0 + 1 := by rw [hV]; exact i64_in (by omega)
  subst hx
  unfold incLast
  rw [e]
  exact ints_set L _ _ hi

end Go.Proofs.YtlnecfdbmoilbaaDoor.K
