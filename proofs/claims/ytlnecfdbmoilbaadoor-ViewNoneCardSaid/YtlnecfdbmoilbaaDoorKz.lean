/-
  What an arena keeps.
-/
import Derived.Test.YtlnecfdbmoilbaaDoorKy
namespace Go.Proofs.YtlnecfdbmoilbaaDoor.K
set_option linter.unusedSimpArgs false
set_option linter.unusedVariables false

theorem bat_sb (s : ByteArray) (i : Nat) : bat s (i : Int) = ((sb s i).toNat : Int) := rfl
theorem stB_nat (v i : Nat) : (stB (v : Int) i).toNat = v / 2 ^ (8 * i) % 256 := by
  unfold stB u8
  rw [IntKind.wrap_u8, UInt8.toNat_ofNat', show Int.toNat (8 * (i : Int)) = 8 * i by omega]
  have e : ((v : Int) / 2 ^ (8 * i)) = ((v / 2 ^ (8 * i) : Nat) : Int) := by
    rw [Int.natCast_ediv, Int.natCast_pow]; rfl
  rw [e]
  omega
theorem ldN_num {v n : Nat} (hn : n ≤ 8) : ∀ i, i ≤ n → ldN (bs (stB (v : Int)) n) i = ((v % 2 ^ (8 * i) : Nat) : Int)
  | 0, _ => by simp [ldN, Nat.mod_one]
  | i + 1, hi => by
    have ih := ldN_num (v := v) hn i (by omega)
    unfold ldN
    rw [ih, bat_sb, sb_bs (by omega), stB_nat, show min (Int.toNat (8 * (i : Int))) 64 = 8 * i by omega]
    have hp : 2 ^ (8 * (i + 1)) = 2 ^ (8 * i) * 256 := by rw [show 8 * (i + 1) = 8 * i + 8 by omega, Nat.pow_add]
    have h64 : 2 ^ (8 * i) * 256 ≤ 2 ^ 64 := by rw [← hp]; exact Nat.pow_le_pow_right (by omega) (by omega)
    have hb : v / 2 ^ (8 * i) % 256 < 256 := Nat.mod_lt _ (by omega)
    have hpos : 0 < 2 ^ (8 * i) := Nat.pow_pos (by omega)
    have hlow : v % 2 ^ (8 * i) < 2 ^ (8 * i) := Nat.mod_lt _ hpos
    have hmul : v / 2 ^ (8 * i) % 256 * 2 ^ (8 * i) < 2 ^ 64 := by
      have : (v / 2 ^ (8 * i) % 256 + 1) * 2 ^ (8 * i) ≤ 256 * 2 ^ (8 * i) := Nat.mul_le_mul_right _ (by omega)
      rw [Nat.add_mul] at this
      omega
    have e2 : (((v / 2 ^ (8 * i) % 256 : Nat) : Int)) * 2 ^ (8 * i) = ((v / 2 ^ (8 * i) % 256 * 2 ^ (8 * i) : Nat) : Int) := by
      rw [Int.natCast_mul, Int.natCast_pow]; rfl
    rw [e2, u64_in ⟨by omega, by omega⟩, ior_u (by omega) hmul]
    congr 1
    rw [hp, Nat.mod_mul, Nat.or_comm, ← Nat.shiftLeft_eq, ← Nat.shiftLeft_add_eq_or_of_lt hlow, Nat.shiftLeft_eq, Nat.add_comm, Nat.mul_comm (2 ^ (8 * i))]

theorem putM_armed (m : AM) (a : Int) (s : ByteArray) : (putM m a s).armed = m.armed := by unfold putM; split <;> rfl
theorem st_facts {m : AM} {a k : Int} (h : stE m a k = 0) : wholeB k = true ∧ thr m a k = true := by
  unfold stE at h
  split at h
  · rename_i hw; exact ⟨hw, thr_of h⟩
  · omega
/-- A number has been laid. -/
def R8 (m : AM) (a k v : Int) : Prop := Full m 8 ∧ m.armed = false ∧ thr m a k = true ∧ bytS m a k = bs (stB v) k.toNat
theorem keeps0 {m : AM} (hF : Full m 8) (ha : m.armed = false) {a k : Int} (h : stE m a k = 0) (v : Int) : R8 (stM m a k v) a k v := by
  obtain ⟨hw, ht⟩ := st_facts h
  obtain ⟨h1, h8⟩ := wholeB_le hw
  have e : stM m a k v = laidM m a.toNat (bs (stB v) k.toNat) := by
    unfold stM putM; rw [if_pos hw, bs_size, show ((k.toNat : Nat) : Int) = k by omega, if_pos ht]
  rw [e]
  have ht2 : thr (laidM m a.toNat (bs (stB v) k.toNat)) a k = true := by
    rw [thr_full (hF.laid _ _), inB_cap (m := m) (m' := laidM m a.toNat (bs (stB v) k.toNat)) rfl, ← thr_full hF]; exact ht
  exact ⟨hF.laid _ _, ha, ht2, byt_laid ht2 (bs_size _ _)⟩
theorem keeps1 {m1 : AM} {a k v : Int} (hw : wholeB k = true) (hv : 0 ≤ v ∧ v ≤ 18446744073709551615) (h : R8 m1 a k v) :
    (((decide (k < 8)) && ((ldV m1 a k / (2 ^ Int.toNat (8 * k))) != 0)) || ((k == 8) && (ldV m1 a k != v))) = false := by
  obtain ⟨h1, h8⟩ := wholeB_le hw
  obtain ⟨n, rfl⟩ : ∃ n : Nat, v = n := ⟨v.toNat, by omega⟩
  obtain ⟨q, rfl⟩ : ∃ q : Nat, k = q := ⟨k.toNat, by omega⟩
  have hl : ldV m1 a (q : Int) = ((n % 2 ^ (8 * q) : Nat) : Int) := by
    rw [← ld_v4 hw h.2.2.1, h.2.2.2, Int.toNat_natCast]
    exact ldN_num (by omega) q (Nat.le_refl _)
  rw [hl, show Int.toNat (8 * (q : Int)) = 8 * q by omega]
  have e : ((n % 2 ^ (8 * q) : Nat) : Int) / 2 ^ (8 * q) = 0 := by
    rw [show ((2 : Int) ^ (8 * q)) = ((2 ^ (8 * q) : Nat) : Int) by rw [Int.natCast_pow]; rfl, ← Int.natCast_ediv, Nat.div_eq_of_lt (Nat.mod_lt _ (Nat.pow_pos (by omega)))]; rfl
  rw [e]
  cases hq : ((q : Int) == 8) with
  | false => simp
  | true =>
    have hq : q = 8 := by have := beq_iff_eq.1 hq; omega
    subst hq
    rw [Nat.mod_eq_of_lt (by omega)]
    simp
theorem full8 : Full (comM (AM.new 8) 0 8) 8 := ⟨by decide +kernel, by decide +kernel⟩
def Kept (m1 mx : AM) (a k : Int) : Prop := ∀ j, j < k.toNat → mx.mem (a.toNat + j) = m1.mem (a.toNat + j)
theorem keeps2 {m1 mx : AM} {a k v : Int} (hw : wholeB k = true) (h : R8 m1 a k v) (i1 : Full mx 8) (i2 : Kept m1 mx a k) : ((ldE mx a k != 0) || (ldV mx a k != ldV m1 a k)) = false := by
  have ht : thr mx a k = true := by rw [thr_full i1, inB_cap (m := m1) (i1.1.trans h.1.1.symm), ← thr_full h.1]; exact h.2.2.1
  have e : bytS mx a k = bytS m1 a k := by
    unfold bytS; rw [if_pos ht, if_pos h.2.2.1]; exact bs_congr i2
  rw [ld_e2 hw, chk_thr ht, ← ld_v4 hw ht, ← ld_v4 hw h.2.2.1, e]
  simp
theorem kept_put {m1 mx : AM} {a k y : Int} {s : ByteArray} (i2 : Kept m1 mx a k) (i1 : Full mx 8) (h0 : 0 ≤ a) (h : a + k ≤ y ∨ y + (s.size : Int) ≤ a) : Kept m1 (putM mx y s) a k := by
  intro j hj
  unfold putM
  split
  · rename_i ht
    have hy := (inB_facts (thr_in ht)).1
    show laidF mx.mem y.toNat s.size s (a.toNat + j) = _
    unfold laidF
    rw [if_neg (by omega)]
    exact i2 j hj
  · exact i2 j hj

theorem page_free {mx : AM} (i1 : Full mx 8) (ha : mx.armed = false) {p : Int} (h0 : 0 ≤ p) (h1 : p < 8) :
    decE mx p 1 = 0 ∧ comE (decM mx p 1) p 1 = 0 ∧ Full (comM (decM mx p 1) p 1) 8 ∧ ∀ j, j < 4096 → (comM (decM mx p 1) p 1).mem ((p * 4096).toNat + j) = 0 := by
  have hcap := i1.1
  have hr : rowE mx p 1 = 0 := by rw [rowE_ge (by omega)]; exact trnE_0 h0 (by omega) (by omega)
  have hc : rowC mx p 1 = 1 := by
    rw [(row_facts hr).2.2.2.2]
    have := cntR_all (b := true) (p := mx.com) 1 p.toNat (fun x q1 q2 => i1.2 x (by omega))
    simp only [if_true] at this
    rw [show (1 : Int).toNat = 1 from rfl, this]; rfl
  have hd : decM mx p 1 = { mx with com := setR mx.com p.toNat 1 false } := (dec_yes hr (by omega)).symm
  have hr2 : rowE (decM mx p 1) p 1 = 0 := by rw [hd]; exact hr
  have hc2 : rowC (decM mx p 1) p 1 ≤ 0 := by
    rw [(row_facts hr2).2.2.2.2, hd]
    have := cntR_none (p := setR mx.com p.toNat 1 false) (f := p.toNat) (k := 1) (fun x q1 q2 => by unfold setR; rw [if_pos (by omega)])
    show ((cntR (setR mx.com p.toNat 1 false) p.toNat 1 : Nat) : Int) ≤ 0
    omega
  have ha2 : ¬ ((decM mx p 1).armed = true ∧ (decM mx p 1).refuse = 0) := fun h => by
    have := h.1
    rw [hd] at this
    rw [show ({ mx with com := setR mx.com p.toNat 1 false } : AM).armed = mx.armed from rfl, ha] at this
    cases this
  have hm := com_yes hr2 hc2 ha2
  refine ⟨dec_e3 hr (by omega), com_e4 hr2 hc2 ha2, ?_, fun j hj => ?_⟩
  · rw [← hm, hd]
    refine ⟨hcap, fun i hi => ?_⟩
    show setR (setR mx.com p.toNat 1 false) p.toNat 1 true i = true
    unfold setR
    by_cases e : p.toNat ≤ i ∧ i < p.toNat + 1
    · rw [if_pos e]
    · rw [if_neg e, if_neg e]; exact i1.2 i hi
  · rw [← hm]
    show zeroP _ p.toNat 1 ((p * 4096).toNat + j) = 0
    unfold zeroP
    rw [if_pos (by omega)]
theorem keeps4 {mx : AM} (i1 : Full mx 8) (ha : mx.armed = false) {a : Int} (h0 : 0 ≤ a) (h1 : a < 32768) :
    (((decE mx (a / 4096) 1 == 0) && (comE (decM mx (a / 4096) 1) (a / 4096) 1 == 0)) && (chkE (comM (decM mx (a / 4096) 1) (a / 4096) 1) ((a / 4096) * 4096) 4096 == 0)) = true := by
  obtain ⟨q1, q2, q3, q4⟩ := page_free i1 ha (p := a / 4096) (by omega) (by omega)
  have hcap := q3.1
  have ht : thr (comM (decM mx (a / 4096) 1) (a / 4096) 1) ((a / 4096) * 4096) 4096 = true := by
    rw [thr_full q3]; exact inB_yes (by omega) (by omega) (by omega) (by omega)
  rw [q1, q2, chk_thr ht]; rfl
theorem keeps3 {mx : AM} (i1 : Full mx 8) (ha : mx.armed = false) {a : Int} (h0 : 0 ≤ a) (h1 : a < 32768) :
    (ByteArray.toList (bytS (comM (decM mx (a / 4096) 1) (a / 4096) 1) ((a / 4096) * 4096) 4096) == ByteArray.toList (bs (fun _ => 0) (Int.toNat 4096))) = true := by
  obtain ⟨q1, q2, q3, q4⟩ := page_free i1 ha (p := a / 4096) (by omega) (by omega)
  have hcap := q3.1
  have ht : thr (comM (decM mx (a / 4096) 1) (a / 4096) 1) ((a / 4096) * 4096) 4096 = true := by
    rw [thr_full q3]; exact inB_yes (by omega) (by omega) (by omega) (by omega)
  have e : bytS (comM (decM mx (a / 4096) 1) (a / 4096) 1) ((a / 4096) * 4096) 4096 = bs (fun _ => 0) (Int.toNat 4096) := by
    unfold bytS; rw [if_pos ht]; exact bs_congr fun j hj => q4 j (by omega)
  rw [e]; simp

end Go.Proofs.YtlnecfdbmoilbaaDoor.K
