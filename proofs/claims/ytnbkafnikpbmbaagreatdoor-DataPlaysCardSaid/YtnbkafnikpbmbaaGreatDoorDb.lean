/-
  Keys and their numbers: what the walks want.
-/
import Derived.Test.YtnbkafnikpbmbaaGreatDoorDa
import Derived.Test.YtnbkafnikpbmbaaGreatDoorGf
namespace Go.Proofs.YtnbkafnikpbmbaaGreatDoor.K
set_option linter.unusedSimpArgs false
set_option linter.unusedVariables false

section
variable {m : AM} {o z : Int} {L l items : List It} {key : ByteArray} {s v : Int}
theorem e_size {a : ByteArray} (h : (ByteArray.toList a == ByteArray.toList (⟨#[]⟩ : ByteArray)) = true) : a.size = 0 := by
  have := toList_inj (beq_iff_eq.1 h)
  rw [this]; rfl
theorem e_size0 {a : ByteArray} (h : (ByteArray.toList a == ByteArray.toList (⟨#[]⟩ : ByteArray)) = false) : a.size ≠ 0 := fun q => by
  have e : a = ⟨#[]⟩ := ByteArray.ext (Array.eq_empty_of_size_eq_zero q)
  rw [e] at h
  exact absurd h (by decide +kernel)
theorem dAll_stop (hR : DtR m o z L) {x : Int} (h0 : 0 ≤ x) (h : (ByteArray.toList (ftV m o z (x * 32) 16) == ByteArray.toList (⟨#[]⟩ : ByteArray)) = true) : ((L.length : Nat) : Int) ≤ x := by
  rcases Int.lt_or_le x (L.length : Int) with h1 | h1
  · exfalso
    have h2 := hR.okd.ok x.toNat (by omega)
    have h3 := (hR.at_ x.toNat (by omega)).1
    rw [Int.toNat_of_nonneg h0] at h3
    have h4 := e_size h
    unfold dKey at h3
    rw [h3] at h4
    omega
  · exact h1
theorem dAll_go (hR : DtR m o z L) {x : Int} (h1 : x ≤ ((L.length : Nat) : Int)) (h2 : x < z / 32) (h : (ByteArray.toList (ftV m o z (x * 32) 16) == ByteArray.toList (⟨#[]⟩ : ByteArray)) = false) : x < ((L.length : Nat) : Int) := by
  rcases Int.lt_or_le x (L.length : Int) with h3 | h3
  · exact h3
  · exfalso
    have e : x = (L.length : Int) := by omega
    subst e
    have h4 := hR.end_ h2
    unfold dKey at h4
    rw [h4] at h
    exact absurd h (by decide +kernel)
theorem dAll_step (hR : DtR m o z L) {x : Int} {lq : List It} (i1 : lq = L.take x.toNat) (h0 : 0 ≤ x) (h1 : x < ((L.length : Nat) : Int)) : lq ++ [(ftV m o z (x * 32) 16, vldV m o z ((x * 32) + 24) 8)] = L.take (x + 1).toNat := by
  obtain ⟨h3, h4⟩ := hR.at_ x.toNat (by omega)
  rw [Int.toNat_of_nonneg h0] at h3 h4
  unfold dKey at h3
  unfold dNum at h4
  rw [h3, h4, i1, show (x + 1).toNat = x.toNat + 1 by omega, List.take_add_one, List.getElem?_eq_getElem (show x.toNat < L.length by omega), gtD_lt (show x.toNat < L.length by omega)]
  rfl
theorem dLay_step {x : Int} {mx : AM} (i1 : mx = dLayN m o z l x.toNat) (h0 : 0 ≤ x) : vstM (fpM mx o z (x * 32) 16 (gtD l x.toNat).1) o z ((x * 32) + 24) 8 (gtD l x.toNat).2 = dLayN m o z l (x + 1).toNat := by
  rw [show (x + 1).toNat = x.toNat + 1 by omega, i1]
  show _ = vstM (fpM (dLayN m o z l x.toNat) o z ((x.toNat : Int) * 32) 16 (gtD l x.toNat).1) o z (((x.toNat : Int) * 32) + 24) 8 (gtD l x.toNat).2
  rw [Int.toNat_of_nonneg h0]
theorem dW_1 (h : (ByteArray.toList key == ByteArray.toList (⟨#[]⟩ : ByteArray)) = true) : (([] : List It), (17 : Int)) = dWith s L (key, v) := by
  unfold dWith; rw [if_pos (e_size h)]
theorem dW_2 (h : (ByteArray.toList key == ByteArray.toList (⟨#[]⟩ : ByteArray)) = false) (h2 : (16 : Int) < ((key.size : Nat) : Int)) : (([] : List It), (16 : Int)) = dWith s L (key, v) := by
  unfold dWith; rw [if_neg (e_size0 h), if_pos (show 16 < (key, v).1.size by show 16 < key.size; omega)]
theorem dW_3 (h : (ByteArray.toList key == ByteArray.toList (⟨#[]⟩ : ByteArray)) = false) (h2 : ¬ (16 : Int) < ((key.size : Nat) : Int)) (h3 : 0 ≤ dOf L key) : (L.set (Int.toNat (dOf L key)) (key, v), (0 : Int)) = dWith s L (key, v) := by
  unfold dWith; rw [if_neg (e_size0 h), if_neg (show ¬ 16 < (key, v).1.size by show ¬ 16 < key.size; omega), if_pos h3]
theorem dW_4 (h : (ByteArray.toList key == ByteArray.toList (⟨#[]⟩ : ByteArray)) = false) (h2 : ¬ (16 : Int) < ((key.size : Nat) : Int)) (h3 : ¬ 0 ≤ dOf L key) (h4 : s ≤ ((L.length : Nat) : Int)) : (([] : List It), (10 : Int)) = dWith s L (key, v) := by
  unfold dWith; rw [if_neg (e_size0 h), if_neg (show ¬ 16 < (key, v).1.size by show ¬ 16 < key.size; omega), if_neg h3, if_pos h4]
theorem dW_5 (h : (ByteArray.toList key == ByteArray.toList (⟨#[]⟩ : ByteArray)) = false) (h2 : ¬ (16 : Int) < ((key.size : Nat) : Int)) (h3 : ¬ 0 ≤ dOf L key) (h4 : ¬ s ≤ ((L.length : Nat) : Int)) : (L ++ [(key, v)], (0 : Int)) = dWith s L (key, v) := by
  unfold dWith; rw [if_neg (e_size0 h), if_neg (show ¬ 16 < (key, v).1.size by show ¬ 16 < key.size; omega), if_neg h3, if_neg h4]
theorem dPut_at {x : Int} {lq : List It} (i1 : (lq, (0 : Int)) = dPutT s L (l.take x.toNat)) (h0 : 0 ≤ x) (h1 : x < ((l.length : Nat) : Int)) : dWith s lq (gtD l x.toNat) = dPutT s L (l.take (x + 1).toNat) := by
  rw [show (x + 1).toNat = x.toNat + 1 by omega, List.take_add_one, List.getElem?_eq_getElem (show x.toNat < l.length by omega), gtD_lt (show x.toNat < l.length by omega)]
  unfold dPutT at i1 ⊢
  rw [List.foldl_append, ← i1]
  simp
theorem dPut_same {p : List It × Int} (hp : ¬ p.2 = 0) : ∀ l : List It, l.foldl (fun p x => if p.2 = 0 then dWith s p.1 x else p) p = p
  | [] => rfl
  | x :: l => by rw [List.foldl_cons, if_neg hp]; exact dPut_same hp l
theorem dPut_err {x e : Int} {lq L2 : List It} (i1 : (lq, (0 : Int)) = dPutT s L (l.take x.toNat)) (h0 : 0 ≤ x) (h1 : x < ((l.length : Nat) : Int)) (hW : (L2, e) = dWith s lq (gtD l x.toNat)) (he : ¬ e = 0) : e = (dPutT s L l).2 := by
  have h := dPut_at i1 h0 h1
  rw [← hW] at h
  have h2 : dPutT s L l = (L2, e) := by
    conv => lhs; rw [← List.take_append_drop (x + 1).toNat l]
    unfold dPutT at h ⊢
    rw [List.foldl_append, ← h]
    exact dPut_same he _
  rw [h2]
theorem dPut_stay {x e : Int} {lq L2 : List It} (i1 : (lq, (0 : Int)) = dPutT s L (l.take x.toNat)) (h0 : 0 ≤ x) (h1 : x < ((l.length : Nat) : Int)) (hW : (L2, e) = dWith s lq (gtD l x.toNat)) (he : ¬ e = 0) (hs : s = z / 32) : m = dPutM m o z L l := by
  have := dPut_err i1 h0 h1 hW he
  unfold dPutM
  rw [← hs, ← this, if_neg he]
theorem dPut_end {x : Int} {lq : List It} (i1 : (lq, (0 : Int)) = dPutT (z / 32) L (l.take x.toNat)) (h1 : ((l.length : Nat) : Int) ≤ x) : 0 = (dPutT (z / 32) L l).2 ∧ dLayM m o z lq = dPutM m o z L l := by
  rw [List.take_of_length_le (by omega)] at i1
  unfold dPutM
  rw [← i1, if_pos rfl]; exact ⟨rfl, rfl⟩
theorem dW_len {lq L2 : List It} {x : It} (h : ((lq.length : Nat) : Int) ≤ s) (hW : (L2, (0 : Int)) = dWith s lq x) : ((L2.length : Nat) : Int) ≤ s := by
  unfold dWith at hW
  split at hW
  · exact absurd (show (0 : Int) = 17 from congrArg Prod.snd hW) (by decide)
  · split at hW
    · exact absurd (show (0 : Int) = 16 from congrArg Prod.snd hW) (by decide)
    · split at hW
      · rw [show L2 = lq.set (dOf lq x.1).toNat x from congrArg Prod.fst hW]; simpa using h
      · split at hW
        · exact absurd (show (0 : Int) = 10 from congrArg Prod.snd hW) (by decide)
        · rw [show L2 = lq ++ [x] from congrArg Prod.fst hW, List.length_append]
          show ((lq.length + 1 : Nat) : Int) ≤ s
          omega
theorem dGet_1 (h : 0 ≤ dOf L key) : (gtD L (Int.toNat (dOf L key))).2 = dGetV L key ∧ true = dGetB L key := by
  unfold dGetV dGetB; rw [if_neg (by omega), decide_eq_true h]; exact ⟨rfl, rfl⟩
theorem dGet_2 (h : ¬ 0 ≤ dOf L key) : 0 = dGetV L key ∧ false = dGetB L key := by
  unfold dGetV dGetB; rw [if_pos (by omega), decide_eq_false h]; exact ⟨rfl, rfl⟩
theorem dDro_1 (h : dOf L key < 0) : m = dDroM m o z L key ∧ 8 = dDroE L key := by
  unfold dDroM dDroE; rw [if_pos h, if_pos h]; exact ⟨rfl, rfl⟩
theorem dDro_2 (h : ¬ dOf L key < 0) : dLayM m o z (L.eraseIdx (Int.toNat (dOf L key))) = dDroM m o z L key ∧ 0 = dDroE L key := by
  unfold dDroM dDroE; rw [if_neg h, if_neg h]; exact ⟨rfl, rfl⟩
end
theorem HE.lst_row {w : World} {b n k tot : Nat} {e : TypeId} {f f' : Nat → Value} (h : HE.holds w b (.row e n tot f)) (hk : 0 + k ≤ n) (hf' : ∀ x, x < 0 + k → f x = f' x) : HE.holds w b (.fn 0 (0 + k) f') := by
  obtain ⟨cur, hc, hsz, hmt, hf⟩ := h
  exact ⟨cur, e, (0, 0), hc, fun x h1 h2 => (hf x (by omega)).trans (by rw [hf' x h2])⟩
/-! ## An item less -/
def delU (L : List It) (i : Nat) (j : Nat) : It := if j < i then gtD L j else if j + 1 < L.length then gtD L (j + 1) else gtD L j
theorem del_seg {L : List It} {i k off : Nat} (hi : i < L.length) (hk : k = L.length - (i + 1)) (hoff : k = 0 ∨ off = (i + 1) * 2) : ∀ o, o < L.length * 2 → segV (itV (gtD L) 0) (i * 2) (k * 2) (fun j => itV (gtD L) 0 (off + j)) o = itV (delU L i) 0 o := by
  intro x hx
  unfold segV
  by_cases h : i * 2 ≤ x ∧ x < i * 2 + k * 2
  · rw [if_pos h]
    have ho : off = (i + 1) * 2 := hoff.resolve_left (by omega)
    subst ho
    unfold itV delU
    simp only [Nat.sub_zero]
    rw [show ((i + 1) * 2 + (x - i * 2)) % 2 = x % 2 by omega, show ((i + 1) * 2 + (x - i * 2)) / 2 = x / 2 + 1 by omega, if_neg (show ¬ x / 2 < i by omega), if_pos (show x / 2 + 1 < L.length by omega)]
  · rw [if_neg h]
    unfold itV delU
    simp only [Nat.sub_zero]
    by_cases h1 : x / 2 < i
    · rw [if_pos h1]
    · rw [if_neg h1, if_neg (show ¬ x / 2 + 1 < L.length by omega)]
theorem del_clear {L : List It} {i k off : Nat} {g : Nat → Value} (hi : i < L.length) (hk : k = 1) (hoff : off = (L.length - 1) * 2) (hg0 : g 0 = .string (⟨#[]⟩ : ByteArray)) (hg1 : g 1 = vu 0) :
    ∃ E2 : Nat → It, (∀ o, o < L.length * 2 → segV (itV (delU L i) 0) off (k * 2) g o = itV E2 0 o) ∧ ∀ j, j < L.length - 1 → E2 j = gtD (L.eraseIdx i) j := by
  subst hk
  subst hoff
  refine ⟨fun j => if j < L.length - 1 then delU L i j else ((⟨#[]⟩ : ByteArray), 0), fun x hx => ?_, fun j hj => ?_⟩
  · unfold segV
    by_cases h : (L.length - 1) * 2 ≤ x ∧ x < (L.length - 1) * 2 + 1 * 2
    · rw [if_pos h]
      unfold itV
      simp only [Nat.sub_zero]
      rw [if_neg (show ¬ x / 2 < L.length - 1 by omega)]
      rcases (show x - (L.length - 1) * 2 = 0 ∨ x - (L.length - 1) * 2 = 1 by omega) with e | e
      · rw [e, hg0, if_pos (by omega)]
      · rw [e, hg1, if_neg (by omega)]
    · rw [if_neg h]
      unfold itV
      simp only [Nat.sub_zero]
      rw [if_pos (show x / 2 < L.length - 1 by omega)]
  · show (if j < L.length - 1 then delU L i j else _) = _
    rw [if_pos hj]
    unfold delU gtD
    simp only [List.getD_eq_getElem?_getD, List.getElem?_eraseIdx]
    rw [if_pos (show j + 1 < L.length by omega)]
    split <;> rfl
end Go.Proofs.YtnbkafnikpbmbaaGreatDoor.K
