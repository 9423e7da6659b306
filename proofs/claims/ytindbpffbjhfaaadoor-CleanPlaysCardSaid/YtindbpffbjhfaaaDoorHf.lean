/-
  Lists of what is to be done, plainly.
-/
import Derived.Test.YtindbpffbjhfaaaDoorHe
namespace Go.Proofs.YtindbpffbjhfaaaDoor.K
set_option linter.unusedSimpArgs false
set_option linter.unusedVariables false

section
variable {c : Cx} {H : Heap} {A : List Res} {w : World}
/-- What has not grown is nothing. -/
theorem WS.grNil {e : TypeId} {sz m : Nat} {v : Value} {F : Nat → Prop} {f : Nat → Value} (h : WS c H [grR e sz v F (m, f)] w) (hm : m = 0) : v = vnil ∧ WS c H [] w := by
  have hB : GrV e sz w v F m f := h.res 0
  refine ⟨?_, h.dropA [] (fun r hr => nomatch hr) List.Pairwise.nil⟩
  rcases hB with ⟨h1, _, _⟩ | ⟨g, cap, _, h2, _⟩
  · exact h1
  · omega
end

/-- Rows of entries: of each a number, a kind, a level, an argument. -/
def entV (E : Nat → Int × Int × Int × Int) (o x : Nat) : Value :=
  if (x - o) % 4 = 0 then vu (E ((x - o) / 4)).1 else if (x - o) % 4 = 1 then v8 (E ((x - o) / 4)).2.1 else if (x - o) % 4 = 2 then v8 (E ((x - o) / 4)).2.2.1 else vu (E ((x - o) / 4)).2.2.2
theorem entV_0 (E : Nat → Int × Int × Int × Int) (o i : Nat) : entV E o (o + i * 4) = vu (E i).1 := by
  unfold entV; rw [show o + i * 4 - o = i * 4 by omega, if_pos (by omega), show i * 4 / 4 = i by omega]
theorem entV_1 (E : Nat → Int × Int × Int × Int) (o i : Nat) : entV E o (o + i * 4 + 1) = v8 (E i).2.1 := by
  unfold entV; rw [show o + i * 4 + 1 - o = i * 4 + 1 by omega, if_neg (by omega), if_pos (by omega), show (i * 4 + 1) / 4 = i by omega]
theorem entV_2 (E : Nat → Int × Int × Int × Int) (o i : Nat) : entV E o (o + i * 4 + 2) = v8 (E i).2.2.1 := by
  unfold entV; rw [show o + i * 4 + 2 - o = i * 4 + 2 by omega, if_neg (by omega), if_neg (by omega), if_pos (by omega), show (i * 4 + 2) / 4 = i by omega]
theorem entV_3 (E : Nat → Int × Int × Int × Int) (o i : Nat) : entV E o (o + i * 4 + 3) = vu (E i).2.2.2 := by
  unfold entV; rw [show o + i * 4 + 3 - o = i * 4 + 3 by omega, if_neg (by omega), if_neg (by omega), if_neg (by omega), show (i * 4 + 3) / 4 = i by omega]
theorem gr_ent {E : Nat → Int × Int × Int × Int} {m : Nat} {a b c d : Int} (h : E m = (a, b, c, d)) : ∀ x, x < (m + 1) * 4 → appF (entV E 0) (m * 4) [vu a, v8 b, v8 c, vu d] x = entV E 0 x := by
  intro x hx
  unfold appF
  by_cases h1 : x < m * 4
  · rw [if_pos h1]
  · rw [if_neg h1]
    rcases (by omega : x = m * 4 ∨ x = m * 4 + 1 ∨ x = m * 4 + 2 ∨ x = m * 4 + 3) with rfl | rfl | rfl | rfl
    · have := entV_0 E 0 m; rw [Nat.zero_add] at this; rw [this, h, show m * 4 - m * 4 = 0 by omega]; rfl
    · have := entV_1 E 0 m; rw [Nat.zero_add] at this; rw [this, h, show m * 4 + 1 - m * 4 = 1 by omega]; rfl
    · have := entV_2 E 0 m; rw [Nat.zero_add] at this; rw [this, h, show m * 4 + 2 - m * 4 = 2 by omega]; rfl
    · have := entV_3 E 0 m; rw [Nat.zero_add] at this; rw [this, h, show m * 4 + 3 - m * 4 = 3 by omega]; rfl

/-- A slot's two numbers, and what they tell. -/
def cN0 (m : AM) (o i : Int) : Int := getW oRec m (o + i * 24) 24 0
def cN1 (m : AM) (o i : Int) : Int := getW oRec m (o + i * 24) 24 1
def cId (m : AM) (o i : Int) : Int := cN0 m o i / 65536
def cKd (m : AM) (o i : Int) : Int := IntKind.wrap .u8 (cN0 m o i)
def cLv (m : AM) (o i : Int) : Int := IntKind.wrap .u8 (cN0 m o i / 256)
theorem cId_eq (m : AM) (o i : Int) : cN0 m o i / 65536 = cId m o i := rfl
theorem cKd_eq (m : AM) (o i : Int) : IntKind.wrap .u8 (cN0 m o i) = cKd m o i := rfl
theorem cLv_eq (m : AM) (o i : Int) : IntKind.wrap .u8 (cN0 m o i / 256) = cLv m o i := rfl
theorem cN0_eq (m : AM) (o i : Int) : vu (getW oRec m (o + i * 24) 24 ((0 : Nat) : Int)) = vu (cN0 m o i) := rfl
theorem cN1_eq (m : AM) (o i : Int) : vu (getW oRec m (o + i * 24) 24 ((1 : Nat) : Int)) = vu (cN1 m o i) := rfl
def cEnt (m : AM) (o : Int) (i : Nat) : Int × Int × Int × Int := (cId m o (i : Int), cKd m o (i : Int), cLv m o (i : Int), cN1 m o (i : Int))
def cNo (m : AM) (o : Int) (i : Nat) : Bool := cId m o (i : Int) == 0
def gIf (m : AM) (o i x : Int) : Int := if cId m o i = 0 then 0 else x
theorem gIf_no {m : AM} {o i x : Int} (h : cId m o i = 0) : 0 = gIf m o i x := by unfold gIf; rw [if_pos h]
theorem gIf_yes {m : AM} {o i x : Int} (h : cId m o i ≠ 0) : x = gIf m o i x := by unfold gIf; rw [if_neg h]
theorem cN0_rng (m : AM) (o i : Int) : 0 ≤ cN0 m o i ∧ cN0 m o i ≤ 18446744073709551615 := getW_rng _ _ _ _ _
theorem cEnt_rng (m : AM) (o i : Int) : (0 ≤ cId m o i ∧ cId m o i ≤ 281474976710655) ∧ (0 ≤ cKd m o i ∧ cKd m o i ≤ 255) ∧ (0 ≤ cLv m o i ∧ cLv m o i ≤ 255) ∧ 0 ≤ cN1 m o i ∧ cN1 m o i ≤ 18446744073709551615 := by
  have h := cN0_rng m o i
  refine ⟨?_, wrap_u8 _, wrap_u8 _, getW_rng _ _ _ _ _⟩
  unfold cId; omega
def cSl (z : Int) : Int := z / 24
/-- How many entries there are. -/
def cCnt (m : AM) (o z : Int) : Nat := (fstN (cNo m o) (cSl z).toNat).getD (cSl z).toNat
theorem cCnt_at {m : AM} {o z x : Int} (h : NoUp (cNo m o) x) (h0 : 0 ≤ x) (h1 : x < cSl z) (hf : cId m o x = 0) : cCnt m o z = x.toNat := by
  unfold cCnt
  rw [fstN_at h h0 (by omega) (by unfold cNo; rw [Int.toNat_of_nonneg h0, hf]; rfl)]; rfl
theorem cCnt_end {m : AM} {o z x : Int} (h : NoUp (cNo m o) x) (h0 : 0 ≤ x) (h1 : x ≤ cSl z) (h2 : ¬ x < cSl z) : cCnt m o z = x.toNat := by
  unfold cCnt
  rw [fstN_none h (by omega)]; show (cSl z).toNat = _; omega
theorem cCnt_step {m : AM} {o x : Int} (h : NoUp (cNo m o) x) (h0 : 0 ≤ x) (hf : cId m o x ≠ 0) : NoUp (cNo m o) (x + 1) := noUp_step h h0 (by unfold cNo; rw [Int.toNat_of_nonneg h0]; simpa using hf)
theorem cCnt_le (m : AM) (o z : Int) : cCnt m o z ≤ (cSl z).toNat := by
  unfold cCnt fstN
  cases h : (List.range (cSl z).toNat).find? (cNo m o) with
  | none => exact Nat.le_refl _
  | some k =>
    have := List.mem_range.1 (List.mem_of_find?_eq_some h)
    show k ≤ _; omega
/-- Where a number stands; -1. -/
def cIs (m : AM) (o id : Int) (i : Nat) : Bool := cId m o (i : Int) == id
def cFind (m : AM) (o z id : Int) : Int := match fstN (cIs m o id) (cCnt m o z) with | some i => (i : Int) | none => -1
theorem cFind_at {m : AM} {o z id x : Int} (h : NoUp (cIs m o id) x) (h0 : 0 ≤ x) (h1 : x < ((cCnt m o z : Nat) : Int)) (hf : cId m o x = id) : x = cFind m o z id := by
  unfold cFind
  rw [fstN_at h h0 h1 (by unfold cIs; rw [Int.toNat_of_nonneg h0, hf]; simp)]
  show x = ((x.toNat : Nat) : Int); omega
theorem cFind_no {m : AM} {o z id x : Int} (h : NoUp (cIs m o id) x) (h1 : ((cCnt m o z : Nat) : Int) ≤ x) : -1 = cFind m o z id := by
  unfold cFind
  rw [fstN_none h h1]
theorem cFind_step {m : AM} {o id x : Int} (h : NoUp (cIs m o id) x) (h0 : 0 ≤ x) (hf : cId m o x ≠ id) : NoUp (cIs m o id) (x + 1) := noUp_step h h0 (by unfold cIs; rw [Int.toNat_of_nonneg h0]; simpa using hf)
theorem cFind_bd (m : AM) (o z id : Int) : -1 ≤ cFind m o z id ∧ cFind m o z id < ((cCnt m o z : Nat) : Int) := by
  unfold cFind fstN
  cases h : (List.range (cCnt m o z)).find? (cIs m o id) with
  | none => exact ⟨Int.le_refl _, by show (-1 : Int) < _; omega⟩
  | some k =>
    have := List.mem_range.1 (List.mem_of_find?_eq_some h)
    exact ⟨by show (-1 : Int) ≤ (k : Int); omega, by show (k : Int) < _; omega⟩
/-- A slot is laid. -/
def eN0 (id kd lv : Int) : Int := ior .u64 (ior .u64 (IntKind.wrap .u64 (id * 2 ^ 16)) (IntKind.wrap .u64 (lv * 2 ^ 8))) kd
def eNum (id kd lv ar : Int) (i : Nat) : Nat := if i = 0 then (eN0 id kd lv).toNat else ar.toNat
theorem eN0_rng (id kd lv : Int) : 0 ≤ eN0 id kd lv ∧ eN0 id kd lv ≤ 18446744073709551615 := by unfold eN0; exact wrap_u64_rng _
theorem eNum_cells {id kd lv ar : Int} (h : 0 ≤ ar) : ∀ o, o < 2 → [vu (eN0 id kd lv), vu ar][o]? = some (u64s (eNum id kd lv ar) 0 o) := by
  intro o ho
  rcases (by omega : o = 0 ∨ o = 1) with rfl | rfl
  · exact congrArg (fun x => some (vu x)) (Int.toNat_of_nonneg (eN0_rng id kd lv).1).symm
  · exact congrArg (fun x => some (vu x)) (Int.toNat_of_nonneg h).symm
def cPutM (m : AM) (o i id kd lv ar : Int) : AM := pRM oRec 2 (eNum id kd lv ar) m (o + i * 24) 24
theorem thr_same {m m' : AM} (h1 : m'.cap = m.cap) (h2 : m'.com = m.com) (a n : Int) : thr m' a n = thr m a n := by unfold thr inB; rw [h1, h2]
theorem vstM_com (m : AM) (o z a k v : Int) : (vstM m o z a k v).cap = m.cap ∧ (vstM m o z a k v).com = m.com := by
  unfold vstM stM putM laidM
  (repeat' split) <;> exact ⟨rfl, rfl⟩
theorem setM_com (l : List Int) (m : AM) (o z i x : Int) : (setM l m o z i x).cap = m.cap ∧ (setM l m o z i x).com = m.com := by
  unfold setM
  split
  · split
    · exact vstM_com _ _ _ _ _ _
    · exact ⟨rfl, rfl⟩
  · exact ⟨rfl, rfl⟩
theorem putA_com (l : List Int) (o z : Int) (nums : Nat → Nat) (m : AM) : ∀ k, (putA l o z nums m k).cap = m.cap ∧ (putA l o z nums m k).com = m.com
  | 0 => ⟨rfl, rfl⟩
  | k + 1 => by
    have h := putA_com l o z nums m k
    have h2 := setM_com l (putA l o z nums m k) o z (k : Int) ((nums k : Nat) : Int)
    exact ⟨h2.1.trans h.1, h2.2.trans h.2⟩
theorem pRM_com (l : List Int) (nn : Nat) (nums : Nat → Nat) (m : AM) (o z : Int) : (pRM l nn nums m o z).cap = m.cap ∧ (pRM l nn nums m o z).com = m.com := by
  unfold pRM
  split
  · exact ⟨rfl, rfl⟩
  · split
    · split
      · exact putA_com _ _ _ _ _ _
      · exact ⟨rfl, rfl⟩
    · exact ⟨rfl, rfl⟩
theorem cPutM_thr (m : AM) (o i id kd lv ar a n : Int) : thr (cPutM m o i id kd lv ar) a n = thr m a n := thr_same (pRM_com _ _ _ _ _ _).1 (pRM_com _ _ _ _ _ _).2 a n
def addE (m : AM) (o z id : Int) : Int := if id = 0 ∨ 281474976710655 < id then 2 else if 0 ≤ cFind m o z id then 9 else if cSl z - ((cCnt m o z : Nat) : Int) = 0 then 10 else 0
def addM (m : AM) (o z id kd lv ar : Int) : AM := if addE m o z id = 0 then cPutM m o ((cCnt m o z : Nat) : Int) id kd lv ar else m
theorem add_1 {m : AM} {o z id kd lv ar : Int} (h : id = 0 ∨ 281474976710655 < id) : 2 = addE m o z id ∧ m = addM m o z id kd lv ar := by
  have e : addE m o z id = 2 := by unfold addE; rw [if_pos h]
  unfold addM; rw [e]; exact ⟨rfl, rfl⟩
theorem add_2 {m : AM} {o z id kd lv ar : Int} (h : ¬ (id = 0 ∨ 281474976710655 < id)) (h2 : 0 ≤ cFind m o z id) : 9 = addE m o z id ∧ m = addM m o z id kd lv ar := by
  have e : addE m o z id = 9 := by unfold addE; rw [if_neg h, if_pos h2]
  unfold addM; rw [e]; exact ⟨rfl, rfl⟩
theorem add_3 {m : AM} {o z id kd lv ar : Int} (h : ¬ (id = 0 ∨ 281474976710655 < id)) (h2 : ¬ 0 ≤ cFind m o z id) (h3 : cSl z - ((cCnt m o z : Nat) : Int) = 0) : 10 = addE m o z id ∧ m = addM m o z id kd lv ar := by
  have e : addE m o z id = 10 := by unfold addE; rw [if_neg h, if_neg h2, if_pos h3]
  unfold addM; rw [e]; exact ⟨rfl, rfl⟩
theorem add_4 {m : AM} {o z id kd lv ar : Int} (h : ¬ (id = 0 ∨ 281474976710655 < id)) (h2 : ¬ 0 ≤ cFind m o z id) (h3 : ¬ cSl z - ((cCnt m o z : Nat) : Int) = 0) : 0 = addE m o z id ∧ cPutM m o ((cCnt m o z : Nat) : Int) id kd lv ar = addM m o z id kd lv ar := by
  have e : addE m o z id = 0 := by unfold addE; rw [if_neg h, if_neg h2, if_neg h3]
  unfold addM; rw [e]; exact ⟨rfl, rfl⟩
/-- An entry less: those behind it move up. -/
def killGo (m : AM) (o z k : Int) : Nat → AM
  | 0 => m
  | j + 1 => if k + (j : Int) + 1 < ((cCnt m o z : Nat) : Int) then cPutM (killGo m o z k j) o (k + (j : Int)) (cId m o (k + (j : Int) + 1)) (cKd m o (k + (j : Int) + 1)) (cLv m o (k + (j : Int) + 1)) (cN1 m o (k + (j : Int) + 1)) else cPutM (killGo m o z k j) o (k + (j : Int)) 0 0 0 0
theorem killGo_thr (m : AM) (o z k a n : Int) : ∀ j, thr (killGo m o z k j) a n = thr m a n
  | 0 => rfl
  | j + 1 => by
    unfold killGo
    split
    · rw [cPutM_thr]; exact killGo_thr m o z k a n j
    · rw [cPutM_thr]; exact killGo_thr m o z k a n j
theorem kill_1 {m mx : AM} {o z k x : Int} (h : mx = killGo m o z k (x - k).toNat) (h0 : k ≤ x) (h1 : x + 1 < ((cCnt m o z : Nat) : Int)) : cPutM mx o x (cId m o (x + 1)) (cKd m o (x + 1)) (cLv m o (x + 1)) (cN1 m o (x + 1)) = killGo m o z k (x + 1 - k).toNat := by
  rw [show (x + 1 - k).toNat = (x - k).toNat + 1 by omega, h]
  show _ = if k + (((x - k).toNat : Nat) : Int) + 1 < _ then _ else _
  rw [show k + (((x - k).toNat : Nat) : Int) = x by omega, if_pos h1]
theorem kill_2 {m mx : AM} {o z k x : Int} (h : mx = killGo m o z k (x - k).toNat) (h0 : k ≤ x) (h1 : ¬ x + 1 < ((cCnt m o z : Nat) : Int)) : cPutM mx o x 0 0 0 0 = killGo m o z k (x + 1 - k).toNat := by
  rw [show (x + 1 - k).toNat = (x - k).toNat + 1 by omega, h]
  show _ = if k + (((x - k).toNat : Nat) : Int) + 1 < _ then _ else _
  rw [show k + (((x - k).toNat : Nat) : Int) = x by omega, if_neg h1]
def gOk (m : AM) (o i : Int) : Bool := !(cId m o i == 0)
theorem gOk_no {m : AM} {o i : Int} (h : gOk m o i = false) : cId m o i = 0 := by unfold gOk at h; simpa using h
theorem gOk_yes {m : AM} {o i : Int} (h : gOk m o i = true) : cId m o i ≠ 0 := by unfold gOk at h; simpa using h
theorem gOk_0 {m : AM} {o i : Int} (h : cId m o i = 0) : false = gOk m o i := by unfold gOk; rw [h]; rfl
theorem gOk_1 {m : AM} {o i : Int} (h : cId m o i ≠ 0) : true = gOk m o i := by unfold gOk; simpa using h
def killM (m : AM) (o z id : Int) : AM := if cFind m o z id < 0 then m else killGo m o z (cFind m o z id) (((cCnt m o z : Nat) : Int) - cFind m o z id).toNat
def kIf (m : AM) (o z id x : Int) : Int := if cFind m o z id < 0 then 0 else x
def killE (m : AM) (o z id : Int) : Int := if cFind m o z id < 0 then 8 else 0
theorem kl_no {m : AM} {o z id : Int} (h : cFind m o z id < 0) : m = killM m o z id ∧ (∀ x, 0 = kIf m o z id x) ∧ 8 = killE m o z id := by unfold killM kIf killE; rw [if_pos h, if_pos h]; exact ⟨rfl, fun x => by rw [if_pos h], rfl⟩
theorem kl_yes {m : AM} {o z id : Int} (h : ¬ cFind m o z id < 0) : killGo m o z (cFind m o z id) (((cCnt m o z : Nat) : Int) - cFind m o z id).toNat = killM m o z id ∧ (∀ x, x = kIf m o z id x) ∧ 0 = killE m o z id := by unfold killM kIf killE; rw [if_neg h, if_neg h]; exact ⟨rfl, fun x => by rw [if_neg h], rfl⟩
def popM (m : AM) (o z : Int) : AM := if cCnt m o z = 0 then m else cPutM m o (((cCnt m o z : Nat) : Int) - 1) 0 0 0 0
def pIf (m : AM) (o z x : Int) : Int := if cCnt m o z = 0 then 0 else x
def popB (m : AM) (o z : Int) : Bool := !(cCnt m o z == 0)
theorem pp_no {m : AM} {o z : Int} (h : cCnt m o z = 0) : m = popM m o z ∧ (∀ x, 0 = pIf m o z x) ∧ false = popB m o z := by unfold popM pIf popB; rw [if_pos h]; exact ⟨rfl, fun x => by rw [if_pos h], by rw [h]; rfl⟩
theorem pp_yes {m : AM} {o z : Int} (h : 0 < cCnt m o z) : cPutM m o (((cCnt m o z : Nat) : Int) - 1) 0 0 0 0 = popM m o z ∧ (∀ x, x = pIf m o z x) ∧ true = popB m o z := by
  have h2 : cCnt m o z ≠ 0 := by omega
  unfold popM pIf popB; rw [if_neg h2]; exact ⟨rfl, fun x => by rw [if_neg h2], by simpa using h2⟩
end Go.Proofs.YtindbpffbjhfaaaDoor.K
