/-
  Lists of what is to be done, plainly.
-/
import Derived.Test.YtnbkafnikpbmbaaDoorHe
namespace Go.Proofs.YtnbkafnikpbmbaaDoor.K
set_option linter.unusedSimpArgs false
set_option linter.unusedVariables false

section
variable {c : Cx} {H : Heap} {A : List Res} {w : World}
/-- What has not grown is nothing. -/
theorem WS.grNil {e : TypeId} {sz m : Nat} {v : Value} {F : Nat → Prop} {f : Nat → Value} (h : WS c H [grR e sz v F (m, f)] w) (hm : m = 0) : v = vnil ∧ WS c H [] w := by
  have hB : GrV e sz w v F m f := h.res 0
  refine ⟨?_, h.dropA [] (fun r hr => nomatch hr) List.Pairwise.nil⟩
  rcases hB with ⟨h1, _, _⟩ | ⟨g, cap, _, h2, _⟩
  · exact h1
  · omega
end

/-- A slot's two numbers, and what they tell. -/
def cN0 (m : AM) (o i : Int) : Int := getW oRec m (o + i * 24) 24 0
def cN1 (m : AM) (o i : Int) : Int := getW oRec m (o + i * 24) 24 1
def cId (m : AM) (o i : Int) : Int := cN0 m o i / 65536
def cKd (m : AM) (o i : Int) : Int := IntKind.wrap .u8 (cN0 m o i)
def cLv (m : AM) (o i : Int) : Int := IntKind.wrap .u8 (cN0 m o i / 256)
def cEnt (m : AM) (o : Int) (i : Nat) : Int × Int × Int × Int := (cId m o (i : Int), cKd m o (i : Int), cLv m o (i : Int), cN1 m o (i : Int))
def cNo (m : AM) (o : Int) (i : Nat) : Bool := cId m o (i : Int) == 0
def cSl (z : Int) : Int := z / 24
/-- How many entries there are. -/
def cCnt (m : AM) (o z : Int) : Nat := (fstN (cNo m o) (cSl z).toNat).getD (cSl z).toNat
theorem cCnt_at {m : AM} {o z x : Int} (h : NoUp (cNo m o) x) (h0 : 0 ≤ x) (h1 : x < cSl z) (hf : cId m o x = 0) : cCnt m o z = x.toNat := by
  unfold cCnt
  rw [fstN_at h h0 (by omega) (by unfold cNo; rw [Int.toNat_of_nonneg h0, hf]; rfl)]; rfl
theorem cCnt_end {m : AM} {o z x : Int} (h : NoUp (cNo m o) x) (h0 : 0 ≤ x) (h1 : x ≤ cSl z) (h2 : ¬ x < cSl z) : cCnt m o z = x.toNat := by
  unfold cCnt
  rw [fstN_none h (by omega)]; show (cSl z).toNat = _; omega
/-- Where a number stands; -1. -/
def cIs (m : AM) (o id : Int) (i : Nat) : Bool := cId m o (i : Int) == id
def cFind (m : AM) (o z id : Int) : Int := match fstN (cIs m o id) (cCnt m o z) with | some i => (i : Int) | none => -1
theorem cFind_at {m : AM} {o z id x : Int} (h : NoUp (cIs m o id) x) (h0 : 0 ≤ x) (h1 : x < ((cCnt m o z : Nat) : Int)) (hf : cId m o x = id) : x = cFind m o z id := by
  unfold cFind
  rw [fstN_at h h0 h1 (by unfold cIs; rw [Int.toNat_of_nonneg h0, hf]; simp)]
  show x = ((x.toNat : Nat) : Int); omega
theorem cFind_no {m : AM} {o z id x : Int} (h : NoUp (cIs m o id) x) (h1 : ((cCnt m o z : Nat) : Int) ≤ x) : -1 = cFind m o z id := by
  unfold cFind
  rw [fstN_none h h1]
/-- A slot is laid. -/
def eN0 (id kd lv : Int) : Int := ior .u64 (ior .u64 (IntKind.wrap .u64 (id * 2 ^ 16)) (IntKind.wrap .u64 (lv * 2 ^ 8))) kd
def eNum (id kd lv ar : Int) (i : Nat) : Nat := if i = 0 then (eN0 id kd lv).toNat else ar.toNat
theorem eN0_rng (id kd lv : Int) : 0 ≤ eN0 id kd lv ∧ eN0 id kd lv ≤ 18446744073709551615 := by unfold eN0; exact wrap_u64_rng _
def cPutM (m : AM) (o i id kd lv ar : Int) : AM := pRM oRec 2 (eNum id kd lv ar) m (o + i * 24) 24
theorem thr_same {m m' : AM} (h1 : m'.cap = m.cap) (h2 : m'.com = m.com) (a n : Int) : thr m' a n = thr m a n := by unfold thr inB; rw [h1, h2]
theorem vstM_com (m : AM) (o z a k v : Int) : (vstM m o z a k v).cap = m.cap ∧ (vstM m o z a k v).com = m.com := by
  unfold vstM stM putM laidM
  (repeat' split) <;> exact ⟨rfl, rfl⟩
theorem setM_com (l : List Int) (m : AM) (o z i x : Int) : (setM l m o z i x).cap = m.cap ∧ (setM l m o z i x).com = m.com := by
  unfold setM
  split
  · split
    · exact vstM_com _ _ _ _ _ _
    · exact ⟨rfl, rfl⟩
  · exact ⟨rfl, rfl⟩
theorem putA_com (l : List Int) (o z : Int) (nums : Nat → Nat) (m : AM) : ∀ k, (putA l o z nums m k).cap = m.cap ∧ (putA l o z nums m k).com = m.com
  | 0 => ⟨rfl, rfl⟩
  | k + 1 => by
    have h := putA_com l o z nums m k
    have h2 := setM_com l (putA l o z nums m k) o z (k : Int) ((nums k : Nat) : Int)
    exact ⟨h2.1.trans h.1, h2.2.trans h.2⟩
theorem pRM_com (l : List Int) (nn : Nat) (nums : Nat → Nat) (m : AM) (o z : Int) : (pRM l nn nums m o z).cap = m.cap ∧ (pRM l nn nums m o z).com = m.com := by
  unfold pRM
  split
  · exact ⟨rfl, rfl⟩
  · split
    · split
      · exact putA_com _ _ _ _ _ _
      · exact ⟨rfl, rfl⟩
    · exact ⟨rfl, rfl⟩
theorem cPutM_thr (m : AM) (o i id kd lv ar a n : Int) : thr (cPutM m o i id kd lv ar) a n = thr m a n := thr_same (pRM_com _ _ _ _ _ _).1 (pRM_com _ _ _ _ _ _).2 a n
def addE (m : AM) (o z id : Int) : Int := if id = 0 ∨ 281474976710655 < id then 2 else if 0 ≤ cFind m o z id then 9 else if cSl z - ((cCnt m o z : Nat) : Int) = 0 then 10 else 0
def addM (m : AM) (o z id kd lv ar : Int) : AM := if addE m o z id = 0 then cPutM m o ((cCnt m o z : Nat) : Int) id kd lv ar else m
theorem add_1 {m : AM} {o z id kd lv ar : Int} (h : id = 0 ∨ 281474976710655 < id) : 2 = addE m o z id ∧ m = addM m o z id kd lv ar := by
  have e : addE m o z id = 2 := by unfold addE; rw [if_pos h]
  unfold addM; rw [e]; exact ⟨rfl, rfl⟩
theorem add_2 {m : AM} {o z id kd lv ar : Int} (h : ¬ (id = 0 ∨ 281474976710655 < id)) (h2 : 0 ≤ cFind m o z id) : 9 = addE m o z id ∧ m = addM m o z id kd lv ar := by
  have e : addE m o z id = 9 := by unfold addE; rw [if_neg h, if_pos h2]
  unfold addM; rw [e]; exact ⟨rfl, rfl⟩
theorem add_3 {m : AM} {o z id kd lv ar : Int} (h : ¬ (id = 0 ∨ 281474976710655 < id)) (h2 : ¬ 0 ≤ cFind m o z id) (h3 : cSl z - ((cCnt m o z : Nat) : Int) = 0) : 10 = addE m o z id ∧ m = addM m o z id kd lv ar := by
  have e : addE m o z id = 10 := by unfold addE; rw [if_neg h, if_neg h2, if_pos h3]
  unfold addM; rw [e]; exact ⟨rfl, rfl⟩
theorem add_4 {m : AM} {o z id kd lv ar : Int} (h : ¬ (id = 0 ∨ 281474976710655 < id)) (h2 : ¬ 0 ≤ cFind m o z id) (h3 : ¬ cSl z - ((cCnt m o z : Nat) : Int) = 0) : 0 = addE m o z id ∧ cPutM m o ((cCnt m o z : Nat) : Int) id kd lv ar = addM m o z id kd lv ar := by
  have e : addE m o z id = 0 := by unfold addE; rw [if_neg h, if_neg h2, if_neg h3]
  unfold addM; rw [e]; exact ⟨rfl, rfl⟩
end Go.Proofs.YtnbkafnikpbmbaaDoor.K
