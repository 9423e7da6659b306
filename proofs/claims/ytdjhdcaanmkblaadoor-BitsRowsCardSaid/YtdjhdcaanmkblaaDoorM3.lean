import Derived.Test.YtdjhdcaanmkblaaDoorM2
import Derived.Test.YtdjhdcaanmkblaaDoorProg
import Derived.Laws.Externs
import Derived.Laws.CopyRow
/-
  Walks, printed by w2.py.
-/
namespace Go.Proofs.YtdjhdcaanmkblaaDoor.K
set_option linter.unusedVariables false
set_option linter.unusedSimpArgs false

end Go.Proofs.YtdjhdcaanmkblaaDoor.K

/-
  Walks, printed by w2.py.
-/
namespace Go.Proofs.YtdjhdcaanmkblaaDoor.K
set_option linter.unusedVariables false
set_option linter.unusedSimpArgs false

end Go.Proofs.YtdjhdcaanmkblaaDoor.K

/-
  Walks, printed by w2.py.
-/
namespace Go.Proofs.YtdjhdcaanmkblaaDoor.K
set_option linter.unusedVariables false
set_option linter.unusedSimpArgs false

end Go.Proofs.YtdjhdcaanmkblaaDoor.K

/-
  A walk by computing, thirteenth part: a strings.Builder as something that a walk holds; append of bytes; pointers that pass through unsafe.Pointer.
-/
namespace Go.Proofs.YtdjhdcaanmkblaaDoor.K
set_option linter.unusedSimpArgs false
set_option linter.unusedVariables false

theorem thr_in {m : AM} {a n : Int} (h : thr m a n = true) : inB m a n = true := by unfold thr at h; simp at h; exact h.1
theorem thr_page {m : AM} {a n x : Int} (h : thr m a n = true) (h1 : a ≤ x) (h2 : x < a + n) : Int.toNat (x / 4096) < m.cap ∧ m.com (Int.toNat (x / 4096)) = true := by
  obtain ⟨g1, g2, g3, g4⟩ := inB_facts (thr_in h)
  unfold thr at h
  simp only [Bool.and_eq_true, Bool.or_eq_true, decide_eq_true_eq] at h
  have hc : cntR m.com (pg0 a) (pgN a n) = pgN a n := h.2.resolve_left (by omega)
  have := cntR_full _ _ hc (Int.toNat (x / 4096)) (by unfold pg0; omega) (by unfold pg0 pgN; omega)
  exact ⟨by omega, this⟩

/-- Bytes into which a string's are laid. -/
def laidF (f : Nat → UInt8) (o k : Nat) (s : ByteArray) (x : Nat) : UInt8 := if o ≤ x ∧ x < o + k then sb s (x - o) else f x
/-- What Bytes answers. -/
def bytS (m : AM) (a n : Int) : ByteArray := if thr m a n then bs (fun j => m.mem (a.toNat + j)) n.toNat else ByteArray.empty
/-- What Put makes of an arena. -/
def laidM (m : AM) (a : Nat) (s : ByteArray) : AM := ⟨m.cap, m.com, laidF m.mem a s.size s, m.armed, m.refuse⟩
def putM (m : AM) (a : Int) (s : ByteArray) : AM := if thr m a ((s.size : Nat) : Int) then laidM m a.toNat s else m
/-- What a builder's slice holds. -/
def BufAt (e : TypeId) (w : World) (v : Value) (F : Nat → Prop) (s : ByteArray) : Prop :=
  (v = vnil ∧ s = ByteArray.empty ∧ ∀ k, ¬ F k) ∨ ∃ g tot, v = sc g 0 s.size tot ∧ 0 < s.size ∧ HE.holds w g (.row e s.size tot (bytes (sb s) 0)) ∧ ∀ k, F k ↔ k = g

theorem BufAt.slice {e : TypeId} {w : World} {v : Value} {F : Nat → Prop} {s : ByteArray} (h : BufAt e w v F s) : ∃ x c, v = .slice x s.size c := by
  rcases h with ⟨rfl, rfl, _⟩ | ⟨g, tot, rfl, _⟩
  · exact ⟨none, 0, rfl⟩
  · exact ⟨_, _, rfl⟩

section
variable {P : Program} {c : Cx} {n : Nat} {E : Env} {H : Heap} {A : List Res} {a : Act} {w : World} {o : Oper}

theorem HE.shape {b : Nat} {cs : List Value} {T : TypeId} (h : HE.holds w b (.cells cs T)) : w.shape? b = some (T, cs.length) := by
  have h : w.heap[b]? = some (.cells cs.toArray T (0, 0)) := h
  unfold World.shape?
  simp [h]

/-- Two blocks that may be turned. -/
theorem WS.startMM {s1 s2 : Nat} {y1 y2 : HE} (h1 : y1.holds w s1) (h2 : y2.holds w s2) (h : AllF w H) (hn1 : AllN (one s1) H) (hn2 : AllN (one s2) H) (hs : ¬ one s2 s1) : WS ⟨w, orF (one s1) (one s2), []⟩ (H ++ [(s1, y1)] ++ [(s2, y2)]) [] w := by
  have ha := startM_apart (y := y1) h hn1
  refine ⟨fun e he => ?_, ?_, fun e he ho => ?_, fun e he hf => hf, AllAr.nil w, (Fr.refl w _).to (fun k hk => .inl hk) (fun k hk => hk.elim)⟩
  · rcases List.mem_append.1 he with he | he
    · rcases List.mem_append.1 he with he | he
      · exact (h.mem e he).2
      · obtain rfl := List.mem_singleton.1 he; exact h1
    · obtain rfl := List.mem_singleton.1 he; exact h2
  · rw [List.pairwise_append]
    refine ⟨ha, List.pairwise_singleton _ _, fun p hp q hq ho e => ?_⟩
    obtain rfl := List.mem_singleton.1 hq
    rcases List.mem_append.1 hp with hp | hp
    · exact hn2.mem p hp e
    · obtain rfl := List.mem_singleton.1 hp; exact hs e
  · rcases List.mem_append.1 he with he | he
    · rcases List.mem_append.1 he with he | he
      · rw [(h.mem e he).1] at ho; cases ho
      · obtain rfl := List.mem_singleton.1 he; exact .inr (.inl rfl)
    · obtain rfl := List.mem_singleton.1 he; exact .inr (.inr rfl)

/-- A call that turns two blocks of ours. -/
theorem WS.stepMM (h : WS c H A w) (j1 j2 : Nat) (hne : j2 ≠ j1) {s1 s2 : Nat} {x1 y1 x2 y2 : HE} {w' : World} (hj1 : H[j1]? = some (s1, x1)) (hj2 : H[j2]? = some (s2, x2)) (hx1 : x1.own = true) (hy1 : y1.own = true) (hx2 : x2.own = true) (hy2 : y2.own = true) (hs1 : y1.holds w' s1) (hs2 : y2.holds w' s2) (hf : Fr w w' (orF (one s1) (one s2)) no) :
    WS c ((H.set j1 (s1, y1)).set j2 (s2, y2)) A w' := by
  refine h.stepX hf (fun k hk => ?_) (h.ars.congr fun k hk => hf.block k (h.ars.lt hk) fun e => ?_) (fun k hk => .inl hk) (fun k e' he => ?_)
  · rcases hk with hk | hk
    · exact .inr ⟨_, List.mem_of_getElem? hj1, hx1, (show k = s1 from hk).symm⟩
    · exact .inr ⟨_, List.mem_of_getElem? hj2, hx2, (show k = s2 from hk).symm⟩
  · rcases e with e | e
    · exact h.free _ (List.mem_of_getElem? hj1) ((show k = s1 from e) ▸ hk)
    · exact h.free _ (List.mem_of_getElem? hj2) ((show k = s2 from e) ▸ hk)
  · rcases heap_set_cases he with ⟨rfl, rfl⟩ | ⟨hk, he⟩
    · exact ⟨_, hj2, rfl, hx2.trans hy2.symm, .inl hs2⟩
    · rcases heap_set_cases he with ⟨rfl, rfl⟩ | ⟨hk1, he⟩
      · exact ⟨_, hj1, rfl, hx1.trans hy1.symm, .inl hs1⟩
      · refine ⟨e', he, rfl, rfl, .inr ⟨rfl, fun e => ?_⟩⟩
        rcases e with e | e
        · exact pairwise_get h.apart hk1 he hj1 (.inr hx1) e
        · exact pairwise_get h.apart hk he hj2 (.inr hx2) e

end
end Go.Proofs.YtdjhdcaanmkblaaDoor.K

/-
  Walks, printed by w2.py.
-/
namespace Go.Proofs.YtdjhdcaanmkblaaDoor.K
set_option linter.unusedVariables false
set_option linter.unusedSimpArgs false

end Go.Proofs.YtdjhdcaanmkblaaDoor.K

/-
  Walks, printed by w2.py.
-/
namespace Go.Proofs.YtdjhdcaanmkblaaDoor.K
set_option linter.unusedVariables false
set_option linter.unusedSimpArgs false

end Go.Proofs.YtdjhdcaanmkblaaDoor.K

/-
  Numbers in bytes: what Load and Store compute.
-/
namespace Go.Proofs.YtdjhdcaanmkblaaDoor.K
set_option linter.unusedSimpArgs false
set_option linter.unusedVariables false

def wholeB (k : Int) : Bool := ((k == 1 || k == 2) || k == 4) || k == 8
theorem wholeB_le {k : Int} (h : wholeB k = true) : 1 ≤ k ∧ k ≤ 8 := by
  unfold wholeB at h
  simp at h
  omega
/-- The number that the first bytes of a string make. -/
def ldN (s : ByteArray) : Nat → Int
  | 0 => 0
  | i + 1 => ior .u64 (ldN s i) (IntKind.wrap .u64 ((bat s (i : Int)) * 2 ^ (min (Int.toNat (8 * (i : Int))) 64)))
def ldV (m : AM) (a k : Int) : Int := if wholeB k && thr m a k then ldN (bytS m a k) k.toNat else 0
theorem ld_v1 {m : AM} {a k : Int} (h : wholeB k = false) : (0 : Int) = ldV m a k := by unfold ldV; rw [h]; rfl
theorem ld_v4 {m : AM} {a k : Int} (h : wholeB k = true) (ht : thr m a k = true) : ldN (bytS m a k) k.toNat = ldV m a k := by unfold ldV; rw [h, ht]; rfl
theorem chk_thr {m : AM} {a k : Int} (h : thr m a k = true) : chkE m a k = 0 := by unfold chkE; rw [h]; rfl

def u8 (t : Int) : UInt8 := UInt8.ofNat t.toNat
theorem u8_toNat {t : Int} (h : 0 ≤ t ∧ t ≤ 255) : ((u8 t).toNat : Int) = t := by
  unfold u8
  rw [UInt8.toNat_ofNat']
  omega
theorem wrap_u8 (x : Int) : 0 ≤ IntKind.u8.wrap x ∧ IntKind.u8.wrap x ≤ 255 := by
  rw [IntKind.wrap_u8]; omega

/-- The bytes of a number. -/
def stB (x : Int) (i : Nat) : UInt8 := u8 (IntKind.u8.wrap (x / 2 ^ Int.toNat (8 * (i : Int))))
def stE (m : AM) (a k : Int) : Int := if wholeB k then chkE m a k else 2
def stM (m : AM) (a k x : Int) : AM := if wholeB k then putM m a (bs (stB x) k.toNat) else m
end Go.Proofs.YtdjhdcaanmkblaaDoor.K

/-
  Walks, printed by w2.py.
-/
namespace Go.Proofs.YtdjhdcaanmkblaaDoor.K
set_option linter.unusedVariables false
set_option linter.unusedSimpArgs false

end Go.Proofs.YtdjhdcaanmkblaaDoor.K

/-
  Walks, printed by w2.py.
-/
namespace Go.Proofs.YtdjhdcaanmkblaaDoor.K
set_option linter.unusedVariables false
set_option linter.unusedSimpArgs false

end Go.Proofs.YtdjhdcaanmkblaaDoor.K

/-
  What Fill and Copy compute.
-/
namespace Go.Proofs.YtdjhdcaanmkblaaDoor.K
set_option linter.unusedSimpArgs false
set_option linter.unusedVariables false

end Go.Proofs.YtdjhdcaanmkblaaDoor.K

/-
  Walks, printed by w2.py.
-/
namespace Go.Proofs.YtdjhdcaanmkblaaDoor.K
set_option linter.unusedVariables false
set_option linter.unusedSimpArgs false

end Go.Proofs.YtdjhdcaanmkblaaDoor.K

/-
  Plain laws of arenas: all pages there; what was copied is there.
-/
namespace Go.Proofs.YtdjhdcaanmkblaaDoor.K
set_option linter.unusedSimpArgs false
set_option linter.unusedVariables false

/-- All pages are there. -/
def Full (m : AM) (k : Nat) : Prop := m.cap = k ∧ ∀ i, i < k → m.com i = true
theorem Full.laid {m : AM} {k : Nat} (h : Full m k) (a : Nat) (s : ByteArray) : Full (laidM m a s) k := h
theorem Full.put {m : AM} {k : Nat} (h : Full m k) (a : Int) (s : ByteArray) : Full (putM m a s) k := by
  unfold putM; split
  · exact h
  · exact h
/-- What was laid is there. -/
theorem byt_laid {m : AM} {a n : Int} {s : ByteArray} (ht : thr (laidM m a.toNat s) a n = true) (hn : s.size = n.toNat) : bytS (laidM m a.toNat s) a n = s := by
  unfold bytS
  rw [if_pos ht, ← hn]
  conv => rhs; rw [← bs_sb s]
  refine bs_congr fun j hj => ?_
  show laidF m.mem a.toNat s.size s (a.toNat + j) = sb s j
  unfold laidF
  rw [if_pos (by omega), Nat.add_sub_cancel_left]
end Go.Proofs.YtdjhdcaanmkblaaDoor.K

/-
  Plain laws of arenas: one page of a great arena.
-/
namespace Go.Proofs.YtdjhdcaanmkblaaDoor.K
set_option linter.unusedSimpArgs false
set_option linter.unusedVariables false

end Go.Proofs.YtdjhdcaanmkblaaDoor.K

/-
  Acts of layer 3 in memory; what an arena keeps.
-/
namespace Go.Proofs.YtdjhdcaanmkblaaDoor.K
set_option linter.unusedSimpArgs false
set_option linter.unusedVariables false

/-- An act of layer 3. -/
structure Ac where
  d : Int
  a : Int
  n : Int
  f : Int
  x : Int
  s : ByteArray
def Ac.zero : Ac := ⟨0, 0, 0, 0, 0, ByteArray.empty⟩
def Ac.cell (c : Ac) : Nat → Value
  | 0 => .int .u8 c.d
  | 1 => .int .i64 c.a
  | 2 => .int .i64 c.f
  | 3 => .int .i64 c.n
  | 4 => .int .u64 c.x
  | _ => .string c.s
end Go.Proofs.YtdjhdcaanmkblaaDoor.K

/-
  Walks, printed by w2.py.
-/
namespace Go.Proofs.YtdjhdcaanmkblaaDoor.K
set_option linter.unusedVariables false
set_option linter.unusedSimpArgs false

end Go.Proofs.YtdjhdcaanmkblaaDoor.K

/-
  What an arena keeps.
-/
namespace Go.Proofs.YtdjhdcaanmkblaaDoor.K
set_option linter.unusedSimpArgs false
set_option linter.unusedVariables false

theorem bat_sb (s : ByteArray) (i : Nat) : bat s (i : Int) = ((sb s i).toNat : Int) := rfl
theorem stB_nat (v i : Nat) : (stB (v : Int) i).toNat = v / 2 ^ (8 * i) % 256 := by
  unfold stB u8
  rw [IntKind.wrap_u8, UInt8.toNat_ofNat', show Int.toNat (8 * (i : Int)) = 8 * i by omega]
  have e : ((v : Int) / 2 ^ (8 * i)) = ((v / 2 ^ (8 * i) : Nat) : Int) := by
    rw [Int.natCast_ediv, Int.natCast_pow]; rfl
  rw [e]
  omega
theorem ldN_num {v n : Nat} (hn : n ≤ 8) : ∀ i, i ≤ n → ldN (bs (stB (v : Int)) n) i = ((v % 2 ^ (8 * i) : Nat) : Int)
  | 0, _ => by simp [ldN, Nat.mod_one]
  | i + 1, hi => by
    have ih := ldN_num (v := v) hn i (by omega)
    unfold ldN
    rw [ih, bat_sb, sb_bs (by omega), stB_nat, show min (Int.toNat (8 * (i : Int))) 64 = 8 * i by omega]
    have hp : 2 ^ (8 * (i + 1)) = 2 ^ (8 * i) * 256 := by rw [show 8 * (i + 1) = 8 * i + 8 by omega, Nat.pow_add]
    have h64 : 2 ^ (8 * i) * 256 ≤ 2 ^ 64 := by rw [← hp]; exact Nat.pow_le_pow_right (by omega) (by omega)
    have hb : v / 2 ^ (8 * i) % 256 < 256 := Nat.mod_lt _ (by omega)
    have hpos : 0 < 2 ^ (8 * i) := Nat.pow_pos (by omega)
    have hlow : v % 2 ^ (8 * i) < 2 ^ (8 * i) := Nat.mod_lt _ hpos
    have hmul : v / 2 ^ (8 * i) % 256 * 2 ^ (8 * i) < 2 ^ 64 := by
      have : (v / 2 ^ (8 * i) % 256 + 1) * 2 ^ (8 * i) ≤ 256 * 2 ^ (8 * i) := Nat.mul_le_mul_right _ (by omega)
      rw [Nat.add_mul] at this
      omega
    have e2 : (((v / 2 ^ (8 * i) % 256 : Nat) : Int)) * 2 ^ (8 * i) = ((v / 2 ^ (8 * i) % 256 * 2 ^ (8 * i) : Nat) : Int) := by
      rw [Int.natCast_mul, Int.natCast_pow]; rfl
    rw [e2, u64_in ⟨by omega, by omega⟩, ior_u (by omega) hmul]
    congr 1
    rw [hp, Nat.mod_mul, Nat.or_comm, ← Nat.shiftLeft_eq, ← Nat.shiftLeft_add_eq_or_of_lt hlow, Nat.shiftLeft_eq, Nat.add_comm, Nat.mul_comm (2 ^ (8 * i))]

end Go.Proofs.YtdjhdcaanmkblaaDoor.K

/-
  A walk by computing: calls under a guard within regions that draw their order; views.
-/
namespace Go.Proofs.YtdjhdcaanmkblaaDoor.K
set_option linter.unusedSimpArgs false
set_option linter.unusedVariables false
section
variable {P : Program} {c : Cx} {n : Nat} {E : Env} {H Hf : Heap} {A : List Res} {a : Act} {w : World} {ops : Array Oper} {R : Act → World → Prop}

end

/-- What a view's check answers. -/
def vchE (z a n : Int) : Int := if a < 0 ∨ n < 0 ∨ z < n ∨ z - n < a then 3 else 0
def vldV (m : AM) (o z a k : Int) : Int := if wholeB k then (if vchE z a k = 0 then ldV m (o + a) k else 0) else 0
def vstE (m : AM) (o z a k : Int) : Int := if wholeB k then (if vchE z a k = 0 then stE m (o + a) k else 3) else 2
def vstM (m : AM) (o z a k v : Int) : AM := if wholeB k then (if vchE z a k = 0 then stM m (o + a) k v else m) else m
theorem vch_yes {z a n : Int} (h : ¬ (a < 0 ∨ n < 0 ∨ z < n ∨ z - n < a)) : (0 : Int) = vchE z a n := by unfold vchE; rw [if_neg h]
end Go.Proofs.YtdjhdcaanmkblaaDoor.K

/-
  Walks, printed by w2.py.
-/
namespace Go.Proofs.YtdjhdcaanmkblaaDoor.K
set_option linter.unusedVariables false
set_option linter.unusedSimpArgs false

end Go.Proofs.YtdjhdcaanmkblaaDoor.K

/-
  The document's arena: rows of strings.
-/
namespace Go.Proofs.YtdjhdcaanmkblaaDoor.K
set_option linter.unusedSimpArgs false
set_option linter.unusedVariables false

end Go.Proofs.YtdjhdcaanmkblaaDoor.K

/-
  Walks, printed by w2.py.
-/
namespace Go.Proofs.YtdjhdcaanmkblaaDoor.K
set_option linter.unusedVariables false
set_option linter.unusedSimpArgs false

end Go.Proofs.YtdjhdcaanmkblaaDoor.K

/-
  A walk by computing: copy of a row's cells into a row of our own.
-/
namespace Go.Proofs.YtdjhdcaanmkblaaDoor.K
set_option linter.unusedSimpArgs false
set_option linter.unusedVariables false

/-- Cells of a block. -/
def CellsV (w : World) (b off k : Nat) (F : Nat → Value) : Prop := ∀ j, j < k → w.cell? ⟨b, off + j, none⟩ = some (F j)
theorem CellsV.fn {w : World} {lo hi off k : Nat} {b : Nat} {f : Nat → Value} (h : HE.holds w b (.fn lo hi f)) (h1 : lo ≤ off) (h2 : off + k ≤ hi) : CellsV w b off k (fun j => f (off + j)) := by
  obtain ⟨cc, T, fz, hc, hf⟩ := h
  intro j hj
  unfold World.cell?
  simp only [hc]
  exact hf _ (by omega) (by omega)
theorem CellsV.cells {w : World} {off k : Nat} {b : Nat} {cs : List Value} {T : TypeId} (h : HE.holds w b (.cells cs T)) (h2 : off + k ≤ cs.length) : CellsV w b off k (fun j => cs.getD (off + j) undef) := by
  have h : w.heap[b]? = some (.cells cs.toArray T (0, 0)) := h
  intro j hj
  unfold World.cell?
  simp only [h]
  rw [List.getElem?_toArray, List.getD_eq_getElem?_getD, List.getElem?_eq_getElem (by omega)]
  rfl

section
variable {P : Program} {c : Cx} {n : Nat} {E : Env} {H : Heap} {A : List Res} {a : Act} {w : World} {o : Oper}
end

end Go.Proofs.YtdjhdcaanmkblaaDoor.K

/-
  Walks, printed by w2.py.
-/
namespace Go.Proofs.YtdjhdcaanmkblaaDoor.K
set_option linter.unusedVariables false
set_option linter.unusedSimpArgs false

end Go.Proofs.YtdjhdcaanmkblaaDoor.K

/-
  A walk by computing: bytes that grow from nothing; what they make as a string.
-/
namespace Go.Proofs.YtdjhdcaanmkblaaDoor.K
set_option linter.unusedSimpArgs false
set_option linter.unusedVariables false
section
variable {P : Program} {c : Cx} {n : Nat} {E : Env} {H : Heap} {A : List Res} {a : Act} {w : World} {o : Oper}

theorem Cells8.one {q : Nat} {t : Int} {T : TypeId} (h : HE.holds w q (.cells [.int .u8 t] T)) (ht : 0 ≤ t ∧ t ≤ 255) : Cells8 w q 0 1 (fun _ => u8 t) := by
  have h : w.heap[q]? = some (.cells #[.int .u8 t] T (0, 0)) := h
  intro j hj
  obtain rfl : j = 0 := by omega
  unfold World.cell?
  simp only [h]
  rw [u8_toNat ht]; rfl

end

end Go.Proofs.YtdjhdcaanmkblaaDoor.K
