/-
  A walk by computing, thirteenth part: a strings.Builder as something that a walk holds; append of bytes; pointers that pass through unsafe.Pointer.
-/
import Derived.Test.YtlnecfdbmoilbaaDoorKq
import Derived.Laws.Externs
import Derived.Test.YtlnecfdbmoilbaaDoorAp
namespace Go.Proofs.YtlnecfdbmoilbaaDoor.K
set_option linter.unusedSimpArgs false
set_option linter.unusedVariables false

theorem bs_append (s : ByteArray) (f : Nat → UInt8) (k : Nat) : (s ++ bs f k).size = s.size + k := by
  rw [ByteArray.size_append, bs_size]
theorem bs_add (f : Nat → UInt8) (n k : Nat) : bs f n ++ bs (fun i => f (n + i)) k = bs f (n + k) := by
  apply ByteArray.ext
  simp only [bs, ByteArray.data_append, List.append_toArray]
  rw [List.range_add, List.map_append, List.map_map]
  rfl
theorem bs_zero (f : Nat → UInt8) : bs f 0 = ByteArray.empty := rfl
theorem sb_append (s t : ByteArray) (x : Nat) : sb (s ++ t) x = if x < s.size then sb s x else sb t (x - s.size) := by
  unfold sb
  rw [ByteArray.data_append, Array.toList_append, List.getD_eq_getElem?_getD, List.getD_eq_getElem?_getD, List.getD_eq_getElem?_getD]
  have hl : s.data.toList.length = s.size := Array.length_toList
  split
  · rw [List.getElem?_append_left (by omega)]
  · rw [List.getElem?_append_right (by omega), hl]

theorem thr_in {m : AM} {a n : Int} (h : thr m a n = true) : inB m a n = true := by unfold thr at h; simp at h; exact h.1
theorem thr_page {m : AM} {a n x : Int} (h : thr m a n = true) (h1 : a ≤ x) (h2 : x < a + n) : Int.toNat (x / 4096) < m.cap ∧ m.com (Int.toNat (x / 4096)) = true := by
  obtain ⟨g1, g2, g3, g4⟩ := inB_facts (thr_in h)
  unfold thr at h
  simp only [Bool.and_eq_true, Bool.or_eq_true, decide_eq_true_eq] at h
  have hc : cntR m.com (pg0 a) (pgN a n) = pgN a n := h.2.resolve_left (by omega)
  have := cntR_full _ _ hc (Int.toNat (x / 4096)) (by unfold pg0; omega) (by unfold pg0 pgN; omega)
  exact ⟨by omega, this⟩

/-- Bytes into which a string's are laid. -/
def laidF (f : Nat → UInt8) (o k : Nat) (s : ByteArray) (x : Nat) : UInt8 := if o ≤ x ∧ x < o + k then sb s (x - o) else f x
theorem sb_extract (s : ByteArray) (i : Nat) {j : Nat} (h : i + j < s.size) : sb (s.extract i s.size) j = sb s (i + j) := by
  unfold sb
  rw [ByteArray.data_extract, List.getD_eq_getElem?_getD, List.getD_eq_getElem?_getD, Array.getElem?_toList, Array.getElem?_toList, Array.getElem?_extract]
  have : s.data.size = s.size := rfl
  rw [if_pos (by omega)]
theorem ext_size (s : ByteArray) (i : Nat) : (s.extract i s.size).size = s.size - i := by
  rw [ByteArray.size_extract]; omega
theorem ext_all (s : ByteArray) : s = s.extract 0 s.size := by
  apply ByteArray.ext
  rw [ByteArray.data_extract]
  exact (Array.extract_size).symm
theorem ext_step {s sx : ByteArray} {n1 k n2 : Nat} (h : sx = s.extract n1 s.size) (hk : n1 + k ≤ s.size) (h2 : n1 + k = n2) : sx.extract (min sx.size k) sx.size = s.extract n2 s.size := by
  subst h h2
  rw [ext_size, show min (s.size - n1) k = k by omega]
  apply ByteArray.ext
  simp only [ByteArray.data_extract, Array.extract_extract]
  congr 1
  omega
theorem laidF_zero (f : Nat → UInt8) (o : Nat) (s : ByteArray) : f = laidF f o 0 s := by
  funext x; unfold laidF; rw [if_neg (by omega)]
theorem setB_two {com : Nat → Bool} {i : Nat} (h : com i = true) (x : Nat) : com x = setB (setB com i false) i true x := by
  unfold setB; split
  · rename_i e; rw [e, h]
  · rfl
theorem putN_two (pb : Nat → Nat) (i x : Nat) : pb x = putN pb i (pb i) x := by
  unfold putN; split
  · rename_i e; rw [e]
  · rfl
theorem laid_step {M mx : Nat → UInt8} {s sx : ByteArray} {A n1 n2 i q k : Nat} (h : mx = laidF M A n1 s) (hs : sx = s.extract n1 s.size) (hA : A + n1 = 4096 * i + q) (hq : q + k ≤ 4096) (hk : n1 + k ≤ s.size) (h2 : n1 + k = n2) (y : Nat) :
    laidF M A n2 s y = putPg mx i (laidF (fun o => mx (4096 * i + o)) q (min sx.size k) sx) y := by
  have hsz : min sx.size k = k := by rw [hs, ext_size]; omega
  rw [hsz]
  unfold putPg
  by_cases hp : 4096 * i ≤ y ∧ y < 4096 * i + 4096
  · rw [if_pos hp]
    unfold laidF
    by_cases hq2 : q ≤ y - 4096 * i ∧ y - 4096 * i < q + k
    · rw [if_pos hq2, if_pos (by omega), hs, sb_extract s n1 (by omega)]
      congr 1; omega
    · rw [if_neg hq2, h]
      unfold laidF
      dsimp only
      rw [show 4096 * i + (y - 4096 * i) = y by omega]
      by_cases h3 : A ≤ y ∧ y < A + n1
      · rw [if_pos (by omega), if_pos h3]
      · rw [if_neg (by omega), if_neg h3]
  · rw [if_neg hp, h]
    unfold laidF
    by_cases h3 : A ≤ y ∧ y < A + n1
    · rw [if_pos (by omega), if_pos h3]
    · rw [if_neg (by omega), if_neg h3]

theorem thr_of {m : AM} {a n : Int} (h : chkE m a n = 0) : thr m a n = true := by
  unfold chkE at h
  split at h
  · assumption
  · omega
/-- What Bytes answers. -/
def bytS (m : AM) (a n : Int) : ByteArray := if thr m a n then bs (fun j => m.mem (a.toNat + j)) n.toNat else ByteArray.empty
theorem bytS_no {m : AM} {a n : Int} (h : chkE m a n ≠ 0) : ByteArray.empty = bytS m a n := by
  unfold bytS chkE at *
  split
  · rename_i h2; rw [if_pos h2] at h; exact absurd rfl h
  · rfl
theorem bytS_yes {m : AM} {a n : Int} (h : thr m a n = true) : ByteArray.empty ++ bs (fun j => m.mem (a.toNat + j)) n.toNat = bytS m a n := by
  unfold bytS
  rw [if_pos h, ByteArray.empty_append]
theorem new_apart {w : World} {b g : Nat} {F : Nat → Prop} {m : AM} (h : (arR b F m).R w) (hg : w.heap.size ≤ g) : ∀ k, F k → ¬ one g k := fun k hk e => by
  have : k < w.heap.size := (arR b F m).lt w h k hk
  rw [show k = g from e] at this; omega

/-- What Put makes of an arena. -/
def laidM (m : AM) (a : Nat) (s : ByteArray) : AM := ⟨m.cap, m.com, laidF m.mem a s.size s, m.armed, m.refuse⟩
def putM (m : AM) (a : Int) (s : ByteArray) : AM := if thr m a ((s.size : Nat) : Int) then laidM m a.toNat s else m
theorem putM_no {m : AM} {a : Int} {s : ByteArray} (h : chkE m a ((s.size : Nat) : Int) ≠ 0) : m = putM m a s := by
  unfold putM chkE at *
  split
  · rename_i h2; rw [if_pos h2] at h; exact absurd rfl h
  · rfl
theorem putM_yes {m : AM} {a : Int} {s : ByteArray} (h : thr m a ((s.size : Nat) : Int) = true) : laidM m a.toNat s = putM m a s := by
  unfold putM; rw [if_pos h]

theorem bs_step {s sx : ByteArray} {M g : Nat → UInt8} {A n1 k n2 : Nat} (h : sx = s ++ bs (fun j => M (A + j)) n1) (hg : ∀ j, j < k → g j = M (A + n1 + j)) (h2 : n1 + k = n2) : sx ++ bs g k = s ++ bs (fun j => M (A + j)) n2 := by
  subst h h2
  rw [ByteArray.append_assoc, ← bs_add]
  congr 2
  exact bs_congr fun j hj => by rw [hg j hj, Nat.add_assoc]

/-- What a builder's slice holds. -/
def BufAt (e : TypeId) (w : World) (v : Value) (F : Nat → Prop) (s : ByteArray) : Prop :=
  (v = vnil ∧ s = ByteArray.empty ∧ ∀ k, ¬ F k) ∨ ∃ g tot, v = sc g 0 s.size tot ∧ 0 < s.size ∧ HE.holds w g (.row e s.size tot (bytes (sb s) 0)) ∧ ∀ k, F k ↔ k = g

theorem BufAt.slice {e : TypeId} {w : World} {v : Value} {F : Nat → Prop} {s : ByteArray} (h : BufAt e w v F s) : ∃ x c, v = .slice x s.size c := by
  rcases h with ⟨rfl, rfl, _⟩ | ⟨g, tot, rfl, _⟩
  · exact ⟨none, 0, rfl⟩
  · exact ⟨_, _, rfl⟩

def bufR (e : TypeId) (v : Value) (F : Nat → Prop) (s : ByteArray) : Res := ⟨F, fun w => BufAt e w v F s, fun w h k hk => by
  rcases h with ⟨_, _, h⟩ | ⟨g, tot, _, _, h, hF⟩
  · exact absurd hk (h k)
  · rw [(hF k).1 hk]; exact h.lt, fun w w' h he => by
  rcases h with h | ⟨g, tot, h1, h2, h3, hF⟩
  · exact .inl h
  · exact .inr ⟨g, tot, h1, h2, h3.congr (he g ((hF g).2 rfl)), hF⟩⟩

def BdAt (T e : TypeId) (w : World) (b : Nat) (F : Nat → Prop) (s : ByteArray) : Prop :=
  ∃ p v F', HE.holds w b (.cells [p, v] T) ∧ (p = pnil ∨ p = pt b 0) ∧ BufAt e w v F' s ∧ ¬ F' b ∧ ∀ k, F k ↔ k = b ∨ F' k

def bdR (T e : TypeId) (b : Nat) (F : Nat → Prop) (s : ByteArray) : Res := ⟨F, fun w => BdAt T e w b F s, fun w h k hk => by
  obtain ⟨p, v, F', h1, h2, h3, h4, hF⟩ := h
  rcases (hF k).1 hk with rfl | hk
  · exact h1.lt
  · exact (bufR e v F' s).lt w h3 k hk, fun w w' h he => by
  obtain ⟨p, v, F', h1, h2, h3, h4, hF⟩ := h
  exact ⟨p, v, F', h1.congr (he b ((hF b).2 (.inl rfl))), h2, (bufR e v F' s).cg w w' h3 fun k hk => he k ((hF k).2 (.inr hk)), h4, hF⟩⟩

/-- Blocks that nobody may name again. -/
def goneR (b : Nat) (F : Nat → Prop) (_ : Unit) : Res := ⟨F, fun w => ∀ k, F k → k < w.heap.size, fun _ h => h, fun w w' h he k hk => by
  have := h k hk
  have h2 := he k hk
  rcases Nat.lt_or_ge k w'.heap.size with h3 | h3
  · exact h3
  · rw [Array.getElem?_eq_none h3, Array.getElem?_eq_getElem this] at h2; cases h2⟩

section
variable {P : Program} {c : Cx} {n : Nat} {E : Env} {H : Heap} {A : List Res} {a : Act} {w : World} {o : Oper}

/-- A block of our own becomes something that is held. -/
theorem WS.toRes (h : WS c H A w) (j : Nat) {g : Nat} {x : HE} (hj : H[j]? = some (g, x)) (hx : x.own = true) (l : List Nat) {H' : Heap} (hp : pickH H l = some H') (hd : distinct l = true) (hnl : l.all (fun i => !Nat.beq i j) = true)
    {r : Res} (hr : r.R w) (hF : ∀ k, r.F k → k = g) : WS c H' (A ++ [r]) w := by
  have hq := h.perm l hp hd
  have hne := pick_ne h hp hj hx hnl
  have hin : ∀ k, inF (A ++ [r]) k → inF A k ∨ k = g := fun k hk => by
    obtain ⟨q, hq1, hq2⟩ := inF_iff.1 hk
    rcases List.mem_append.1 hq1 with h1 | h1
    · exact .inl (inF_iff.2 ⟨q, h1, hq2⟩)
    · obtain rfl := List.mem_singleton.1 h1; exact .inr (hF k hq2)
  refine ⟨hq.heap, hq.apart, hq.mine, fun e he hk => ?_, ⟨fun q hq1 => ?_, ?_⟩, h.fr.to (fun k hk => .inl hk) (fun k hk => ?_)⟩
  · rcases hin _ hk with h1 | h1
    · exact hq.free e he h1
    · exact hne e he h1
  · rcases List.mem_append.1 hq1 with h1 | h1
    · exact h.ars.each q h1
    · obtain rfl := List.mem_singleton.1 h1; exact hr
  · rw [List.pairwise_append]
    refine ⟨h.ars.apart, List.pairwise_singleton _ _, fun p hp1 q hq1 k hk1 hk2 => ?_⟩
    obtain rfl := List.mem_singleton.1 hq1
    obtain rfl := hF k hk2
    exact h.free _ (List.mem_of_getElem? hj) (inF_iff.2 ⟨p, hp1, hk1⟩)
  · rcases hin k hk with h1 | h1
    · exact h.fr.foot k h1
    · rw [h1]; exact (h.mine _ (List.mem_of_getElem? hj) hx).symm

/-- A builder that begins. -/
theorem WS.bdNew (h : WS c H A w) (j b : Nat) (T e : TypeId) (l : List Nat) {H' : Heap} (hj : H[j]? = some (b, .cells [pnil, vnil] T) := by as_aux_lemma => kernel_rfl) (hp : pickH H l = some H' := by as_aux_lemma => kernel_rfl) (hd : distinct l = true := by decide) (hnl : l.all (fun i => !Nat.beq i j) = true := by decide) :
    WS c H' (A ++ [bdR T e b (K.one b) ByteArray.empty]) w :=
  h.toRes j hj rfl l hp hd hnl ⟨pnil, vnil, no, h.heap _ (List.mem_of_getElem? hj), .inl rfl, .inl ⟨rfl, rfl, fun _ h => h⟩, (fun h => h), fun k => ⟨.inl, fun h => h.elim id (fun h => h.elim)⟩⟩ (fun k hk => hk)


/-- A conversion that leaves the world. -/
theorem St.conv1 {K : Act → World → Prop} (hS : St c n E H A a w) (x : Operand) (t t2 : TypeId) (ho : o.op = .convert t t2 x) {d : Nat} (hd : o.dst = some d) (hdn : d < n) {u v : Value} (hr : (convert t t2 u).run P w = .ok v w)
    (h : ∀ a', St c n (putE E d [] v) H A a' w → K a' w) (hok : okO E [] x = true := by as_aux_lemma => kernel_rfl) (hx : rho E x = u := by as_aux_lemma => kernel_rfl) : Runs1 P o a w K := by
  refine ⟨v, w, ?_, ?_⟩
  · simp only [execOp, ho, eval1 hS hok, hx]
    rw [runBind (w' := w) (x := v) hr]
    rfl
  · rw [hd]; exact h _ (hS.put hdn)

theorem St.bin1 {K : Act → World → Prop} (hS : St c n E H A a w) (q : BinOp) (x y : Operand) (t t2 : TypeId) (ho : o.op = .binOp q t x y t2) {d : Nat} (hd : o.dst = some d) (hdn : d < n) {u v r : Value} (hr : (binOp q t u v).run P w = .ok r w) (hg : eqGuard q t x y u v = pure ())
    (h : ∀ a', St c n (putE E d [] r) H A a' w → K a' w) (hok : okO E [] x = true := by as_aux_lemma => kernel_rfl) (hok2 : okO E [] y = true := by as_aux_lemma => kernel_rfl) (hx : rho E x = u := by as_aux_lemma => kernel_rfl) (hy : rho E y = v := by as_aux_lemma => kernel_rfl) : Runs1 P o a w K := by
  refine ⟨r, w, ?_, ?_⟩
  · have e1 : a.eval x = u := by rw [eval1 hS hok, hx]
    have e2 : a.eval y = v := by rw [eval1 hS hok2, hy]
    simp only [execOp, ho, e1, e2]
    rw [runBind (w' := w) (x := r) (by rw [hg]; simpa using hr)]
    rfl
  · rw [hd]; exact h _ (hS.put hdn)

def optOk (E : Env) : Option Operand → Bool
  | none => true
  | some x => okO E [] x

theorem optInt_eval (hS : St c n E H A a w) {d : Int} {x : Option Operand} (h : optOk E x = true) : optInt a.eval d x = optInt (rho E) d x := by
  cases x with
  | none => rfl
  | some y => simp only [optInt, eval1 hS h]

/-- A part of an array that a pointer tells. -/
theorem St.slcP {K : Act → World → Prop} (hS : St c n E H A a w) (t : TypeId) (x : Operand) (lo hi : Option Operand) (ho : o.op = .slice t x lo hi none) {d : Nat} (hd : o.dst = some d) (hdn : d < n) {N : Nat} {e : TypeId} {i : TypeInfo} (ht : P.underlying t = some (.array N e)) (hi1 : P.info? e = some i) (h1 : i.size = 1)
    {b q k : Nat} (l u : Int) (hb : 0 ≤ l ∧ l ≤ u ∧ u ≤ (N : Int) ∧ l < (N : Int)) (hq : l.toNat = q) (hk : u.toNat - l.toNat = k) (h : ∀ a', St c n (putE E d [] (sc b q k (N - q))) H A a' w → K a' w)
    (hok : okO E [] x = true := by as_aux_lemma => kernel_rfl) (hx : rho E x = pt b 0 := by as_aux_lemma => kernel_rfl) (okl : optOk E lo = true := by as_aux_lemma => kernel_rfl) (okh : optOk E hi = true := by as_aux_lemma => kernel_rfl)
    (hl : optInt (rho E) 0 lo = some l := by as_aux_lemma => kernel_rfl) (hu : optInt (rho E) (N : Int) hi = some u := by as_aux_lemma => kernel_rfl) : Runs1 P o a w K := by
  subst hq hk
  refine ⟨sc b l.toNat (u.toNat - l.toNat) (N - l.toNat), w, ?_, ?_⟩
  · have e1 : a.eval x = pt b 0 := by rw [eval1 hS hok, hx]
    have e2 : optInt a.eval 0 lo = some l := by rw [optInt_eval hS okl]; exact hl
    have e3 : optInt a.eval (N : Int) hi = some u := by rw [optInt_eval hS okh]; exact hu
    simp only [execOp, ho, e1, Option.map_none, Instr.sliceAt, bind_assoc]
    rw [underlying_bind ht]
    simp only [Instr.sureAddr, pure_bind, bind_assoc]
    rw [sliceBounds_run (Nat.le_refl _) e2 e3 ⟨hb.1, hb.2.1, hb.2.2.1⟩]
    simp only [pure_bind]
    rw [sizeOf_bind hi1]
    have : ¬ N = l.toNat := by omega
    rw [if_neg this, h1, Nat.mul_one, addr_add _ rfl, Nat.zero_add]
    rfl
  · rw [hd]; exact h _ (hS.put hdn)

/-- A call of what the machine itself answers. -/
theorem St.extern1 {K : Act → World → Prop} (hS : St c n E H A a w) (f : FuncId) (x : Operand) {ts : Array TypeId} (ho : o.op = .call { callee := .value (.func f), args := #[x], argTypes := ts }) {d : Nat} (hd : o.dst = some d) (hdn : d < n) {u v : Value} (hr : (callFunc f #[u]).run P w = .ok (.value v) w)
    (h : ∀ a', St c n (putE E d [] v) H A a' w → K a' w) (hok : okO E [] x = true := by as_aux_lemma => kernel_rfl) (hx : rho E x = u := by as_aux_lemma => kernel_rfl) : Runs1 P o a w K := by
  refine ⟨v, w, ?_, ?_⟩
  · have e : a.eval x = u := by rw [eval1 hS hok, hx]
    have ef : a.eval (.func f) = Value.func (Fn.func f) #[] #[] := rfl
    unfold execOp
    simp only [ho, resolve, invoke, Deferred.ofValue, Sem.run_bind, Sem.run_pure, Result.andThen_ok, List.map_toArray, List.map_cons, List.map_nil, e, ef]
    simpa using hr
  · rw [hd]; exact h _ (hS.put hdn)

theorem HE.shape {b : Nat} {cs : List Value} {T : TypeId} (h : HE.holds w b (.cells cs T)) : w.shape? b = some (T, cs.length) := by
  have h : w.heap[b]? = some (.cells cs.toArray T (0, 0)) := h
  unfold World.shape?
  simp [h]

theorem sb_app {s : ByteArray} {g : Nat → UInt8} {k : Nat} : ∀ x, x < s.size + k → bytes (sb (s ++ bs g k)) 0 x = appF (bytes (sb s) 0) s.size ((List.range k).map fun j => v8 ((g j).toNat : Int)) x := by
  intro x hx
  unfold appF bytes
  simp only [Nat.sub_zero]
  rw [sb_append]
  split
  · rfl
  · rw [sb_bs (by omega), List.getD_eq_getElem?_getD, List.getElem?_map, List.getElem?_range (by omega)]
    rfl

/-- append of bytes onto what a builder's slice holds. -/
theorem St.appB {K : Act → World → Prop} {v : Value} {Fv : Nat → Prop} {s : ByteArray} {e : TypeId} (hS : St c n E H [bufR e v Fv s] a w) (x y : Operand) (t : TypeId) (ho : o.op = .call { callee := .builtin .append, args := #[x, y], argTypes := #[t, t] }) {d : Nat} (hd : o.dst = some d) (hdn : d < n) {z : Value} {i : TypeInfo} (ht : P.underlying t = some (.slice e)) (hi : P.info? e = some i) (hz : i.zero = some z) (h1 : i.size = 1) (hby : i.bytes ≤ 64) (hzc : z.cells.size = 1)
    {b off k cp : Nat} (g : Nat → UInt8) (hg : Cells8 w b off k g) (hk : 0 < k) (hn : s.size + k ≤ 2 ^ 32)
    (h : ∀ a' w' v' F', BufAt e w' v' F' (s ++ bs g k) → (∀ q, q < w.heap.size → ¬ Fv q → ¬ F' q) → St c n (putE E d [] v') H [bufR e v' F' (s ++ bs g k)] a' w' → K a' w')
    (hok : okO E [] x = true := by as_aux_lemma => kernel_rfl) (hok2 : okO E [] y = true := by as_aux_lemma => kernel_rfl) (hx : rho E x = v := by as_aux_lemma => kernel_rfl) (hy : rho E y = sc b off k cp := by as_aux_lemma => kernel_rfl) : Runs1 P o a w K := by
  have hB : BufAt e w v Fv s := hS.mem.res 0
  have hcell : ∀ j u, ((List.range k).map fun j => v8 ((g j).toNat : Int))[j]? = some u → w.cell? ((⟨b, off, none⟩ : Addr).add j) = some u := by
    intro j u hj
    have hjk : j < k := by have := (List.getElem?_eq_some_iff.1 hj).1; simpa using this
    rw [List.getElem?_map, List.getElem?_range hjk] at hj
    simp only [Option.map_some, Option.some.injEq] at hj
    subst hj
    rw [addr_add _ rfl]; exact hg j hjk
  have hone : ∀ u ∈ ((List.range k).map fun j => v8 ((g j).toNat : Int)), u.oneCell' = true := by
    intro u hu
    obtain ⟨q, _, rfl⟩ := List.mem_map.1 hu
    rfl
  rcases hB with ⟨rfl, rfl, hF⟩ | ⟨gb, tot, rfl, h0, hrow, hF⟩
  · have hr := run_append_nil (P := P) (w := w) t o.type e i z ht hi hz ⟨b, off, none⟩ k cp _ (by simp [h1]) hcell hk (by omega) (by
      have : k * i.bytes ≤ 2 ^ 32 * 64 := Nat.mul_le_mul (by simpa using hn) hby
      omega)
    have hge := grownCap_ge w k 0 e
    have es : (ByteArray.empty ++ bs g k).size = k := by rw [bs_append]; simp
    have hh : BufAt e (w.drew.alloc (.cells (((List.range k).map fun j => v8 ((g j).toNat : Int)).toArray ++ Builtin.zeroCells z.cells (grownCap w k 0 e - k)) e (0, 0))) (sc w.heap.size 0 k (grownCap w k 0 e)) (one w.heap.size) (ByteArray.empty ++ bs g k) := by
      refine .inr ⟨w.heap.size, grownCap w k 0 e, by rw [es], by omega, ?_, fun q => Iff.rfl⟩
      rw [es]
      refine ⟨_, alloc_at _ _, ?_, hge, fun x hx => ?_⟩
      · simp only [Array.size_append, List.size_toArray, List.length_map, List.length_range, size_zeroCells, hzc]; omega
      · rw [Array.getElem?_append_left (by simpa using hx)]
        have := sb_app (s := ByteArray.empty) (g := g) (k := k) x (by simpa using hx)
        rw [this]
        simp [appF, hx]
    refine ⟨_, _, append_run ho (by rw [eval1 hS hok, eval1 hS hok2, hx, hy]; exact hr), ?_⟩
    rw [hd]
    have hA : WS c H [bufR e (sc w.heap.size 0 k (grownCap w k 0 e)) (one w.heap.size) (ByteArray.empty ++ bs g k)] (w.drew.alloc (.cells (((List.range k).map fun j => v8 ((g j).toNat : Int)).toArray ++ Builtin.zeroCells z.cells (grownCap w k 0 e - k)) e (0, 0))) :=
      hS.mem.stepA 0 rfl hh ((Fr.alloc w _).to (fun k hk => hk.elim) (fun q hq => .inr (by rw [show q = w.heap.size from hq]; exact Nat.le_refl _)))
    exact h _ _ _ _ hh (fun q hq _ hq2 => by rw [show q = w.heap.size from hq2] at hq; omega) ((hS.to hA).put hdn)
  · obtain ⟨g', tot', w', hr, hgg, hh, k1, k2, k3, k4, k5⟩ := run_app (P := P) (w := w) (t := t) (e := e) (c := cp) o.type ht hi hz h1 hby hzc hrow (m := k) (by simp) hcell hone hn
    have es := bs_append s g k
    have hh2 : BufAt e w' (sc g' 0 (s.size + k) tot') (one g') (s ++ bs g k) := by
      refine .inr ⟨g', tot', by rw [es], by omega, ?_, fun q => Iff.rfl⟩
      rw [es]
      exact HE.row_eq hh sb_app
    refine ⟨_, _, append_run ho (by rw [eval1 hS hok, eval1 hS hok2, hx, hy]; exact hr), ?_⟩
    rw [hd]
    have hlt : gb < w.heap.size := hrow.lt
    have hA : WS c H [bufR e (sc g' 0 (s.size + k) tot') (one g') (s ++ bs g k)] w' :=
      hS.mem.stepA 0 rfl hh2 ⟨k1, k2, k3, k4, fun q hq hn => k5 q hq (fun e => hn ((hF q).2 e)), fun q hq => by
        rw [show q = g' from hq]
        rcases hgg with rfl | rfl
        · exact .inl ((hF _).2 rfl)
        · exact .inr (Nat.le_refl _)⟩
    exact h _ _ _ _ hh2 (fun q hq hn hq2 => by
      rw [show q = g' from hq2] at hq hn
      rcases hgg with rfl | rfl
      · exact hn ((hF _).2 rfl)
      · omega) ((hS.to hA).put hdn)

/-- A builder shut again. -/
theorem WS.bdShut {e T : TypeId} {v : Value} {Fv : Nat → Prop} {s : ByteArray} (h : WS c H [bufR e v Fv s] w) (j b : Nat) (p : Value) (l : List Nat) {H' : Heap} (hpp : p = pnil ∨ p = pt b 0) (hj : H[j]? = some (b, .cells [p, v] T) := by as_aux_lemma => kernel_rfl) (hp : pickH H l = some H' := by as_aux_lemma => kernel_rfl) (hd : distinct l = true := by decide) (hnl : l.all (fun i => !Nat.beq i j) = true := by decide) :
    WS c H' [bdR T e b (fun k => k = b ∨ Fv k) s] w := by
  have hq := h.perm l hp hd
  have hne := pick_ne h hp hj rfl hnl
  have hfree : ¬ Fv b := fun hk => h.free _ (List.mem_of_getElem? hj) (.inl hk)
  refine ⟨hq.heap, hq.apart, hq.mine, fun e he hk => ?_, AllAr.one ⟨p, v, Fv, h.heap _ (List.mem_of_getElem? hj), hpp, h.res 0, hfree, fun k => Iff.rfl⟩, h.fr.to (fun k hk => .inl hk) (fun k hk => ?_)⟩
  · rcases hk with (h1 | h1) | h1
    · exact hne e he h1
    · exact hq.free e he (.inl h1)
    · exact h1
  · rcases hk with (h1 | h1) | h1
    · rw [h1]; exact (h.mine _ (List.mem_of_getElem? hj) rfl).symm
    · exact h.fr.foot k (.inl h1)
    · exact h1.elim

/-- And opened. -/
theorem WS.bdOpen {e T : TypeId} {b : Nat} {F : Nat → Prop} {s : ByteArray} (h : WS c H [bdR T e b F s] w) : ∃ p v Fv, (p = pnil ∨ p = pt b 0) ∧ BufAt e w v Fv s ∧ WS c (H ++ [(b, .cells [p, v] T)]) [bufR e v Fv s] w := by
  obtain ⟨p, v, Fv, h1, h2, h3, h4, hF⟩ : BdAt T e w b F s := h.res 0
  refine ⟨p, v, Fv, h2, h3, fun q hq => ?_, ?_, fun q hq ho => ?_, fun q hq hk => ?_, AllAr.one h3, h.fr.to (fun k hk => .inl hk) (fun k hk => ?_)⟩
  · rcases List.mem_append.1 hq with hq | hq
    · exact h.heap q hq
    · obtain rfl := List.mem_singleton.1 hq; exact h1
  · rw [List.pairwise_append]
    refine ⟨h.apart, List.pairwise_singleton _ _, fun p hp q hq ho e => ?_⟩
    obtain rfl := List.mem_singleton.1 hq
    exact h.free p hp (.inl ((hF _).2 (.inl e)))
  · rcases List.mem_append.1 hq with hq | hq
    · exact h.mine q hq ho
    · obtain rfl := List.mem_singleton.1 hq
      exact (h.fr.foot _ (.inl ((hF _).2 (.inl rfl)))).symm
  · rcases hk with hk | hk
    · rcases List.mem_append.1 hq with hq | hq
      · exact h.free q hq (.inl ((hF _).2 (.inr hk)))
      · obtain rfl := List.mem_singleton.1 hq; exact h4 hk
    · exact hk
  · rcases hk with h1 | h1
    · exact h.fr.foot k (.inl ((hF _).2 (.inr h1)))
    · exact h1.elim

/-- Two blocks that may be turned. -/
theorem WS.startMM {s1 s2 : Nat} {y1 y2 : HE} (h1 : y1.holds w s1) (h2 : y2.holds w s2) (h : AllF w H) (hn1 : AllN (one s1) H) (hn2 : AllN (one s2) H) (hs : ¬ one s2 s1) : WS ⟨w, orF (one s1) (one s2)⟩ (H ++ [(s1, y1)] ++ [(s2, y2)]) [] w := by
  have ha := startM_apart (y := y1) h hn1
  refine ⟨fun e he => ?_, ?_, fun e he ho => ?_, fun e he hf => hf, AllAr.nil w, (Fr.refl w _).to (fun k hk => .inl hk) (fun k hk => hk.elim)⟩
  · rcases List.mem_append.1 he with he | he
    · rcases List.mem_append.1 he with he | he
      · exact (h.mem e he).2
      · obtain rfl := List.mem_singleton.1 he; exact h1
    · obtain rfl := List.mem_singleton.1 he; exact h2
  · rw [List.pairwise_append]
    refine ⟨ha, List.pairwise_singleton _ _, fun p hp q hq ho e => ?_⟩
    obtain rfl := List.mem_singleton.1 hq
    rcases List.mem_append.1 hp with hp | hp
    · exact hn2.mem p hp e
    · obtain rfl := List.mem_singleton.1 hp; exact hs e
  · rcases List.mem_append.1 he with he | he
    · rcases List.mem_append.1 he with he | he
      · rw [(h.mem e he).1] at ho; cases ho
      · obtain rfl := List.mem_singleton.1 he; exact .inr (.inl rfl)
    · obtain rfl := List.mem_singleton.1 he; exact .inr (.inr rfl)

/-- A call that turns two blocks of ours. -/
theorem WS.stepMM (h : WS c H A w) (j1 j2 : Nat) (hne : j2 ≠ j1) {s1 s2 : Nat} {x1 y1 x2 y2 : HE} {w' : World} (hj1 : H[j1]? = some (s1, x1)) (hj2 : H[j2]? = some (s2, x2)) (hx1 : x1.own = true) (hy1 : y1.own = true) (hx2 : x2.own = true) (hy2 : y2.own = true) (hs1 : y1.holds w' s1) (hs2 : y2.holds w' s2) (hf : Fr w w' (orF (one s1) (one s2)) no) :
    WS c ((H.set j1 (s1, y1)).set j2 (s2, y2)) A w' := by
  refine h.stepX hf (fun k hk => ?_) (h.ars.congr fun k hk => hf.block k (h.ars.lt hk) fun e => ?_) (fun k hk => .inl hk) (fun k e' he => ?_)
  · rcases hk with hk | hk
    · exact .inr ⟨_, List.mem_of_getElem? hj1, hx1, (show k = s1 from hk).symm⟩
    · exact .inr ⟨_, List.mem_of_getElem? hj2, hx2, (show k = s2 from hk).symm⟩
  · rcases e with e | e
    · exact h.free _ (List.mem_of_getElem? hj1) ((show k = s1 from e) ▸ hk)
    · exact h.free _ (List.mem_of_getElem? hj2) ((show k = s2 from e) ▸ hk)
  · rcases heap_set_cases he with ⟨rfl, rfl⟩ | ⟨hk, he⟩
    · exact ⟨_, hj2, rfl, hx2.trans hy2.symm, .inl hs2⟩
    · rcases heap_set_cases he with ⟨rfl, rfl⟩ | ⟨hk1, he⟩
      · exact ⟨_, hj1, rfl, hx1.trans hy1.symm, .inl hs1⟩
      · refine ⟨e', he, rfl, rfl, .inr ⟨rfl, fun e => ?_⟩⟩
        rcases e with e | e
        · exact pairwise_get h.apart hk1 he hj1 (.inr hx1) e
        · exact pairwise_get h.apart hk he hj2 (.inr hx2) e

/-- What is held is given away. -/
theorem WS.consA (h : WS c H A w) (i : Nat) {r : Res} {w' : World} (hi : A[i]? = some r) (hf : Fr w w' r.F no) : WS c H (A.eraseIdx i) w' := by
  have h1 := h.stepA i (r' := goneR 0 no ()) hi (fun k hk => hk.elim) hf
  refine h1.dropA [] (fun q hq => ?_) ?_
  · obtain ⟨j, hj1, hj2, hj3⟩ := List.mem_eraseIdx_iff_getElem?.1 hq |> fun ⟨j, h1, h2⟩ => (⟨j, h1, h2, trivial⟩ : ∃ j, j ≠ i ∧ A[j]? = some q ∧ True)
    refine List.mem_of_getElem? (i := j) ?_
    rw [List.getElem?_set_ne (fun e => hj1 e.symm)]; exact hj2
  · exact h.ars.apart.sublist (List.eraseIdx_sublist _ _)

theorem freeze_heap (w : World) (g k n : Nat) (h : k ≠ g) : (w.freeze ⟨g, 0, none⟩ n).heap[k]? = w.heap[k]? := by
  unfold World.freeze
  split
  · rfl
  · simp only [Array.getElem?_modify]
    rw [if_neg (fun e => h e.symm)]
theorem freeze_size (w : World) (g n : Nat) : (w.freeze ⟨g, 0, none⟩ n).heap.size = w.heap.size := by
  unfold World.freeze
  split
  · rfl
  · simp
theorem freeze_rest (w : World) (g n : Nat) : (w.freeze ⟨g, 0, none⟩ n).os = w.os ∧ (w.freeze ⟨g, 0, none⟩ n).tape = w.tape ∧ (w.freeze ⟨g, 0, none⟩ n).output = w.output := by
  unfold World.freeze
  split
  · exact ⟨rfl, rfl, rfl⟩
  · exact ⟨rfl, rfl, rfl⟩

theorem uSD_run {x : Operand} {ts : Array TypeId} (ho : o.op = .call { callee := .builtin .unsafeSliceData, args := #[x], argTypes := ts }) {v : Value} {w' : World} (hr : (Builtin.unsafeSliceData_ ts o.type #[a.eval x]).run P w = .ok v w') : (execOp a.eval o).run P w = .ok (.value v) w' := by
  unfold execOp
  simp only [ho, resolve, invoke, builtin, Sem.run_bind, Sem.run_pure, Result.andThen_ok, List.map_toArray, List.map_cons, List.map_nil, hr]
theorem uS_run {x y : Operand} {ts : Array TypeId} (ho : o.op = .call { callee := .builtin .unsafeString, args := #[x, y], argTypes := ts }) {v : Value} {w' : World} (hr : (Builtin.unsafeString_ ts o.type #[a.eval x, a.eval y]).run P w = .ok v w') : (execOp a.eval o).run P w = .ok (.value v) w' := by
  unfold execOp
  simp only [ho, resolve, invoke, builtin, Sem.run_bind, Sem.run_pure, Result.andThen_ok, List.map_toArray, List.map_cons, List.map_nil, hr]

/-- The pointer behind a slice that has room, or is nil. -/
theorem St.uSD {K : Act → World → Prop} (hS : St c n E H A a w) (x : Operand) (ts : Array TypeId) (ho : o.op = .call { callee := .builtin .unsafeSliceData, args := #[x], argTypes := ts }) {d : Nat} (hd : o.dst = some d) (hdn : d < n) {p : Option Addr} {k cp : Nat} (hc : p = none ∨ cp ≠ 0)
    (h : ∀ a', St c n (putE E d [] (.pointer p)) H A a' w → K a' w) (hok : okO E [] x = true := by as_aux_lemma => kernel_rfl) (hx : rho E x = .slice p k cp := by as_aux_lemma => kernel_rfl) : Runs1 P o a w K := by
  refine ⟨.pointer p, w, uSD_run ho ?_, ?_⟩
  · rw [eval1 hS hok, hx]
    cases p with
    | none => exact Lib.run_unsafeSliceData_nil _ _ _ _ _
    | some q => exact Lib.run_unsafeSliceData_row _ _ _ _ _ _ (hc.resolve_left (fun h => nomatch h))
  · rw [hd]; exact h _ (hS.put hdn)

/-- No bytes: the empty string. -/
theorem St.uS0 {K : Act → World → Prop} (hS : St c n E H A a w) (x y : Operand) (t t2 : TypeId) (ho : o.op = .call { callee := .builtin .unsafeString, args := #[x, y], argTypes := #[t, t2] }) {d : Nat} (hd : o.dst = some d) (hdn : d < n) {p : Option Addr}
    (h : ∀ a', St c n (putE E d [] (.string ByteArray.empty)) H A a' w → K a' w) (hok : okO E [] x = true := by as_aux_lemma => kernel_rfl) (hok2 : okO E [] y = true := by as_aux_lemma => kernel_rfl) (hx : rho E x = .pointer p := by as_aux_lemma => kernel_rfl) (hy : rho E y = vi 0 := by as_aux_lemma => kernel_rfl) : Runs1 P o a w K := by
  refine ⟨.string ByteArray.empty, w, uS_run ho ?_, ?_⟩
  · rw [eval1 hS hok, eval1 hS hok2, hx, hy]; exact Lib.run_unsafeString_none _ _ _ _ _
  · rw [hd]; exact h _ (hS.put hdn)

/-- A row of bytes as a string: it is frozen. -/
theorem St.uS {K : Act → World → Prop} (hS : St c n E H A a w) (x y : Operand) (t t2 : TypeId) (ho : o.op = .call { callee := .builtin .unsafeString, args := #[x, y], argTypes := #[t, t2] }) {d : Nat} (hd : o.dst = some d) (hdn : d < n) {e : TypeId} (ht : P.underlying t = some (.pointer e)) (hc1 : P.cellsOf e = 1) {g tot : Nat} {s : ByteArray} (h0 : 0 < s.size) (hle : s.size ≤ 9223372036854775807)
    (j : Nat) (l : List Nat) {H' : Heap} (hj : H[j]? = some (g, .row e s.size tot (bytes (sb s) 0))) (hp : pickH H l = some H') (hdl : distinct l = true) (hnl : l.all (fun i => !Nat.beq i j) = true)
    (h : ∀ a' w', St c n (putE E d [] (.string s)) H' A a' w' → K a' w') (hok : okO E [] x = true := by as_aux_lemma => kernel_rfl) (hok2 : okO E [] y = true := by as_aux_lemma => kernel_rfl) (hx : rho E x = pt g 0 := by as_aux_lemma => kernel_rfl) (hy : rho E y = vi ((s.size : Nat) : Int) := by as_aux_lemma => kernel_rfl) : Runs1 P o a w K := by
  have hrow := hS.mem.heap _ (List.mem_of_getElem? hj)
  obtain ⟨cur, hc, hsz, hmt, hf⟩ := hrow
  have hl : s.data.toList.length = s.size := Array.length_toList
  have hU := Lib.run_unsafeString_row (P := P) (w := w) t t2 o.type e ht hc1 g tot (by unfold World.shape?; simp [hc, hsz]) s.data.toList (by intro h; rw [h] at hl; simp at hl; omega) (by omega) (by omega) (by
    intro q u hq
    have hqs : q < s.size := by rw [← hl]; exact (List.getElem?_eq_some_iff.1 hq).1
    rw [addr_add _ rfl, Nat.zero_add]
    unfold World.cell?
    simp only [hc]
    rw [hf q hqs]
    unfold bytes sb
    rw [Nat.sub_zero, List.getD_eq_getElem?_getD, hq]; rfl)
  rw [hl] at hU
  have es : (⟨s.data.toList.toArray⟩ : ByteArray) = s := by simp
  rw [es] at hU
  refine ⟨.string s, _, uS_run ho (by rw [eval1 hS hok, eval1 hS hok2, hx, hy]; exact hU), ?_⟩
  rw [hd]
  obtain ⟨k1, k2, k3⟩ := freeze_rest w g s.size
  exact h _ _ ((hS.to (hS.mem.turned l hp hdl hj rfl hnl k1 k2 k3 (by rw [freeze_size]; exact Nat.le_refl _) (fun k _ hk => freeze_heap w g k s.size hk))).put hdn)

/-- An arena is shut beside blocks of ours. -/
theorem WS.closeL {cap cnt refuse : Nat} {com : Nat → Bool} {mem : Nat → UInt8} {pb : Nat → Nat} {Fq : Nat → Prop} (h : WS c H [pgR 0 Fq ⟨cap, com, mem, pb⟩] w) (ib ip iw : Nat) (b bp bw ow nw cw : Nat) (armed : Bool) (TA TP : TypeId) (ws : Nat → Nat) (l : List Nat) {H' : Heap}
    (hW : Words ws nw cap com) (hcap : cap ≤ 1048576) (hr : refuse < 2 ^ 63) (hbw : c.D bw ∨ c.w0.heap.size ≤ bw) (hc : cnt = countTo com cap)
    (hb : H[ib]? = some (b, .cells [sc bp 0 cap cap, vi (cap : Int), sc bw ow nw cw, vi (cnt : Int), vb armed, vi (refuse : Int)] TA) := by as_aux_lemma => kernel_rfl)
    (hp : H[ip]? = some (bp, .row TP cap cap (pagesV com pb 0)) := by as_aux_lemma => kernel_rfl) (hw : H[iw]? = some (bw, .fn ow (ow + nw) (u64s ws ow)) := by as_aux_lemma => kernel_rfl) (hne : ib ≠ ip ∧ iw ≠ ib ∧ iw ≠ ip := by decide)
    (hpk : pickH H l = some H' := by as_aux_lemma => kernel_rfl) (hd : distinct l = true := by decide) (hnb : l.all (fun i => !Nat.beq i ib) = true := by decide) (hnp : l.all (fun i => !Nat.beq i ip) = true := by decide) (hnw : l.all (fun i => !Nat.beq i iw) = true := by decide) (hown : H'.all (fun e => e.2.own) = true := by rfl) :
    WS c H' [arR b (fun k => k = b ∨ k = bp ∨ k = bw ∨ Fq k) ⟨cap, com, mem, armed, refuse⟩] w := by
  have h1 := h.closeA ib ip iw b bp bw ow nw cw armed TA TP ws hW hcap hr hbw hc hb hp hw hne
  have hq := h.perm l hpk hd
  refine ⟨hq.heap, hq.apart, hq.mine, fun e he hk => ?_, h1.ars, h1.fr⟩
  have hk : e.1 = b ∨ e.1 = bp ∨ e.1 = bw ∨ Fq e.1 := hk.elim id (fun h => h.elim)
  rcases hk with hk | hk | hk | hk
  · exact pick_ne h hpk hb rfl hnb e he hk
  · exact pick_ne h hpk hp rfl hnp e he hk
  · have ho : e.2.own = true := by
      have := List.all_eq_true.1 hown e he
      exact this
    obtain ⟨j, hj⟩ := List.getElem?_of_mem he
    obtain ⟨i, hi1, hi2⟩ := pickH_spec hpk j e hj
    have hne2 : i ≠ iw := by
      have := List.all_eq_true.1 hnw i (List.mem_of_getElem? hi1)
      intro e; subst e; simp at this
    exact pairwise_get h.apart hne2 hi2 hw (.inl ho) hk
  · exact hq.free e he (.inl hk)

end
end Go.Proofs.YtlnecfdbmoilbaaDoor.K
