/-
  A walk by computing, twelfth part: operations upon many cells: clear, copy, append of bytes, bytes to strings; a strings.Builder's pointers.
-/
import Derived.Test.YtlnecfdbmoilbaaDoorAo
import Derived.Test.YtlnecfdbmoilbaaDoorKo
import Derived.Lib.SliceRun
import Derived.Lib.BufferWrite
import Derived.Laws.BytesString
import Derived.Lib.Builder
import Derived.Lib.UnsafeStr
namespace Go.Proofs.YtlnecfdbmoilbaaDoor.K
set_option linter.unusedSimpArgs false
set_option linter.unusedVariables false

/-- A string of bytes that a function tells; a string's bytes. -/
def bs (f : Nat → UInt8) (n : Nat) : ByteArray := ⟨((List.range n).map f).toArray⟩
def sb (s : ByteArray) (i : Nat) : UInt8 := s.data.toList.getD i 0
theorem bs_size (f : Nat → UInt8) (n : Nat) : (bs f n).size = n := by unfold bs; simp [ByteArray.size]
theorem bs_congr {f g : Nat → UInt8} {n : Nat} (h : ∀ i, i < n → f i = g i) : bs f n = bs g n := by
  unfold bs; congr 2; exact List.map_congr_left fun i hi => h i (List.mem_range.1 hi)
theorem sb_bs {f : Nat → UInt8} {n i : Nat} (h : i < n) : sb (bs f n) i = f i := by
  unfold sb bs; simp [List.getD_eq_getElem?_getD, h]
theorem bs_sb (s : ByteArray) : bs (sb s) s.size = s := by
  unfold bs sb
  apply ByteArray.ext
  apply Array.ext
  · simp
  · intro i h1 h2
    have : i < s.data.size := h2
    simp only [List.getElem_toArray, List.getElem_map, List.getElem_range, List.getD_eq_getElem?_getD, Array.getElem?_toList]
    rw [Array.getElem?_eq_getElem this]; rfl

theorem Fr.setRow {w : World} {b : Nat} (cs : Array Value) : Fr w (w.setRow b cs) (K.one b) no :=
  ⟨rfl, rfl, rfl, by simp [World.setRow], fun k _ hk => setRow_other w b k cs hk, fun k hk => hk.elim⟩

/-- A part of a row is written. -/
def segV (f : Nat → Value) (o n : Nat) (g : Nat → Value) (x : Nat) : Value := if o ≤ x ∧ x < o + n then g (x - o) else f x

theorem setRow_eq {w : World} {b : Nat} {c1 c2 : Array Value} (h : c1 = c2) : w.setRow b c1 = w.setRow b c2 := by rw [h]

theorem row_seg {w : World} {b : Nat} {e : TypeId} {m tot : Nat} {f g : Nat → Value} {o n : Nat} {cur : Array Value} (hc : w.heap[b]? = some (.cells cur e (0, 0))) (hsz : cur.size = tot) (hmt : m ≤ tot) (hf : ∀ x, x < m → cur[x]? = some (f x)) (hon : o + n ≤ m) (vs : List Value) (hl : vs.length = n) (hg : ∀ j, j < n → vs[j]? = some (g j)) :
    HE.holds (w.setRow b (cur.toList.take o ++ vs ++ cur.toList.drop (o + n)).toArray) b (.row e m tot (segV f o n g)) := by
  refine ⟨_, setRow_heap w b cur _ e (0, 0) hc, ?_, hmt, fun x hx => ?_⟩
  · have : cur.toList.length = tot := by simpa using hsz
    simp only [List.size_toArray, List.length_append, List.length_take, List.length_drop, hl, this]
    omega
  · have hcl : cur.toList.length = tot := by simpa using hsz
    rw [List.getElem?_toArray]
    unfold segV
    by_cases h1 : x < o
    · rw [if_neg (by omega), List.append_assoc, List.getElem?_append_left (by simp [hcl]; omega), List.getElem?_take_of_lt h1, Array.getElem?_toList]
      exact hf x hx
    · rw [List.append_assoc, List.getElem?_append_right (by simp [hcl]; omega), List.length_take, hcl, show min o tot = o by omega]
      by_cases h2 : x < o + n
      · rw [if_pos ⟨by omega, h2⟩, List.getElem?_append_left (by omega)]
        exact hg _ (by omega)
      · rw [if_neg (by omega), List.getElem?_append_right (by omega), hl, List.getElem?_drop, show o + n + (x - o - n) = x by omega, Array.getElem?_toList]
        exact hf x hx

section
variable {P : Program} {c : Cx} {n : Nat} {E : Env} {H : Heap} {A : List Res} {a : Act} {w : World} {K : Act → World → Prop} {o : Oper}

theorem clear_run {x : Operand} {ts : Array TypeId} (ho : o.op = .call { callee := .builtin .clear, args := #[x], argTypes := ts }) {v : Value} {w' : World} (hr : (Builtin.clear_ ts o.type #[a.eval x]).run P w = .ok v w') : (execOp a.eval o).run P w = .ok (.value v) w' := by
  unfold execOp
  simp only [ho, resolve, invoke, builtin, Sem.run_bind, Sem.run_pure, Result.andThen_ok, List.map_toArray, List.map_cons, List.map_nil, hr]
theorem copy_run {x y : Operand} {ts : Array TypeId} (ho : o.op = .call { callee := .builtin .copy, args := #[x, y], argTypes := ts }) {v : Value} {w' : World} (hr : (Builtin.copy_ ts o.type #[a.eval x, a.eval y]).run P w = .ok v w') : (execOp a.eval o).run P w = .ok (.value v) w' := by
  unfold execOp
  simp only [ho, resolve, invoke, builtin, Sem.run_bind, Sem.run_pure, Result.andThen_ok, List.map_toArray, List.map_cons, List.map_nil, hr]
theorem append_run {x y : Operand} {ts : Array TypeId} (ho : o.op = .call { callee := .builtin .append, args := #[x, y], argTypes := ts }) {v : Value} {w' : World} (hr : (Builtin.append_ ts o.type #[a.eval x, a.eval y]).run P w = .ok v w') : (execOp a.eval o).run P w = .ok (.value v) w' := by
  unfold execOp
  simp only [ho, resolve, invoke, builtin, Sem.run_bind, Sem.run_pure, Result.andThen_ok, List.map_toArray, List.map_cons, List.map_nil, hr]

theorem eval1 {x : Operand} (hS : St c n E H A a w) (hok : okO E [] x = true) : a.eval x = rho E x := agree_eval (C := []) hS.env (fun p hp => nomatch hp) hok

/-- clear of a part of a row of our own. -/
theorem St.clearR (hS : St c n E H A a w) (x : Operand) (t : TypeId) (ho : o.op = .call { callee := .builtin .clear, args := #[x], argTypes := #[t] }) (hd : o.dst = none) {e : TypeId} {z : Value} {i : TypeInfo} (ht : P.underlying t = some (.slice e)) (hi : P.info? e = some i) (hz : i.zero = some z) (h1 : i.size = 1) (hz1 : z.cells = #[z]) (hz2 : z.oneCell' = true)
    {b off k cp m tot : Nat} {e2 : TypeId} {f : Nat → Value} (j : Nat) (hk : 0 < k) (hkm : off + k ≤ m) (h : ∀ w', St c n E (H.set j (b, .row e2 m tot (segV f off k (fun _ => z)))) A a w' → K a w')
    (hok : okO E [] x = true := by as_aux_lemma => kernel_rfl) (hx : rho E x = .slice (some ⟨b, off, none⟩) k cp := by as_aux_lemma => kernel_rfl) (hj : H[j]? = some (b, .row e2 m tot f) := by as_aux_lemma => kernel_rfl) : Runs1 P o a w K := by
  obtain ⟨cur, hc, hsz, hmt, hf⟩ := hS.mem.heap _ (List.mem_of_getElem? hj)
  have hv : ∀ w, (zeroValue e).run P w = .ok z w := fun w => by simp [zeroValue, typeInfo, program, bind, Sem.bind, Sem.run, hi, hz, pure]
  have hcell : ∀ y, y < m → w.cell? ⟨b, y, none⟩ = some (f y) := fun y hy => by unfold World.cell?; simp only [hc]; exact hf y hy
  have hzc : (Builtin.zeroCells z.cells k).toList = List.replicate k z := by
    rw [hz1]
    simp [Builtin.zeroCells]
    apply List.ext_getElem
    · simp
    · intro i h1 h2; simp [Nat.mod_one]
  have hst := run_storeCells_at P b off e2 (List.replicate k z) 0 cur w hc (by simp; omega) (by intro v hv'; rw [List.eq_of_mem_replicate hv']; exact hz2)
  have hr : (Builtin.clear_ #[t] o.type #[.slice (some ⟨b, off, none⟩) k cp]).run P w = .ok (.tuple #[]) (w.setRow b (cur.toList.take off ++ List.replicate k z ++ cur.toList.drop (off + k)).toArray) := by
    obtain ⟨q, rfl⟩ : ∃ q, k = q + 1 := ⟨k - 1, by omega⟩
    simp only [Nat.add_zero, List.length_replicate] at hst
    simp [Builtin.clear_, run_underlying ht, hv, hzc, hst]
  refine ⟨_, _, clear_run ho (v := .tuple #[]) (by rw [eval1 hS hok, hx]; exact hr), ?_⟩
  · rw [hd]
    have hh := row_seg (n := k) (o := off) (g := fun _ => z) hc hsz hmt hf hkm (List.replicate k z) (by simp) (fun q hq => by simp [hq])
    exact h _ (hS.to (hS.mem.stepM j hj rfl rfl hh (Fr.setRow _)))

/-- What copy takes of a string. -/
theorem run_copy_str (w : World) (dT sT ty elem : TypeId) (g off dLen dCap : Nat) (s : ByteArray) (cur : Array Value) (t : TypeId)
    (hu : P.underlying dT = some (.slice elem)) (hs : (P.info? elem).map (·.size) = some 1) (hg : w.heap[g]? = some (.cells cur t (0, 0))) (hfit : off + min s.size dLen ≤ cur.size) :
    (Builtin.copy_ #[dT, sT] ty #[.slice (some ⟨g, off, none⟩) dLen dCap, .string s]).run P w =
        .ok (goInt ((min s.size dLen : Nat) : Int)) (w.setRow g (cur.toList.take off ++ (Lib.byteCells s.data.toList).take (min s.size dLen) ++ cur.toList.drop (off + min s.size dLen)).toArray) := by
  have hlen : (Lib.byteCells s.data.toList).length = s.size := by rw [Lib.byteCells_length]; simp
  have hl2 : ((Lib.byteCells s.data.toList).take (min s.size dLen)).length = min s.size dLen := by rw [List.length_take, hlen]; omega
  have hst := run_storeCells_at P g off t ((Lib.byteCells s.data.toList).take (min s.size dLen)) 0 cur w hg (by rw [hl2]; simpa using hfit) (fun v hv => Lib.byteCells_one _ v (List.mem_of_mem_take hv))
  rw [hl2] at hst
  simp only [Nat.add_zero] at hst
  have e1 : Nat.min s.size dLen = min s.size dLen := rfl
  cases hq : P.info? elem with
  | none => simp [hq] at hs
  | some i =>
    simp [Builtin.copy_, run_underlying hu, Builtin.lenOf, Builtin.firstCells, sizeOf, typeInfo, hq]
    rw [show List.take (min s.size dLen) (List.map (fun b : UInt8 => Value.int IntKind.u8 (b.toNat : Int)) s.data.toList) = (Lib.byteCells s.data.toList).take (min s.size dLen) from rfl]
    rw [e1, hst]
    simp only [Result.andThen, List.append_assoc]

/-- copy of a string's bytes into a part of a row of bytes of our own. -/
theorem St.copyS (hS : St c n E H A a w) (x y : Operand) (t t2 : TypeId) (ho : o.op = .call { callee := .builtin .copy, args := #[x, y], argTypes := #[t, t2] }) {d : Nat} (hd : o.dst = some d) (hdn : d < n) {e e2 : TypeId} {i : TypeInfo} {z : Value} (ht : P.underlying t = some (.slice e)) (hi : P.info? e = some i) (hz : i.zero = some z) (h1 : i.size = 1)
    {b off k cp m tot : Nat} {f : Nat → UInt8} {s : ByteArray} (j : Nat) (hkm : off + min s.size k ≤ m)
    (h : ∀ a' w', St c n (putE E d [] (vi ((min s.size k : Nat) : Int))) (H.set j (b, .row e2 m tot (bytes (fun x => if off ≤ x ∧ x < off + min s.size k then sb s (x - off) else f x) 0))) A a' w' → K a' w')
    (hok : okO E [] x = true := by as_aux_lemma => kernel_rfl) (hok2 : okO E [] y = true := by as_aux_lemma => kernel_rfl) (hx : rho E x = .slice (some ⟨b, off, none⟩) k cp := by as_aux_lemma => kernel_rfl) (hy : rho E y = .string s := by as_aux_lemma => kernel_rfl) (hj : H[j]? = some (b, .row e2 m tot (bytes f 0)) := by as_aux_lemma => kernel_rfl) : Runs1 P o a w K := by
  obtain ⟨cur, hc, hsz, hmt, hf⟩ := hS.mem.heap _ (List.mem_of_getElem? hj)
  have hr := run_copy_str (P := P) w t t2 o.type e b off k cp s cur e2 ht (by rw [hi]; simp [h1]) hc (by omega)
  refine ⟨_, _, copy_run ho (by rw [eval1 hS hok, eval1 hS hok2, hx, hy]; exact hr), ?_⟩
  · rw [hd]
    have hlen : (Lib.byteCells s.data.toList).length = s.size := by rw [Lib.byteCells_length]; simp
    have hh := row_seg (n := min s.size k) (o := off) (g := fun q => v8 ((sb s q).toNat : Int)) hc hsz hmt hf hkm ((Lib.byteCells s.data.toList).take (min s.size k)) (by rw [List.length_take, hlen]; omega) (fun q hq => by
      rw [List.getElem?_take_of_lt hq]
      have hq2 : q < s.data.toList.length := by simp; omega
      unfold Lib.byteCells sb
      rw [List.getElem?_map, List.getElem?_eq_getElem hq2, List.getD_eq_getElem?_getD, List.getElem?_eq_getElem hq2]; rfl)
    have hh2 := HE.row_eq hh (g := bytes (fun x => if off ≤ x ∧ x < off + min s.size k then sb s (x - off) else f x) 0) (fun q hq => by
      unfold bytes segV; simp only [Nat.sub_zero]; split <;> rfl)
    exact h _ _ ((hS.to (hS.mem.stepM j hj rfl rfl hh2 (Fr.setRow _))).put hdn)

/-- Bytes of a block. -/
def Cells8 (w : World) (b off k : Nat) (g : Nat → UInt8) : Prop := ∀ j, j < k → w.cell? ⟨b, off + j, none⟩ = some (v8 ((g j).toNat : Int))

theorem Cells8.fn {lo hi off k : Nat} {b : Nat} {f : Nat → UInt8} {lo2 : Nat} (h : HE.holds w b (.fn lo hi (bytes f lo2))) (h1 : lo ≤ off) (h2 : off + k ≤ hi) : Cells8 w b off k (fun j => f (off + j - lo2)) := by
  obtain ⟨cc, T, fz, hc, hf⟩ := h
  intro j hj
  unfold World.cell?
  simp only [hc]
  exact hf _ (by omega) (by omega)
theorem Cells8.row {e : TypeId} {m tot off k : Nat} {b : Nat} {f : Nat → UInt8} (h : HE.holds w b (.row e m tot (bytes f 0))) (h2 : off + k ≤ m) : Cells8 w b off k (fun j => f (off + j)) := by
  obtain ⟨cc, hc, hsz, hmt, hf⟩ := h
  intro j hj
  unfold World.cell?
  simp only [hc]
  exact hf _ (by omega)

theorem run_bytesToStr {b off k cp : Nat} {g : Nat → UInt8} (h : Cells8 w b off k g) : (Conv.bytesToString (.slice (some ⟨b, off, none⟩) k cp)).run P w = .ok (.string (bs g k)) w := by
  have hl := run_loadCells_list (P := P) w ⟨b, off, none⟩ ((List.range k).map fun j => v8 ((g j).toNat : Int)) (fun j v hj => by
    have hjk : j < k := by
      have := (List.getElem?_eq_some_iff.1 hj).1
      simpa using this
    rw [List.getElem?_map, List.getElem?_range hjk] at hj
    simp only [Option.map_some, Option.some.injEq] at hj
    subst hj
    rw [addr_add _ rfl]
    exact h j hjk)
  simp only [List.length_map, List.length_range] at hl
  have e : ((List.range k).map fun j => v8 ((g j).toNat : Int)) = ((List.range k).map fun j => ((g j).toNat : Int)).map (Value.int .u8) := by simp [List.map_map]
  rw [e] at hl
  rw [run_bytesToString w ⟨b, off, none⟩ k cp _ hl]
  congr 1
  have : ∀ (l : List Nat) (s : ByteArray), (l.map fun j => ((g j).toNat : Int)).foldl (fun r n => r.push (UInt8.ofNat n.toNat)) s = ⟨s.data ++ (l.map g).toArray⟩ := by
    intro l
    induction l with
    | nil => intro s; simp
    | cons x l ih =>
      intro s
      rw [List.map_cons, List.foldl_cons, ih]
      apply ByteArray.ext
      simp [ByteArray.push]
  rw [this]
  unfold bs
  simp

/-- Bytes to a string. -/
theorem St.toStr (hS : St c n E H A a w) (x : Operand) (t t2 : TypeId) (ho : o.op = .convert t t2 x) {d : Nat} (hd : o.dst = some d) (hdn : d < n) {e : TypeId} (ht : P.underlying t = some (.slice e)) (he : P.underlying e = some (.int .u8)) (ht2 : P.underlying t2 = some .string) {b off k cp : Nat} (g : Nat → UInt8) (hg : Cells8 w b off k g)
    (h : ∀ a', St c n (putE E d [] (.string (bs g k))) H A a' w → K a' w) (hok : okO E [] x = true := by as_aux_lemma => kernel_rfl) (hx : rho E x = .slice (some ⟨b, off, none⟩) k cp := by as_aux_lemma => kernel_rfl) : Runs1 P o a w K := by
  refine ⟨.string (bs g k), w, ?_, ?_⟩
  · simp only [execOp, ho, eval1 hS hok, hx]
    rw [runBind (w' := w) (x := .string (bs g k))]
    · rfl
    · rw [run_convert_bytes_string w t t2 e _ _ _ ht he ht2]; exact run_bytesToStr hg
  · rw [hd]; exact h _ (hS.put hdn)

end

theorem pagesV_clear (com : Nat → Bool) (pb : Nat → Nat) (f k o : Nat) : pagesV (setR com f k false) pb 0 o = segV (pagesV com pb 0) f k (fun _ => pnil) o := by
  unfold pagesV segV setR
  simp only [Nat.sub_zero]
  split
  · rfl
  · rfl
theorem sadd_ne {cap l off size : Nat} (h : cap ≠ l) : sadd cap l off size = off + l * size := if_neg h
theorem pt_if {b : Bool} {x : Nat} (h : b = true) : (Value.pointer (if b = true then some ⟨x, 0, none⟩ else none)) = pt x 0 := by rw [h]; rfl

end Go.Proofs.YtlnecfdbmoilbaaDoor.K
