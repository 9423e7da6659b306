/-
  An arena whose parts lie open: its head, its row of pages, its words; its pages by themselves; and shut again.
-/
import Derived.Test.YtlnecfdbmoilbaaDoorAm
namespace Go.Proofs.YtlnecfdbmoilbaaDoor.K
set_option linter.unusedSimpArgs false
set_option linter.unusedVariables false

/-- Pages by themselves. -/
structure PG where
  cap : Nat
  com : Nat → Bool
  mem : Nat → UInt8
  pb : Nat → Nat

structure PgAt (w : World) (F : Nat → Prop) (p : PG) : Prop where
  page : ∀ i, i < p.cap → p.com i = true → ∃ T, HE.holds w (p.pb i) (.row T 4096 4096 (bytes (fun o => p.mem (4096 * i + o)) 0))
  inj : ∀ i j, i < p.cap → p.com i = true → j < p.cap → p.com j = true → p.pb i = p.pb j → i = j
  foot : ∀ k, F k ↔ ∃ i, i < p.cap ∧ p.com i = true ∧ k = p.pb i

def pgR (_ : Nat) (F : Nat → Prop) (p : PG) : Res := ⟨F, fun w => PgAt w F p, fun w h k hk => by
  obtain ⟨i, h1, h2, rfl⟩ := (h.foot k).1 hk
  obtain ⟨T, h3⟩ := h.page i h1 h2
  exact h3.lt, fun w w' h e => ⟨fun i h1 h2 => by
  obtain ⟨T, h3⟩ := h.page i h1 h2
  exact ⟨T, h3.congr (e _ ((h.foot _).2 ⟨i, h1, h2, rfl⟩))⟩, h.inj, h.foot⟩⟩

def Fp (cap : Nat) (com : Nat → Bool) (pb : Nat → Nat) (k : Nat) : Prop := ∃ i, i < cap ∧ com i = true ∧ k = pb i

theorem ArAt.pg {w : World} {b : Nat} {F : Nat → Prop} {m : AM} {d : Lie} (h : ArAt w ⟨b, F, m⟩ d) : (pgR 0 (Fp m.cap m.com d.pb) ⟨m.cap, m.com, m.mem, d.pb⟩).R w :=
  ⟨fun i h1 h2 => h.pw h1 h2, h.inj, fun k => Iff.rfl⟩

def headV (bp cap bw ow nw cw cnt : Nat) (armed : Bool) (refuse : Nat) : List Value := [sc bp 0 cap cap, vi (cap : Int), sc bw ow nw cw, vi (cnt : Int), vb armed, vi (refuse : Int)]

section
variable {c : Cx} {n : Nat} {E : Env} {H : Heap} {a : Act} {w : World}

/-- An arena is opened. -/
theorem WS.openA {b : Nat} {F : Nat → Prop} {m : AM} (h : WS c H [arR b F m] w) : ∃ d : Lie, ArAt w ⟨b, F, m⟩ d ∧
    WS c (H ++ [(b, .cells [sc d.bp 0 m.cap m.cap, vi (m.cap : Int), sc d.bw d.ow d.nw d.cw, vi (countTo m.com m.cap : Int), vb m.armed, vi (m.refuse : Int)] d.TA), (d.bp, .row d.TP m.cap m.cap (pagesV m.com d.pb 0)), (d.bw, .fn d.ow (d.ow + d.nw) (u64s d.ws d.ow))])
      [pgR 0 (Fp m.cap m.com d.pb) ⟨m.cap, m.com, m.mem, d.pb⟩] w ∧ (c.D d.bw ∨ c.w0.heap.size ≤ d.bw) := by
  obtain ⟨d, hd⟩ : ∃ d, ArAt w ⟨b, F, m⟩ d := h.res 0
  have hF : ∀ k, F k → ¬ (∃ e ∈ H, e.1 = k) := fun k hk ⟨e, he, e1⟩ => h.free e he (.inl (e1 ▸ hk))
  have f1 : F b := (hd.foot b).2 (.inl rfl)
  have f2 : F d.bp := (hd.foot _).2 (.inr (.inl rfl))
  have f3 : F d.bw := (hd.foot _).2 (.inr (.inr (.inl rfl)))
  have fp : ∀ k, Fp m.cap m.com d.pb k → F k := fun k ⟨i, h1, h2, h3⟩ => (hd.foot k).2 (.inr (.inr (.inr ⟨i, h1, h2, h3⟩)))
  have hmine : ∀ k, F k → c.w0.heap.size ≤ k ∨ c.D k := fun k hk => (h.fr.foot k (.inl hk)).symm
  have n4 := hd.ne4
  refine ⟨d, hd, ⟨fun e he => ?_, ?_, fun e he ho => ?_, fun e he hk => ?_, AllAr.one hd.pg, h.fr.to (fun k hk => .inl hk) (fun k hk => ?_)⟩, (h.fr.foot _ (.inl f3))⟩
  · rcases List.mem_append.1 he with he | he
    · exact h.heap e he
    · simp only [List.mem_cons, List.not_mem_nil, or_false] at he
      rcases he with rfl | rfl | rfl
      · exact hd.hd
      · exact hd.pr
      · exact hd.wo
  · rw [List.pairwise_append]
    refine ⟨h.apart, ?_, fun p hp q hq ho e => ?_⟩
    · refine List.pairwise_cons.2 ⟨fun q hq => ?_, List.pairwise_cons.2 ⟨fun q hq => ?_, List.pairwise_singleton _ _⟩⟩
      · simp only [List.mem_cons, List.not_mem_nil, or_false] at hq
        rcases hq with rfl | rfl
        · exact fun _ => hd.ne1
        · exact fun _ => hd.ne2
      · simp only [List.mem_cons, List.not_mem_nil, or_false] at hq
        subst hq
        exact fun _ => hd.ne3
    · simp only [List.mem_cons, List.not_mem_nil, or_false] at hq
      rcases hq with rfl | rfl | rfl
      · exact hF _ f1 ⟨p, hp, e⟩
      · exact hF _ f2 ⟨p, hp, e⟩
      · exact hF _ f3 ⟨p, hp, e⟩
  · rcases List.mem_append.1 he with he | he
    · exact h.mine e he ho
    · simp only [List.mem_cons, List.not_mem_nil, or_false] at he
      rcases he with rfl | rfl | rfl
      · exact hmine _ f1
      · exact hmine _ f2
      · cases ho
  · have hk : Fp m.cap m.com d.pb e.1 := hk.elim id (fun h => h.elim)
    rcases List.mem_append.1 he with he | he
    · exact hF _ (fp _ hk) ⟨e, he, rfl⟩
    · obtain ⟨i, h1, h2, h3⟩ := hk
      obtain ⟨q1, q2, q3⟩ := n4 i h1 h2
      simp only [List.mem_cons, List.not_mem_nil, or_false] at he
      rcases he with rfl | rfl | rfl
      · exact q1 h3.symm
      · exact q2 h3.symm
      · exact q3 h3.symm
  · have hk : Fp m.cap m.com d.pb k := hk.elim id (fun h => h.elim)
    exact h.fr.foot k (.inl (fp k hk))

theorem ar_close {b bp bw ow nw cw cap cnt refuse : Nat} {armed : Bool} {TA TP : TypeId} {com : Nat → Bool} {mem : Nat → UInt8} {pb : Nat → Nat} {ws : Nat → Nat} {Fq : Nat → Prop}
    (h1 : HE.holds w b (.cells [sc bp 0 cap cap, vi (cap : Int), sc bw ow nw cw, vi (cnt : Int), vb armed, vi (refuse : Int)] TA)) (h2 : HE.holds w bp (.row TP cap cap (pagesV com pb 0))) (h3 : HE.holds w bw (.fn ow (ow + nw) (u64s ws ow)))
    (hp : PgAt w Fq ⟨cap, com, mem, pb⟩) (hW : Words ws nw cap com) (hc : cnt = countTo com cap) (e1 : b ≠ bp) (e2 : bw ≠ b) (e3 : bw ≠ bp) (n1 : ¬ Fq b) (n2 : ¬ Fq bp) (n3 : ¬ Fq bw) (hcap : cap ≤ 1048576) (hr : refuse < 2 ^ 63) :
    (arR b (fun k => k = b ∨ k = bp ∨ k = bw ∨ Fq k) ⟨cap, com, mem, armed, refuse⟩).R w := by
  obtain ⟨c2, k1, k2, k3, k4⟩ := h2
  obtain ⟨c3, T, fz, k5, k6⟩ := h3
  subst hc
  refine ⟨⟨bp, bw, ow, nw, cw, ws, pb, TA, TP⟩, h1, ⟨c2, k1, k2, fun i hi => k4 i hi⟩, ⟨c3, T, fz, k5, fun j hj => ?_⟩, hW, fun i hi hc => ?_, e1, fun e => e2 e.symm, fun e => e3 e.symm, fun i hi hc => ?_, hp.inj, hcap, hr, fun k => ?_⟩
  · have hj : j < nw := hj
    have := k6 (ow + j) (by omega) (by omega)
    unfold u64s at this
    rw [show ow + j - ow = j by omega] at this
    exact this
  · obtain ⟨T, cc, q1, q2, _, q4⟩ := hp.page i hi hc
    exact ⟨cc, T, q1, q2, fun o ho => q4 o ho⟩
  · have hq : Fq (pb i) := (hp.foot _).2 ⟨i, hi, hc, rfl⟩
    exact ⟨fun e => n1 ((show pb i = b from e) ▸ hq), fun e => n2 ((show pb i = bp from e) ▸ hq), fun e => n3 ((show pb i = bw from e) ▸ hq)⟩
  · show (k = b ∨ k = bp ∨ k = bw ∨ Fq k) ↔ (k = b ∨ k = bp ∨ k = bw ∨ ∃ i, i < cap ∧ com i = true ∧ k = pb i)
    rw [hp.foot k]

/-- And shut. -/
theorem WS.closeA {cap cnt refuse : Nat} {com : Nat → Bool} {mem : Nat → UInt8} {pb : Nat → Nat} {Fq : Nat → Prop} (h : WS c H [pgR 0 Fq ⟨cap, com, mem, pb⟩] w) (ib ip iw : Nat) (b bp bw ow nw cw : Nat) (armed : Bool) (TA TP : TypeId) (ws : Nat → Nat)
    (hW : Words ws nw cap com) (hcap : cap ≤ 1048576) (hr : refuse < 2 ^ 63) (hbw : c.D bw ∨ c.w0.heap.size ≤ bw) (hc : cnt = countTo com cap)
    (hb : H[ib]? = some (b, .cells [sc bp 0 cap cap, vi (cap : Int), sc bw ow nw cw, vi (cnt : Int), vb armed, vi (refuse : Int)] TA) := by as_aux_lemma => kernel_rfl)
    (hp : H[ip]? = some (bp, .row TP cap cap (pagesV com pb 0)) := by as_aux_lemma => kernel_rfl) (hw : H[iw]? = some (bw, .fn ow (ow + nw) (u64s ws ow)) := by as_aux_lemma => kernel_rfl) (hne : ib ≠ ip ∧ iw ≠ ib ∧ iw ≠ ip := by decide) :
    WS c [] [arR b (fun k => k = b ∨ k = bp ∨ k = bw ∨ Fq k) ⟨cap, com, mem, armed, refuse⟩] w := by
  have f : ∀ {i g : Nat} {x : HE}, H[i]? = some (g, x) → ¬ Fq g := fun hi hq => h.free _ (List.mem_of_getElem? hi) (.inl hq)
  refine ⟨(fun e he => nomatch he), List.Pairwise.nil, (fun e he => nomatch he), (fun e he => nomatch he), AllAr.one (ar_close (h.heap _ (List.mem_of_getElem? hb)) (h.heap _ (List.mem_of_getElem? hp)) (h.heap _ (List.mem_of_getElem? hw)) (h.res 0) hW hc
    (pairwise_get h.apart hne.1 hb hp (.inl rfl)) (pairwise_get h.apart hne.2.1 hw hb (.inr rfl)) (pairwise_get h.apart hne.2.2 hw hp (.inr rfl)) (f hb) (f hp) (f hw) hcap hr), h.fr.to (fun k hk => .inl hk) (fun k hk => ?_)⟩
  have hk : k = b ∨ k = bp ∨ k = bw ∨ Fq k := hk.elim id (fun h => h.elim)
  rcases hk with rfl | rfl | rfl | hk
  · exact (h.mine _ (List.mem_of_getElem? hb) rfl).symm
  · exact (h.mine _ (List.mem_of_getElem? hp) rfl).symm
  · exact hbw
  · exact h.fr.foot k (.inl hk)

/-- Page i with other bytes. -/
def putPg (mem : Nat → UInt8) (i : Nat) (g : Nat → UInt8) (x : Nat) : UInt8 := if 4096 * i ≤ x ∧ x < 4096 * i + 4096 then g (x - 4096 * i) else mem x
def setB (com : Nat → Bool) (i : Nat) (v : Bool) (x : Nat) : Bool := if x = i then v else com x
def putN (pb : Nat → Nat) (i v : Nat) (x : Nat) : Nat := if x = i then v else pb x

theorem putPg_at (mem : Nat → UInt8) (i : Nat) (g : Nat → UInt8) {o : Nat} (ho : o < 4096) : putPg mem i g (4096 * i + o) = g o := by
  unfold putPg
  rw [if_pos (by omega), Nat.add_sub_cancel_left]
theorem putPg_ne (mem : Nat → UInt8) {i j : Nat} (g : Nat → UInt8) {o : Nat} (ho : o < 4096) (hij : j ≠ i) : putPg mem i g (4096 * j + o) = mem (4096 * j + o) := by
  unfold putPg
  rw [if_neg (by omega)]

theorem row_bytes {b : Nat} {T : TypeId} {f g : Nat → UInt8} (h : HE.holds w b (.row T 4096 4096 (bytes f 0))) (e : ∀ o, o < 4096 → g o = f o) : HE.holds w b (.row T 4096 4096 (bytes g 0)) :=
  HE.row_eq h fun o ho => by unfold bytes; rw [Nat.sub_zero, e o ho]

/-- A page is put to the pages. -/
theorem WS.absorb {cap : Nat} {com : Nat → Bool} {mem : Nat → UInt8} {pb : Nat → Nat} {Fq : Nat → Prop} (h : WS c H [pgR 0 Fq ⟨cap, com, mem, pb⟩] w) (j g i : Nat) (T : TypeId) (f : Nat → UInt8) (l : List Nat) {H' : Heap} (hi : i < cap) (hc : com i = false)
    (hp : pickH H l = some H' := by as_aux_lemma => kernel_rfl) (hj : H[j]? = some (g, .row T 4096 4096 (bytes f 0)) := by as_aux_lemma => kernel_rfl) (hd : distinct l = true := by decide) (hnl : l.all (fun k => !Nat.beq k j) = true := by decide) :
    WS c H' [pgR 0 (fun k => Fq k ∨ k = g) ⟨cap, setB com i true, putPg mem i f, putN pb i g⟩] w := by
  have hq := h.perm l hp hd
  have hne := pick_ne h hp hj rfl hnl
  have P : PgAt w Fq ⟨cap, com, mem, pb⟩ := h.res 0
  have hg := h.heap _ (List.mem_of_getElem? hj)
  have ng : ¬ Fq g := fun hk => h.free _ (List.mem_of_getElem? hj) (.inl hk)
  have other : ∀ x, x < cap → com x = true → pb x ≠ g := fun x h1 h2 e => ng ((P.foot g).2 ⟨x, h1, h2, e.symm⟩)
  refine ⟨hq.heap, hq.apart, hq.mine, fun e he hk => ?_, AllAr.one ⟨fun x hx hcx => ?_, fun x y hx hcx hy hcy e => ?_, fun k => ?_⟩, h.fr.to (fun k hk => .inl hk) (fun k hk => ?_)⟩
  · rcases hk with hk | hk
    · rcases hk with hk | hk
      · exact hq.free e he (.inl hk)
      · exact hne e he hk
    · exact hk
  · have hcx : setB com i true x = true := hcx
    by_cases hxi : x = i
    · subst hxi
      refine ⟨T, ?_⟩
      show HE.holds w (putN pb x g x) _
      rw [show putN pb x g x = g from if_pos rfl]
      exact row_bytes hg fun o ho => putPg_at _ _ _ ho
    · have h2 : com x = true := by unfold setB at hcx; rwa [if_neg hxi] at hcx
      obtain ⟨T', h3⟩ := P.page x hx h2
      refine ⟨T', ?_⟩
      show HE.holds w (putN pb i g x) _
      rw [show putN pb i g x = pb x from if_neg hxi]
      exact row_bytes h3 fun o ho => putPg_ne _ _ ho hxi
  · have hcx : setB com i true x = true := hcx
    have hcy : setB com i true y = true := hcy
    have e : putN pb i g x = putN pb i g y := e
    unfold setB at hcx hcy
    unfold putN at e
    by_cases hxi : x = i <;> by_cases hyi : y = i
    · omega
    · rw [if_pos hxi, if_neg hyi] at e
      rw [if_neg hyi] at hcy
      exact absurd e.symm (other y hy hcy)
    · rw [if_neg hxi, if_pos hyi] at e
      rw [if_neg hxi] at hcx
      exact absurd e (other x hx hcx)
    · rw [if_neg hxi, if_neg hyi] at e
      rw [if_neg hxi] at hcx
      rw [if_neg hyi] at hcy
      exact P.inj x y hx hcx hy hcy e
  · show (Fq k ∨ k = g) ↔ ∃ x, x < cap ∧ setB com i true x = true ∧ k = putN pb i g x
    constructor
    · rintro (hk | rfl)
      · obtain ⟨x, h1, h2, h3⟩ := (P.foot k).1 hk
        have h2 : com x = true := h2
        have hxi : x ≠ i := fun e => by rw [e, hc] at h2; cases h2
        exact ⟨x, h1, by unfold setB; rw [if_neg hxi]; exact h2, by unfold putN; rw [if_neg hxi]; exact h3⟩
      · exact ⟨i, hi, by unfold setB; rw [if_pos rfl], by unfold putN; rw [if_pos rfl]⟩
    · rintro ⟨x, h1, h2, h3⟩
      by_cases hxi : x = i
      · right; rw [h3]; unfold putN; rw [if_pos hxi]
      · left
        unfold setB at h2; unfold putN at h3
        rw [if_neg hxi] at h2 h3
        exact (P.foot k).2 ⟨x, h1, h2, h3⟩
  · have hk : Fq k ∨ k = g := hk.elim id (fun h => h.elim)
    rcases hk with hk | rfl
    · exact h.fr.foot k (.inl hk)
    · exact (h.mine _ (List.mem_of_getElem? hj) rfl).symm

/-- A page is taken out of the pages. -/
theorem WS.take {cap : Nat} {com : Nat → Bool} {mem : Nat → UInt8} {pb : Nat → Nat} {Fq : Nat → Prop} (h : WS c H [pgR 0 Fq ⟨cap, com, mem, pb⟩] w) (i : Nat) (hi : i < cap) (hc : com i = true) :
    ∃ T, WS c (H ++ [(pb i, .row T 4096 4096 (bytes (fun o => mem (4096 * i + o)) 0))]) [pgR 0 (fun k => Fq k ∧ k ≠ pb i) ⟨cap, setB com i false, mem, pb⟩] w := by
  have P : PgAt w Fq ⟨cap, com, mem, pb⟩ := h.res 0
  obtain ⟨T, hT⟩ := P.page i hi hc
  have hF : Fq (pb i) := (P.foot _).2 ⟨i, hi, hc, rfl⟩
  refine ⟨T, fun e he => ?_, ?_, fun e he ho => ?_, fun e he hk => ?_, AllAr.one ⟨fun x hx hcx => ?_, fun x y hx hcx hy hcy e => ?_, fun k => ?_⟩, h.fr.to (fun k hk => .inl hk) (fun k hk => ?_)⟩
  · rcases List.mem_append.1 he with he | he
    · exact h.heap e he
    · obtain rfl := List.mem_singleton.1 he; exact hT
  · rw [List.pairwise_append]
    refine ⟨h.apart, List.pairwise_singleton _ _, fun p hp q hq ho e => ?_⟩
    obtain rfl := List.mem_singleton.1 hq
    exact h.free p hp (.inl (e ▸ hF))
  · rcases List.mem_append.1 he with he | he
    · exact h.mine e he ho
    · obtain rfl := List.mem_singleton.1 he
      exact (h.fr.foot _ (.inl hF)).symm
  · rcases hk with hk | hk
    · rcases List.mem_append.1 he with he | he
      · exact h.free e he (.inl hk.1)
      · obtain rfl := List.mem_singleton.1 he; exact hk.2 rfl
    · exact hk
  · have hcx : setB com i false x = true := hcx
    unfold setB at hcx
    split at hcx
    · cases hcx
    · exact P.page x hx hcx
  · have hcx : setB com i false x = true := hcx
    have hcy : setB com i false y = true := hcy
    unfold setB at hcx hcy
    split at hcx
    · cases hcx
    · split at hcy
      · cases hcy
      · exact P.inj x y hx hcx hy hcy e
  · show (Fq k ∧ k ≠ pb i) ↔ ∃ x, x < cap ∧ setB com i false x = true ∧ k = pb x
    constructor
    · rintro ⟨hk, hne⟩
      obtain ⟨x, h1, h2, h3⟩ := (P.foot k).1 hk
      have hxi : x ≠ i := fun e => hne (by rw [← e]; exact h3)
      exact ⟨x, h1, by unfold setB; rw [if_neg hxi]; exact h2, h3⟩
    · rintro ⟨x, h1, h2, h3⟩
      unfold setB at h2
      split at h2
      · cases h2
      · rename_i hxi
        refine ⟨(P.foot k).2 ⟨x, h1, h2, h3⟩, fun e => hxi ?_⟩
        exact P.inj x i h1 h2 hi hc (h3.symm.trans e)
  · have hk : Fq k ∧ k ≠ pb i := hk.elim id (fun h => h.elim)
    exact h.fr.foot k (.inl hk.1)

/-- Fewer pages. -/
theorem WS.less {cap : Nat} {com com' : Nat → Bool} {mem : Nat → UInt8} {pb : Nat → Nat} {Fq : Nat → Prop} (h : WS c H [pgR 0 Fq ⟨cap, com, mem, pb⟩] w) (hc : ∀ i, i < cap → com' i = true → com i = true) : WS c H [pgR 0 (Fp cap com' pb) ⟨cap, com', mem, pb⟩] w := by
  have P : PgAt w Fq ⟨cap, com, mem, pb⟩ := h.res 0
  have hs : ∀ k, Fp cap com' pb k → Fq k := fun k ⟨i, h1, h2, h3⟩ => (P.foot k).2 ⟨i, h1, hc i h1 h2, h3⟩
  exact ⟨h.heap, h.apart, h.mine, fun e he hk => h.free e he (.inl (hs _ (hk.elim id (fun h => h.elim)))), AllAr.one ⟨fun i h1 h2 => P.page i h1 (hc i h1 h2), fun i j h1 h2 h3 h4 => P.inj i j h1 (hc i h1 h2) h3 (hc j h3 h4), fun k => Iff.rfl⟩,
    h.fr.to (fun k hk => .inl hk) (fun k hk => h.fr.foot k (.inl (hs _ (hk.elim id (fun h => h.elim)))))⟩

/-- The same pages, told otherwise. -/
theorem WS.same {cap : Nat} {com com' : Nat → Bool} {mem mem' : Nat → UInt8} {pb pb' : Nat → Nat} {Fq : Nat → Prop} (h : WS c H [pgR 0 Fq ⟨cap, com, mem, pb⟩] w) (hc : ∀ i, i < cap → com' i = com i) (hm : ∀ x, x < 4096 * cap → mem' x = mem x) (hp : ∀ i, i < cap → com i = true → pb' i = pb i) : WS c H [pgR 0 Fq ⟨cap, com', mem', pb'⟩] w := by
  have P : PgAt w Fq ⟨cap, com, mem, pb⟩ := h.res 0
  have hcc : ∀ i, i < cap → com' i = true → com i = true := fun i hi h => (hc i hi) ▸ h
  refine ⟨h.heap, h.apart, h.mine, fun e he hk => h.free e he (.inl (hk.elim id (fun h => h.elim))), AllAr.one ⟨fun i h1 h2 => ?_, fun i j h1 h2 h3 h4 e => ?_, fun k => ?_⟩, h.fr.to (fun k hk => .inl hk) (fun k hk => h.fr.foot k (.inl (hk.elim id (fun h => h.elim))))⟩
  · obtain ⟨T, hT⟩ := P.page i h1 (hcc i h1 h2)
    refine ⟨T, ?_⟩
    show HE.holds w (pb' i) _
    rw [hp i h1 (hcc i h1 h2)]
    exact row_bytes hT fun o ho => hm _ (by have h1 : i < cap := h1; omega)
  · have e : pb' i = pb' j := e
    rw [hp i h1 (hcc i h1 h2), hp j h3 (hcc j h3 h4)] at e
    exact P.inj i j h1 (hcc i h1 h2) h3 (hcc j h3 h4) e
  · rw [P.foot k]
    constructor
    · rintro ⟨i, h1, h2, h3⟩
      exact ⟨i, h1, (hc i h1).trans h2, h3.trans (hp i h1 h2).symm⟩
    · rintro ⟨i, h1, h2, h3⟩
      exact ⟨i, h1, hcc i h1 h2, h3.trans (hp i h1 (hcc i h1 h2))⟩

end
end Go.Proofs.YtlnecfdbmoilbaaDoor.K
