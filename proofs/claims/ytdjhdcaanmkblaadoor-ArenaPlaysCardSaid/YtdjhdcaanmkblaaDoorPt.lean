/-
  An arena beside its clone: both share their words, nothing else; what is done to the first leaves the second as it is.
-/
import Derived.Test.YtdjhdcaanmkblaaDoorPw
import Derived.Test.YtdjhdcaanmkblaaDoorOa
namespace Go.Proofs.YtdjhdcaanmkblaaDoor.K
set_option linter.unusedSimpArgs false
set_option linter.unusedVariables false

theorem ArAt.congrD {w w' : World} {r : ArS} {d : Lie} (h : ArAt w r d) (e : ∀ k, r.F k → w'.heap[k]? = w.heap[k]?) : ArAt w' r d := by
  refine ⟨?_, ?_, ?_, h.set, ?_, h.ne1, h.ne2, h.ne3, h.ne4, h.inj, h.capLe, h.refuseLe, h.foot⟩
  · rw [e _ ((h.foot _).2 (.inl rfl))]; exact h.head
  · obtain ⟨c, hc, r⟩ := h.pages
    exact ⟨c, by rw [e _ ((h.foot _).2 (.inr (.inl rfl)))]; exact hc, r⟩
  · obtain ⟨c, T, fz, hc, r⟩ := h.words
    exact ⟨c, T, fz, by rw [e _ ((h.foot _).2 (.inr (.inr (.inl rfl))))]; exact hc, r⟩
  · intro i h1 h2
    obtain ⟨c, T, hc, r⟩ := h.page i h1 h2
    exact ⟨c, T, by rw [e _ ((h.foot _).2 (.inr (.inr (.inr ⟨i, h1, h2, rfl⟩))))]; exact hc, r⟩

/-- All of an arena but its words. -/
def offW (F : Nat → Prop) (bw k : Nat) : Prop := F k ∧ k ≠ bw

/-- A walk begins with an arena that lies open. -/
theorem WS.startO {w : World} {b : Nat} {F : Nat → Prop} {m : AM} {d : Lie} (hd : ArAt w ⟨b, F, m⟩ d) :
    WS ⟨w, offW F d.bw⟩ [(b, .cells [sc d.bp 0 m.cap m.cap, vi (m.cap : Int), sc d.bw d.ow d.nw d.cw, vi (countTo m.com m.cap : Int), vb m.armed, vi (m.refuse : Int)] d.TA), (d.bp, .row d.TP m.cap m.cap (pagesV m.com d.pb 0)), (d.bw, .fn d.ow (d.ow + d.nw) (u64s d.ws d.ow))]
      [pgR 0 (Fp m.cap m.com d.pb) ⟨m.cap, m.com, m.mem, d.pb⟩] w := by
  have f1 : F b := (hd.foot b).2 (.inl rfl)
  have f2 : F d.bp := (hd.foot _).2 (.inr (.inl rfl))
  have fp : ∀ k, Fp m.cap m.com d.pb k → F k := fun k ⟨i, h1, h2, h3⟩ => (hd.foot k).2 (.inr (.inr (.inr ⟨i, h1, h2, h3⟩)))
  have n4 := hd.ne4
  refine ⟨fun e he => ?_, ?_, fun e he ho => ?_, fun e he hk => ?_, AllAr.one hd.pg, (Fr.refl w _).to (fun k hk => .inl hk) (fun k hk => ?_)⟩
  · simp only [List.mem_cons, List.not_mem_nil, or_false] at he
    rcases he with rfl | rfl | rfl
    · exact hd.hd
    · exact hd.pr
    · exact hd.wo
  · refine List.pairwise_cons.2 ⟨fun q hq => ?_, List.pairwise_cons.2 ⟨fun q hq => ?_, List.pairwise_singleton _ _⟩⟩
    · simp only [List.mem_cons, List.not_mem_nil, or_false] at hq
      rcases hq with rfl | rfl
      · exact fun _ => hd.ne1
      · exact fun _ => hd.ne2
    · simp only [List.mem_cons, List.not_mem_nil, or_false] at hq
      subst hq
      exact fun _ => hd.ne3
  · simp only [List.mem_cons, List.not_mem_nil, or_false] at he
    rcases he with rfl | rfl | rfl
    · exact .inr ⟨f1, hd.ne2⟩
    · exact .inr ⟨f2, hd.ne3⟩
    · cases ho
  · have hk : Fp m.cap m.com d.pb e.1 := hk.elim id (fun h => h.elim)
    obtain ⟨i, h1, h2, h3⟩ := hk
    obtain ⟨q1, q2, q3⟩ := n4 i h1 h2
    simp only [List.mem_cons, List.not_mem_nil, or_false] at he
    rcases he with rfl | rfl | rfl
    · exact q1 h3.symm
    · exact q2 h3.symm
    · exact q3 h3.symm
  · have hk : Fp m.cap m.com d.pb k := hk.elim id (fun h => h.elim)
    have hF := fp k hk
    obtain ⟨i, h1, h2, h3⟩ := hk
    exact .inl ⟨hF, fun e => (n4 i h1 h2).2.2 (h3.symm.trans e)⟩

theorem ar_closeD {w : World} {b bp bw ow nw cw cap cnt refuse : Nat} {armed : Bool} {TA TP : TypeId} {com : Nat → Bool} {mem : Nat → UInt8} {pb : Nat → Nat} {ws : Nat → Nat} {Fq : Nat → Prop}
    (h1 : HE.holds w b (.cells [sc bp 0 cap cap, vi (cap : Int), sc bw ow nw cw, vi (cnt : Int), vb armed, vi (refuse : Int)] TA)) (h2 : HE.holds w bp (.row TP cap cap (pagesV com pb 0))) (h3 : HE.holds w bw (.fn ow (ow + nw) (u64s ws ow)))
    (hp : PgAt w Fq ⟨cap, com, mem, pb⟩) (hW : Words ws nw cap com) (hc : cnt = countTo com cap) (e1 : b ≠ bp) (e2 : bw ≠ b) (e3 : bw ≠ bp) (n1 : ¬ Fq b) (n2 : ¬ Fq bp) (n3 : ¬ Fq bw) (hcap : cap ≤ 1048576) (hr : refuse < 2 ^ 63) :
    ArAt w ⟨b, fun k => k = b ∨ k = bp ∨ k = bw ∨ Fq k, ⟨cap, com, mem, armed, refuse⟩⟩ ⟨bp, bw, ow, nw, cw, ws, pb, TA, TP⟩ := by
  obtain ⟨c2, k1, k2, k3, k4⟩ := h2
  obtain ⟨c3, T, fz, k5, k6⟩ := h3
  subst hc
  refine ⟨h1, ⟨c2, k1, k2, fun i hi => k4 i hi⟩, ⟨c3, T, fz, k5, fun j hj => ?_⟩, hW, fun i hi hc => ?_, e1, fun e => e2 e.symm, fun e => e3 e.symm, fun i hi hc => ?_, hp.inj, hcap, hr, fun k => ?_⟩
  · have hj : j < nw := hj
    have := k6 (ow + j) (by omega) (by omega)
    unfold u64s at this
    rw [show ow + j - ow = j by omega] at this
    exact this
  · obtain ⟨T, cc, q1, q2, _, q4⟩ := hp.page i hi hc
    exact ⟨cc, T, q1, q2, fun o ho => q4 o ho⟩
  · have hq : Fq (pb i) := (hp.foot _).2 ⟨i, hi, hc, rfl⟩
    exact ⟨fun e => n1 ((show pb i = b from e) ▸ hq), fun e => n2 ((show pb i = bp from e) ▸ hq), fun e => n3 ((show pb i = bw from e) ▸ hq)⟩
  · show (k = b ∨ k = bp ∨ k = bw ∨ Fq k) ↔ (k = b ∨ k = bp ∨ k = bw ∨ ∃ i, i < cap ∧ com i = true ∧ k = pb i)
    rw [hp.foot k]

/-- What an arena is behind a call that leaves the words as they are that it had. -/
def OffX (w w' : World) (b : Nat) (F : Nat → Prop) (d : Lie) (m' : AM) : Prop :=
  ∃ (d' : Lie) (F' : Nat → Prop), ArAt w' ⟨b, F', m'⟩ d' ∧ (∀ k, F' k → k ≠ d'.bw → offW F d.bw k ∨ w.heap.size ≤ k) ∧ (d'.bw = d.bw ∨ w.heap.size ≤ d'.bw)

section
variable {H : Heap} {w0 w : World} {F : Nat → Prop} {d : Lie} {m' : AM}
theorem WS.endO {cap cnt refuse : Nat} {com : Nat → Bool} {mem : Nat → UInt8} {pb : Nat → Nat} {Fq : Nat → Prop} (h : WS ⟨w0, offW F d.bw⟩ H [pgR 0 Fq ⟨cap, com, mem, pb⟩] w) (ib ip iw : Nat) (b bp bw ow nw cw : Nat) (armed : Bool) (TA TP : TypeId) (ws : Nat → Nat)
    (hW : Words ws nw cap com) (hcap : cap ≤ 1048576) (hr : refuse < 2 ^ 63) (hbw : bw = d.bw ∨ w0.heap.size ≤ bw) (hc : cnt = countTo com cap) (hm : (⟨cap, com, mem, armed, refuse⟩ : AM) = m')
    (hb : H[ib]? = some (b, .cells [sc bp 0 cap cap, vi (cap : Int), sc bw ow nw cw, vi (cnt : Int), vb armed, vi (refuse : Int)] TA) := by as_aux_lemma => kernel_rfl)
    (hp : H[ip]? = some (bp, .row TP cap cap (pagesV com pb 0)) := by as_aux_lemma => kernel_rfl) (hw : H[iw]? = some (bw, .fn ow (ow + nw) (u64s ws ow)) := by as_aux_lemma => kernel_rfl) (hne : ib ≠ ip ∧ iw ≠ ib ∧ iw ≠ ip := by decide) :
    OffX w0 w b F d m' ∧ Fr w0 w (offW F d.bw) no := by
  have f : ∀ {i g : Nat} {x : HE}, H[i]? = some (g, x) → ¬ Fq g := fun hi hq => h.free _ (List.mem_of_getElem? hi) (.inl hq)
  subst hm
  refine ⟨⟨_, _, ar_closeD (h.heap _ (List.mem_of_getElem? hb)) (h.heap _ (List.mem_of_getElem? hp)) (h.heap _ (List.mem_of_getElem? hw)) (h.res 0) hW hc
    (pairwise_get h.apart hne.1 hb hp (.inl rfl)) (pairwise_get h.apart hne.2.1 hw hb (.inr rfl)) (pairwise_get h.apart hne.2.2 hw hp (.inr rfl)) (f hb) (f hp) (f hw) hcap hr, fun k hk hn => ?_, hbw⟩, h.fr.none⟩
  rcases hk with rfl | rfl | rfl | hk
  · exact (h.mine _ (List.mem_of_getElem? hb) rfl).symm
  · exact (h.mine _ (List.mem_of_getElem? hp) rfl).symm
  · exact absurd rfl hn
  · exact h.fr.foot k (.inl hk)
end

/-- Two arenas that share their words at most; what is done is done to the first. -/
def Tw (w : World) (b : Nat) (F : Nat → Prop) (q : Nat × AM × AM) : Prop :=
  ∃ (d : Lie) (F1 F2 : Nat → Prop), ArAt w ⟨b, F1, q.2.1⟩ d ∧ Ar w ⟨q.1, F2, q.2.2⟩ ∧ (∀ k, F1 k → k ≠ d.bw → ¬ F2 k) ∧ ∀ k, F k ↔ F1 k ∨ F2 k
def twR (b : Nat) (F : Nat → Prop) (q : Nat × AM × AM) : Res := ⟨F, fun w => Tw w b F q, fun w h k hk => by
  obtain ⟨d, F1, F2, hA, hB, _, hF⟩ := h
  rcases (hF k).1 hk with hk | hk
  · exact Ar.lt (⟨d, hA⟩ : Ar w ⟨b, F1, q.2.1⟩) hk
  · exact hB.lt hk, fun w w' h e => by
  obtain ⟨d, F1, F2, hA, hB, hD, hF⟩ := h
  exact ⟨d, F1, F2, hA.congrD (fun k hk => e k ((hF k).2 (.inl hk))), hB.congr (fun k hk => e k ((hF k).2 (.inr hk))), hD, hF⟩⟩
theorem tw_step {w w' : World} {b b2 : Nat} {F F1 F2 : Nat → Prop} {m2 m1' : AM} {d : Lie} (hB : Ar w ⟨b2, F2, m2⟩) (hD : ∀ k, F1 k → k ≠ d.bw → ¬ F2 k) (hbw : F1 d.bw) (hF : ∀ k, F k ↔ F1 k ∨ F2 k) (hX : OffX w w' b F1 d m1') (hf : Fr w w' (offW F1 d.bw) no) :
    ∃ F', (twR b F' (b2, m1', m2)).R w' ∧ Fr w w' F F' := by
  obtain ⟨d', F', hA', hO, hb⟩ := hX
  have hk : ∀ k, F2 k → w'.heap[k]? = w.heap[k]? := fun k hk => hf.block k (hB.lt hk) (fun q => hD k q.1 q.2 hk)
  refine ⟨fun k => F' k ∨ F2 k, ⟨d', F', F2, hA', hB.congr hk, fun k h1 h2 h3 => ?_, fun k => Iff.rfl⟩, hf.os, hf.tape, hf.output, hf.size, fun k h1 h2 => hf.block k h1 (fun q => h2 ((hF k).2 (.inl q.1))), fun k h1 => ?_⟩
  · rcases hO k h1 h2 with h4 | h4
    · exact hD k h4.1 h4.2 h3
    · have : k < w.heap.size := hB.lt h3
      omega
  · rcases h1 with h1 | h1
    · by_cases h2 : k = d'.bw
      · rcases hb with hb | hb
        · exact .inl ((hF k).2 (.inl (by rw [h2, hb]; exact hbw)))
        · exact .inr (h2 ▸ hb)
      · rcases hO k h1 h2 with h4 | h4
        · exact .inl ((hF k).2 (.inl h4.1))
        · exact .inr h4
    · exact .inl ((hF k).2 (.inr h1))
theorem WS.twDrop {c : Cx} {H : Heap} {w : World} {b b2 : Nat} {F : Nat → Prop} {m1 m2 : AM} (h : WS c H [twR b F (b2, m1, m2)] w) : ∃ F2, WS c H [arR b2 F2 m2] w := by
  obtain ⟨d, F1, F2, hA, hB, hD, hF⟩ : Tw w b F (b2, m1, m2) := h.res 0
  refine ⟨F2, h.heap, h.apart, h.mine, fun e he hk => ?_, AllAr.one hB, h.fr.to (fun k hk => .inl hk) (fun k hk => ?_)⟩
  · exact h.free e he (.inl ((hF _).2 (.inr (hk.elim id (fun q => q.elim)))))
  · exact h.fr.foot k (.inl ((hF _).2 (.inr (hk.elim id (fun q => q.elim)))))

theorem ar_cloneT {w w' : World} {b b' bp' : Nat} {F Fq : Nat → Prop} {m : AM} {d : Lie} {TA TP : TypeId} {pb : Nat → Nat} {no' : Nat → Prop} (hd : ArAt w ⟨b, F, m⟩ d) (h1 : HE.holds w' b' (.cells (headV bp' m.cap d.bw d.ow d.nw d.cw (countTo m.com m.cap) m.armed m.refuse) TA)) (h2 : HE.holds w' bp' (.row TP m.cap m.cap (pagesV (comC m.com m.cap) pb 0)))
    (hp : (pgR 0 Fq ⟨m.cap, comC m.com m.cap, m.mem, pb⟩).R w') (hf : Fr w w' no no') (e1 : b' ≠ bp') (n1 : ¬ Fq b') (n2 : ¬ Fq bp') (f1 : w.heap.size ≤ b') (f2 : w.heap.size ≤ bp') (f3 : ∀ k, Fq k → w.heap.size ≤ k) : ∃ F', (twR b F' (b', m, m)).R w' ∧ Fr w w' F F' := by
  have hbw : d.bw < w.heap.size := by obtain ⟨c, T, fz, hc, _⟩ := hd.words; exact lt_of_some hc
  have hF : F d.bw := (hd.foot _).2 (.inr (.inr (.inl rfl)))
  have P : PgAt w' Fq ⟨m.cap, comC m.com m.cap, m.mem, pb⟩ := hp
  obtain ⟨c3, T, fz, k5, k6⟩ := hd.words
  have hcc : ∀ i, i < m.cap → comC m.com m.cap i = m.com i := fun i hi => by unfold comC; simp [hi]
  have hB : Ar w' ⟨b', fun k => k = b' ∨ k = bp' ∨ k = d.bw ∨ Fq k, m⟩ := by
    refine ⟨⟨bp', d.bw, d.ow, d.nw, d.cw, d.ws, pb, TA, TP⟩, h1, ?_, ?_, hd.set, fun i hi hc => ?_, e1, fun e => ?_, fun e => ?_, fun i hi hc => ⟨fun e => ?_, fun e => ?_, fun e => ?_⟩, fun i j hi hci hj hcj e => ?_, hd.capLe, hd.refuseLe, fun k => ?_⟩
    · obtain ⟨c, q1, q2, _, q4⟩ := h2
      refine ⟨c, q1, q2, fun i hi => ?_⟩
      rw [q4 i hi]
      unfold pagesV pageOf
      rw [Nat.sub_zero, hcc i hi]
    · exact ⟨c3, T, fz, (hf.block d.bw hbw (fun q => q)).trans k5, k6⟩
    · obtain ⟨T, hT⟩ := P.page i hi ((hcc i hi).trans hc)
      obtain ⟨c, q1, q2, _, q4⟩ := hT
      refine ⟨c, T, q1, q2, fun o ho => ?_⟩
      rw [q4 o ho]; unfold bytes; rw [Nat.sub_zero]
    · have : b' = d.bw := e; omega
    · have : bp' = d.bw := e; omega
    · exact n1 ((P.foot b').2 ⟨i, hi, (hcc i hi).trans hc, e.symm⟩)
    · exact n2 ((P.foot bp').2 ⟨i, hi, (hcc i hi).trans hc, e.symm⟩)
    · have := f3 _ ((P.foot (pb i)).2 ⟨i, hi, (hcc i hi).trans hc, rfl⟩)
      have e' : pb i = d.bw := e
      omega
    · exact P.inj i j hi ((hcc i hi).trans hci) hj ((hcc j hj).trans hcj) e
    · constructor
      · rintro (q | q | q | q)
        · exact .inl q
        · exact .inr (.inl q)
        · exact .inr (.inr (.inl q))
        · obtain ⟨i, hi, hc, q2⟩ := (P.foot k).1 q
          exact .inr (.inr (.inr ⟨i, hi, (hcc i hi).symm.trans hc, q2⟩))
      · rintro (q | q | q | ⟨i, hi, hc, q2⟩)
        · exact .inl q
        · exact .inr (.inl q)
        · exact .inr (.inr (.inl q))
        · exact .inr (.inr (.inr ((P.foot k).2 ⟨i, hi, (hcc i hi).trans hc, q2⟩)))
  have hA : ArAt w' ⟨b, F, m⟩ d := hd.congrD (fun k hk => hf.block k (Ar.lt (⟨d, hd⟩ : Ar w ⟨b, F, m⟩) hk) (fun q => q))
  have hlt : ∀ k, F k → k < w.heap.size := fun k hk => Ar.lt (⟨d, hd⟩ : Ar w ⟨b, F, m⟩) hk
  refine ⟨fun k => F k ∨ (k = b' ∨ k = bp' ∨ k = d.bw ∨ Fq k), ⟨d, F, _, hA, hB, fun k q1 q2 q3 => ?_, fun k => Iff.rfl⟩, hf.os, hf.tape, hf.output, hf.size, fun k hk _ => hf.block k hk (fun q => q), fun k hk => ?_⟩
  · have := hlt k q1
    rcases q3 with rfl | rfl | q3 | q3
    · omega
    · omega
    · exact q2 q3
    · have := f3 k q3; omega
  · rcases hk with hk | rfl | rfl | rfl | q
    · exact .inl hk
    · exact .inr f1
    · exact .inr f2
    · exact .inl hF
    · exact .inr (f3 k q)

/-- An arena of which is known where it lies. -/
def arD (b : Nat) (F : Nat → Prop) (q : AM × Lie) : Res := ⟨F, fun w => ArAt w ⟨b, F, q.1⟩ q.2, fun w h k hk => Ar.lt (⟨q.2, h⟩ : Ar w ⟨b, F, q.1⟩) hk, fun w w' h e => h.congrD e⟩
theorem WS.toD {c : Cx} {H : Heap} {w : World} {b : Nat} {F : Nat → Prop} {m : AM} (h : WS c H [arR b F m] w) : ∃ d, WS c H [arD b F (m, d)] w := by
  obtain ⟨d, hd⟩ : Ar w ⟨b, F, m⟩ := h.res 0
  exact ⟨d, h.heap, h.apart, h.mine, h.free, AllAr.one hd, h.fr⟩
theorem WS.ofD {c : Cx} {H : Heap} {w : World} {b : Nat} {F : Nat → Prop} {m : AM} {d : Lie} (h : WS c H [arD b F (m, d)] w) : WS c H [arR b F m] w :=
  ⟨h.heap, h.apart, h.mine, h.free, AllAr.one (⟨d, h.res 0⟩ : Ar w ⟨b, F, m⟩), h.fr⟩
end Go.Proofs.YtdjhdcaanmkblaaDoor.K
