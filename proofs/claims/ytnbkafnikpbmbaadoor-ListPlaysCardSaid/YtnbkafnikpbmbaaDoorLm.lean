/-
  Lists of lists: the lists in them as something that a walk holds; what the document says of lists.
-/
import Derived.Test.YtnbkafnikpbmbaaDoorSy
import Derived.Test.YtnbkafnikpbmbaaDoorGf
import Derived.Test.YtnbkafnikpbmbaaDoorNd
namespace Go.Proofs.YtnbkafnikpbmbaaDoor.K
set_option linter.unusedSimpArgs false
set_option linter.unusedVariables false

/-- A list in a list lies where it is said to lie. -/
def rgH (w : World) (h : HdI) : Prop := h.2.2.length = 0 ∨ ∃ g o, h.1 = some ⟨g, o, none⟩ ∧ HE.holds w g (.fn o (o + h.2.2.length) (ints h.2.2 o))
theorem rgH.keep {w w' : World} {h : HdI} {D' : Nat → Prop} (q : rgH w h) (hf : Fr w w' no D') : rgH w' h := by
  rcases q with q | ⟨g, o, h1, h2⟩
  · exact .inl q
  · exact .inr ⟨g, o, h1, h2.congr (hf.block _ h2.lt (fun q => q))⟩
theorem rgH.open {w : World} {h : HdI} (q : rgH w h) {b lo hi : Nat} {f : Nat → Value} (hk : HE.holds w b (.fn lo hi f)) : ∃ g o, (h.2.2.length = 0 ∨ h.1 = some ⟨g, o, none⟩) ∧ HE.holds w g (.fn o (o + h.2.2.length) (ints h.2.2 o)) := by
  rcases q with q | ⟨g, o, h1, h2⟩
  · exact ⟨b, 0, .inl q, HE.fn_none hk q⟩
  · exact ⟨g, o, .inr h1, h2⟩
def llF (q : List HdI) (k : Nat) : Prop := ∃ i, i < q.length ∧ (gtD q i).2.2.length ≠ 0 ∧ ∃ o, (gtD q i).1 = some ⟨k, o, none⟩
/-- All lists of a list lie where they are said to lie. -/
def llR (b : Nat) (F : Nat → Prop) (q : List HdI) : Res := ⟨llF q, fun w => ∀ i, i < q.length → rgH w (gtD q i), fun w h k ⟨i, hi, h0, o, ho⟩ => by
  rcases h i hi with e | ⟨g, o2, h1, h2⟩
  · exact absurd e h0
  · rw [ho] at h1; cases h1; exact h2.lt, fun w w' h he i hi => by
  rcases h i hi with e | ⟨g, o2, h1, h2⟩
  · exact .inl e
  · by_cases h0 : (gtD q i).2.2.length = 0
    · exact .inl h0
    · exact .inr ⟨g, o2, h1, h2.congr (he g ⟨i, hi, h0, o2, h1⟩)⟩⟩

section
variable {P : Program} {c : Cx} {n : Nat} {E : Env} {H : Heap} {A : List Res} {a : Act} {w : World}
theorem WS.llNew (h : WS c H A w) (b : Nat) (F : Nat → Prop) (q : List HdI) (hq : ∀ i, i < q.length → (gtD q i).2.2.length = 0) : WS c H (A ++ [llR b F q]) w :=
  h.newA (r := llR b F q) (fun i hi => .inl (hq i hi)) ((Fr.refl w no).to (fun k hk => hk.elim) (fun k hk => by obtain ⟨i, hi, h0, _⟩ := hk; exact absurd (hq i hi) h0))
theorem WS.llGet (h : WS c H A w) (j : Nat) {b : Nat} {F : Nat → Prop} {q : List HdI} (hj : A[j]? = some (llR b F q) := by rfl) : ∀ i, i < q.length → rgH w (gtD q i) := h.ars.each _ (List.mem_of_getElem? hj)
/-- A block that comes out beside something that is held from now on. -/
theorem WS.outA1 {r : Res} {w' : World} (h : WS c H A w) (hN : r.R w') (hF : Fr w w' no r.F) {g : Nat} {x : HE} (ho : x.own = false) (hh : x.holds w' g) (hog : (∃ (i : Nat) (y : HE), H[i]? = some (g, y) ∧ y.own = false) ∨ w.heap.size ≤ g) (hnf : ¬ r.F g) : WS c (H ++ [(g, x)]) (A ++ [r]) w' := by
  refine (h.newA hN hF).add hh (fun q => by rw [ho] at q; cases q) (fun hin => ?_) (fun e he hoe e1 => ?_)
  · obtain ⟨s, hs, hk⟩ := inF_iff.1 hin
    rcases List.mem_append.1 hs with hs | hs
    · rcases hog with ⟨i, y, hi, _⟩ | hg
      · exact h.free _ (List.mem_of_getElem? hi) (inF_iff.2 ⟨s, hs, hk⟩)
      · have := h.ars.lt (inF_iff.2 ⟨s, hs, hk⟩); omega
    · obtain rfl := List.mem_singleton.1 hs; exact hnf hk
  · have hoe : e.2.own = true := hoe.resolve_left (fun q => by rw [ho] at q; cases q)
    rcases hog with ⟨i, y, hi, hy⟩ | hg
    · obtain ⟨j, hj⟩ := List.getElem?_of_mem he
      have hne : j ≠ i := fun q => by
        subst q
        rw [hi] at hj
        cases hj
        rw [hy] at hoe; cases hoe
      exact pairwise_get h.apart hne hj hi (.inl hoe) e1
    · have := (h.heap e he).lt; omega
/-- A list of its own becomes one of the lists. -/
theorem WS.llTurn {r : Res} {b e k cp : Nat} {F F2 : Nat → Prop} {q q2 : List HdI} {ao : Option Addr} {nl : List Int} (h : WS c H [r, llR b F q, grR e 1 (.slice ao nl.length cp) F2 (nl.length, ints nl 0)] w) (hq : q2 = q ∨ q2 = q.set k (ao, cp, nl)) (F' : Nat → Prop) : WS c H [r, llR b F' q2] w := by
  rcases hq with rfl | rfl
  · have h2 := h.forget 2
    exact ⟨h2.heap, h2.apart, h2.mine, h2.free, h2.ars, h2.fr⟩
  have hr := h.ars.each r (by simp)
  have hl : ∀ i, i < q.length → rgH w (gtD q i) := h.llGet 1
  have hg : GrV e 1 w (.slice ao nl.length cp) F2 nl.length (ints nl 0) := h.ars.each (grR e 1 (.slice ao nl.length cp) F2 (nl.length, ints nl 0)) (by simp)
  have ap := h.ars.apart
  rw [List.pairwise_cons, List.pairwise_cons] at ap
  have hn : nl.length = 0 ∨ ∃ g, ao = some ⟨g, 0, none⟩ ∧ HE.holds w g (.fn 0 (0 + nl.length) (ints nl 0)) ∧ F2 g := by
    rcases hg with ⟨_, h0, _⟩ | ⟨g, cap, hv, h0, hh, hle, hF⟩
    · exact .inl h0
    · exact .inr ⟨g, by cases hv; rfl, HE.row_to hh (by omega) (fun _ _ => rfl), (hF g).2 rfl⟩
  have hR : ∀ i, i < (q.set k (ao, cp, nl)).length → rgH w (gtD (q.set k (ao, cp, nl)) i) := fun i hi => by
    rw [List.length_set] at hi
    by_cases e : i = k
    · subst e
      have : gtD (q.set i (ao, cp, nl)) i = (ao, cp, nl) := by unfold gtD; rw [List.getD_eq_getElem?_getD, List.getElem?_set_self hi]; rfl
      rw [this]
      rcases hn with h0 | ⟨g, h1, h2, _⟩
      · exact .inl h0
      · exact .inr ⟨g, 0, h1, h2⟩
    · have : gtD (q.set k (ao, cp, nl)) i = gtD q i := by unfold gtD; rw [List.getD_eq_getElem?_getD, List.getD_eq_getElem?_getD, List.getElem?_set_ne (fun q => e q.symm)]
      rw [this]; exact hl i hi
  have hF : ∀ x, llF (q.set k (ao, cp, nl)) x → llF q x ∨ F2 x := fun x hx => by
    obtain ⟨i, hi, h0, o, ho⟩ := hx
    rw [List.length_set] at hi
    by_cases e : i = k
    · subst e
      have : gtD (q.set i (ao, cp, nl)) i = (ao, cp, nl) := by unfold gtD; rw [List.getD_eq_getElem?_getD, List.getElem?_set_self hi]; rfl
      rw [this] at h0 ho
      rcases hn with h1 | ⟨g, h1, h2, h3⟩
      · exact absurd h1 h0
      · right
        have h1' : (some ⟨g, 0, none⟩ : Option Addr) = some ⟨x, o, none⟩ := h1.symm.trans ho
        cases h1'; exact h3
    · have : gtD (q.set k (ao, cp, nl)) i = gtD q i := by unfold gtD; rw [List.getD_eq_getElem?_getD, List.getD_eq_getElem?_getD, List.getElem?_set_ne (fun q => e q.symm)]
      rw [this] at h0 ho
      exact .inl ⟨i, hi, h0, o, ho⟩
  have hin : ∀ x, inF [r, llR b F' (q.set k (ao, cp, nl))] x → inF [r, llR b F q, grR e 1 (.slice ao nl.length cp) F2 (nl.length, ints nl 0)] x := fun x hx => by
    rcases hx with hx | hx | hx
    · exact .inl hx
    · rcases hF x hx with q | q
      · exact .inr (.inl q)
      · exact .inr (.inr (.inl q))
    · exact hx.elim
  refine ⟨h.heap, h.apart, h.mine, fun e' he hk => h.free e' he (hin _ hk), ⟨fun s hs => ?_, ?_⟩, h.fr.to (fun k hk => .inl hk) (fun k hk => h.fr.foot k (hin k hk))⟩
  · rcases List.mem_cons.1 hs with rfl | hs
    · exact hr
    · obtain rfl := List.mem_singleton.1 hs
      exact hR
  · rw [List.pairwise_cons]
    refine ⟨fun s hs x hx hy => ?_, List.pairwise_singleton _ _⟩
    obtain rfl := List.mem_singleton.1 hs
    rcases hF x hy with q | q
    · exact ap.1 (llR b F _) (List.mem_cons_self) x hx q
    · exact ap.1 (grR e 1 (.slice ao nl.length cp) F2 (nl.length, ints nl 0)) (by simp) x hx q
end

theorem ints_app1 (L : List Int) (a : Int) : ∀ x, x < (L.length + 1) * 1 → appF (ints L 0) (L.length * 1) [vi a] x = ints (L ++ [a]) 0 x := by
  intro x hx
  unfold appF ints
  simp only [Nat.mul_one, Nat.sub_zero]
  by_cases h : x < L.length
  · rw [if_pos h, List.getD_eq_getElem?_getD, List.getD_eq_getElem?_getD, List.getElem?_append_left h]
  · rw [if_neg h]
    rw [List.getD_eq_getElem?_getD, List.getD_eq_getElem?_getD, List.getElem?_append_right (by omega)]
    obtain q : x - L.length = 0 := by omega
    rw [q]; rfl

/-! ## What the document says of lists -/
def Qf (l : List HdI) (k : Nat) : List Int := (gtD l k).2.2
theorem Qf_out {l : List HdI} {k : Nat} (h : l.length ≤ k) : Qf l k = [] := by
  unfold Qf gtD; rw [List.getD_eq_getElem?_getD, List.getElem?_eq_none h]; rfl
theorem Qf_set (l : List HdI) (k : Nat) (h : HdI) (hk : k < l.length) : Qf (l.set k h) = updQ (Qf l) k h.2.2 := by
  funext i
  unfold updQ Qf gtD
  rw [List.getD_eq_getElem?_getD, List.getD_eq_getElem?_getD]
  by_cases e : i = k
  · subst e; rw [if_pos rfl, List.getElem?_set_self hk]; rfl
  · rw [if_neg e, List.getElem?_set_ne (fun q => e q.symm)]
def rchk (l : List HdI) (k : Int) : Int := if k < 0 ∨ (l.length : Int) ≤ k then 3 else 0
theorem rchk_no {l : List HdI} {k : Int} (h : k < 0 ∨ (l.length : Int) ≤ k) : 3 = rchk l k := by unfold rchk; rw [if_pos h]
theorem rchk_yes {l : List HdI} {k : Int} (h : ¬ (k < 0 ∨ (l.length : Int) ≤ k)) : 0 = rchk l k := by unfold rchk; rw [if_neg h]
theorem rchk_in {l : List HdI} {k : Int} (h : rchk l k = 0) : 0 ≤ k ∧ k < (l.length : Int) := by unfold rchk at h; split at h <;> omega
theorem rchk_out {l : List HdI} {k : Int} (h : rchk l k ≠ 0) : rchk l k = 3 ∧ (k < 0 ∨ (l.length : Int) ≤ k) := by unfold rchk at h ⊢; split at h <;> simp_all
def hasM (L : List Int) (a : Int) : Bool := decide (a ∈ L)
theorem hasM_yes {L : List Int} {a x : Int} (h0 : 0 ≤ x) (hx : x < (L.length : Int)) (h : L.getD x.toNat 0 = a) : true = hasM L a := by
  symm; unfold hasM; rw [decide_eq_true_iff, ← h]; exact getD_mem0 (by omega)
theorem hasM_no {L : List Int} {a x : Int} (hx : (L.length : Int) ≤ x) (h : ∀ j : Nat, (j : Int) < x → L.getD j 0 ≠ a) : false = hasM L a := by
  symm; unfold hasM; rw [decide_eq_false_iff_not]
  intro hm
  obtain ⟨j, hj, e⟩ := List.mem_iff_getElem.1 hm
  exact h j (by omega) (by rw [List.getD_eq_getElem?_getD, List.getElem?_eq_getElem hj]; exact e)
theorem hasM_step {L : List Int} {a x : Int} (h : ∀ j : Nat, (j : Int) < x → L.getD j 0 ≠ a) (h0 : 0 ≤ x) (hn : L.getD x.toNat 0 ≠ a) : ∀ j : Nat, (j : Int) < x + 1 → L.getD j 0 ≠ a := fun j hj => by
  rcases (by omega : (j : Int) < x ∨ j = x.toNat) with q | rfl
  · exact h j q
  · exact hn
def rHas (l : List HdI) (k a : Int) : Bool := if rchk l k = 0 then hasM (Qf l k.toNat) a else false
theorem rHas_no {l : List HdI} {k a : Int} (h : rchk l k ≠ 0) : false = rHas l k a := by unfold rHas; rw [if_neg h]
theorem rHas_in {l : List HdI} {k a : Int} (h : rchk l k = 0) : rHas l k a = hasM (Qf l k.toNat) a := by unfold rHas; rw [if_pos h]
def rAddE (l : List HdI) (k a : Int) (th : Bool) : Int := if rchk l k ≠ 0 then 3 else if a < 1 then 2 else if th = false then 3 else if hasM (Qf l k.toNat) a = true then 9 else 0
def rAddN (l : List HdI) (k a : Int) (th : Bool) : List Int := if rAddE l k a th = 0 then insL (Qf l k.toNat) a else []
def rRemE (l : List HdI) (k a : Int) : Int := if rchk l k ≠ 0 then 3 else if hasM (Qf l k.toNat) a = true then 0 else 8
def rRemN (l : List HdI) (k a : Int) : List Int := if rRemE l k a = 0 then (Qf l k.toNat).filter (fun x => decide (x ≠ a)) else []
def rSetL (l : List HdI) (k e : Int) (h : HdI) : List HdI := if e = 0 then l.set k.toNat h else l
theorem rSetL_no {l : List HdI} {k e : Int} {h : HdI} (he : e ≠ 0) : l = rSetL l k e h := by unfold rSetL; rw [if_neg he]
theorem rSetL_yes {l : List HdI} {k e : Int} {h : HdI} (he : e = 0) : l.set k.toNat h = rSetL l k e h := by unfold rSetL; rw [if_pos he]
/-- with: the lists up to a place, with another one. -/
theorem wi_step {l lq : List HdI} {h : HdI} {k x : Int} {v : HdI} (i1 : lq = (l.set k.toNat h).take x.toNat) (h0 : 0 ≤ x) (h1 : x < (l.length : Int)) (hk : 0 ≤ k) (hv : (x = k ∧ v = h) ∨ (x ≠ k ∧ v = gtD l x.toNat)) : lq ++ [v] = (l.set k.toNat h).take (x + 1).toNat := by
  rw [show (x + 1).toNat = x.toNat + 1 by omega, List.take_add_one, ← i1]
  congr 1
  rcases hv with ⟨e, rfl⟩ | ⟨e, rfl⟩
  · subst e; rw [List.getElem?_set_self (by omega)]; rfl
  · rw [List.getElem?_set_ne (by omega), gtD_lt (show x.toNat < l.length by omega), List.getElem?_eq_getElem (show x.toNat < l.length by omega)]; rfl
/-- Insertion, up to a place. -/
def AddI (L : List Int) (a : Int) (x : Nat) (d : Bool) (lq : List Int) : Prop := x ≤ L.length ∧ ((d = false ∧ lq = L.take x ∧ x ≤ cntL L a) ∨ (d = true ∧ cntL L a < x ∧ lq = (L.take (cntL L a) ++ [a]) ++ (L.take x).drop (cntL L a)))
theorem addI_0 (L : List Int) (a : Int) : AddI L a 0 false [] := ⟨Nat.zero_le _, .inl ⟨rfl, by simp, Nat.zero_le _⟩⟩
theorem getD_lt {L : List Int} {j : Nat} (h : j < L.length) : L.getD j 0 = L[j] := by rw [List.getD_eq_getElem?_getD, List.getElem?_eq_getElem h]; rfl
theorem take_snoc {L : List Int} {x : Int} (h0 : 0 ≤ x) (h1 : x < (L.length : Int)) : L.take x.toNat ++ [L.getD x.toNat 0] = L.take (x + 1).toNat := by
  rw [show (x + 1).toNat = x.toNat + 1 by omega, List.take_add_one, List.getElem?_eq_getElem (show x.toNat < L.length by omega), getD_lt (show x.toNat < L.length by omega)]; rfl
theorem cnt_no {L : List Int} {a : Int} (hn : hasM L a = false) {j : Nat} (hj : j < L.length) : (j < cntL L a → L.getD j 0 < a) ∧ (j = cntL L a → a < L.getD j 0) := by
  obtain ⟨⟨_, u1⟩, u2⟩ := cntL_up L a
  refine ⟨fun h => u1 j h, fun h => ?_⟩
  have hne : L.getD j 0 ≠ a := fun e => by
    have : hasM L a = true := by unfold hasM; rw [decide_eq_true_iff, ← e]; exact getD_mem0 hj
    rw [hn] at this; cases this
  rcases u2 with u2 | u2
  · omega
  · rw [← h] at u2; omega
theorem addI_a {L lq : List Int} {a x : Int} (hn : hasM L a = false) (i : AddI L a x.toNat false lq) (h0 : 0 ≤ x) (h1 : x < (L.length : Int)) (hg : a < L.getD x.toNat 0) : AddI L a (x + 1).toNat true (lq ++ [a] ++ [L.getD x.toNat 0]) := by
  obtain ⟨hx, ⟨_, rfl, hc⟩ | ⟨e, _⟩⟩ := i
  · have hce : x.toNat = cntL L a := by
      rcases Nat.lt_or_ge x.toNat (cntL L a) with q | q
      · have := (cnt_no hn (show x.toNat < L.length by omega)).1 q; omega
      · omega
    refine ⟨by omega, .inr ⟨rfl, by omega, ?_⟩⟩
    rw [← hce, ← take_snoc h0 h1]
    congr 1
    have hl : (L.take x.toNat).length = x.toNat := by rw [List.length_take]; omega
    rw [List.drop_append_of_le_length (by omega), List.drop_of_length_le (by omega)]
    rfl
  · cases e
theorem addI_b {L lq : List Int} {a x : Int} (i : AddI L a x.toNat true lq) (h0 : 0 ≤ x) (h1 : x < (L.length : Int)) : AddI L a (x + 1).toNat true (lq ++ [L.getD x.toNat 0]) := by
  obtain ⟨hx, ⟨e, _⟩ | ⟨_, hc, rfl⟩⟩ := i
  · cases e
  · refine ⟨by omega, .inr ⟨rfl, by omega, ?_⟩⟩
    rw [← take_snoc h0 h1, List.drop_append_of_le_length (by rw [List.length_take]; omega), List.append_assoc]
theorem addI_c {L lq : List Int} {a x : Int} (hn : hasM L a = false) (i : AddI L a x.toNat false lq) (h0 : 0 ≤ x) (h1 : x < (L.length : Int)) (hg : ¬ a < L.getD x.toNat 0) : AddI L a (x + 1).toNat false (lq ++ [L.getD x.toNat 0]) := by
  obtain ⟨hx, ⟨_, rfl, hc⟩ | ⟨e, _⟩⟩ := i
  · refine ⟨by omega, .inl ⟨rfl, take_snoc h0 h1, ?_⟩⟩
    rcases Nat.lt_or_ge x.toNat (cntL L a) with q | q
    · omega
    · exact absurd ((cnt_no hn (show x.toNat < L.length by omega)).2 (by omega)) hg
  · cases e
theorem addI_end {L lq : List Int} {a x : Int} (i : AddI L a x.toNat true lq) (h1 : (L.length : Int) ≤ x) : lq = insL L a := by
  obtain ⟨hx, ⟨e, _⟩ | ⟨_, hc, rfl⟩⟩ := i
  · cases e
  · rw [List.take_of_length_le (show L.length ≤ x.toNat by omega)]; unfold insL; simp
theorem addI_end0 {L lq : List Int} {a x : Int} (i : AddI L a x.toNat false lq) (h1 : (L.length : Int) ≤ x) : lq ++ [a] = insL L a := by
  obtain ⟨hx, ⟨_, rfl, hc⟩ | ⟨e, _⟩⟩ := i
  · have hl := cntL_le L a
    unfold insL
    rw [List.take_of_length_le (show L.length ≤ x.toNat by omega), show cntL L a = L.length by omega, List.take_length, List.drop_length]
  · cases e
theorem addI_y {L lq : List Int} {a x : Int} {d : Bool} (hn : hasM L a = false) (i : AddI L a x.toNat d lq) (h0 : 0 ≤ x) (h1 : x < (L.length : Int)) (hg : ((!d) && decide (a < L.getD x.toNat 0)) = true) : AddI L a (x + 1).toNat true ((lq ++ [a]) ++ [L.getD x.toNat 0]) := by
  cases d
  · exact addI_a hn i h0 h1 (by simpa using hg)
  · simp at hg
theorem addI_n {L lq : List Int} {a x : Int} {d : Bool} (hn : hasM L a = false) (i : AddI L a x.toNat d lq) (h0 : 0 ≤ x) (h1 : x < (L.length : Int)) (hg : ((!d) && decide (a < L.getD x.toNat 0)) = false) : AddI L a (x + 1).toNat d (lq ++ [L.getD x.toNat 0]) := by
  cases d
  · exact addI_c hn i h0 h1 (by simpa using hg)
  · exact addI_b i h0 h1
theorem addI_len {L lq : List Int} {a : Int} {x : Nat} {d : Bool} (i : AddI L a x d lq) : lq.length ≤ L.length + 1 := by
  obtain ⟨hx, ⟨_, rfl, hc⟩ | ⟨_, hc, rfl⟩⟩ := i
  · rw [List.length_take]; omega
  · simp only [List.length_append, List.length_take, List.length_drop, List.length_singleton]; omega
theorem fil_yes {L lq : List Int} {a x : Int} (i1 : lq = (L.take x.toNat).filter (fun y => decide (y ≠ a))) (h0 : 0 ≤ x) (h1 : x < (L.length : Int)) (hg : L.getD x.toNat 0 ≠ a) : lq ++ [L.getD x.toNat 0] = (L.take (x + 1).toNat).filter (fun y => decide (y ≠ a)) := by
  rw [← take_snoc h0 h1, List.filter_append, ← i1]; simp only [List.filter_cons, List.filter_nil, decide_eq_true hg, if_true]
theorem fil_no {L lq : List Int} {a x : Int} (i1 : lq = (L.take x.toNat).filter (fun y => decide (y ≠ a))) (h0 : 0 ≤ x) (h1 : x < (L.length : Int)) (hg : L.getD x.toNat 0 = a) : lq = (L.take (x + 1).toNat).filter (fun y => decide (y ≠ a)) := by
  rw [← take_snoc h0 h1, List.filter_append, ← i1, hg]; simp
/-- Of members that rise: what is left where one goes. -/
theorem fil_rem : ∀ {L : List Int} {a : Int}, L.Pairwise (· < ·) → a ∈ L → L.filter (fun y => decide (y ≠ a)) = remL L a
  | [], a, _, h => by cases h
  | y :: L, a, hp, h => by
    rw [List.pairwise_cons] at hp
    by_cases e : y = a
    · subst e
      have hc : cntL (y :: L) y = 0 := by unfold cntL; rw [List.takeWhile_cons]; simp
      unfold remL
      rw [hc]
      simp only [List.filter_cons, ne_eq, not_true_eq_false, decide_false, if_false, List.take_zero, List.nil_append, Nat.zero_add, List.drop_succ_cons, List.drop_zero, Bool.false_eq_true]
      exact List.filter_eq_self.2 fun x hx => by have := hp.1 x hx; simp; omega
    · have hm : a ∈ L := (List.mem_cons.1 h).resolve_left (fun q => e q.symm)
      have hlt := hp.1 a hm
      have hc : cntL (y :: L) a = cntL L a + 1 := by unfold cntL; rw [List.takeWhile_cons]; simp [hlt]
      have ih := fil_rem hp.2 hm
      unfold remL at ih ⊢
      rw [hc, List.filter_cons, if_pos (by simpa using e), ih]
      simp
theorem hasM_has {L : List Int} {a : Int} (hr : L.Pairwise (· < ·)) (hp : ∀ a, a ∈ L → 0 < a ∧ a ≤ 4611686018427387904) : hasL L a = hasM L a := by
  unfold hasM
  cases hb : hasL L a with
  | true => rw [eq_comm, decide_eq_true_iff]; exact (hasL_iff hr hp).1 hb
  | false => rw [eq_comm, decide_eq_false_iff_not]; exact fun q => by rw [(hasL_iff hr hp).2 q] at hb; cases hb

/-! ## The play -/
structure LsT (m : AM) (z : Int) (l : List HdI) (b : Nat) : Prop where
  lq : LQ m 64 z l.length (Qf l)
  hz : z = 8 * (l.length : Int) + 3
  n12 : l.length ≤ 12
  cap : m.cap = lBase.cap
  com : m.com = lBase.com
  at16 : ∀ k a, a ∈ Qf l k → ∃ t : Nat, a = 4096 + 16 * (t : Int)
  len : ∀ k, (Qf l k).length ≤ b
def qAddE (m : AM) (z : Int) (l : List HdI) (k a : Int) : Int := if lchE z k = 0 then lsaE m (Qf l k.toNat) a else lchE z k
def qAddM (m : AM) (z : Int) (l : List HdI) (k a : Int) : AM := if lchE z k = 0 then lsaM m 64 z k (Qf l k.toNat) a else m
def qRemE (z : Int) (l : List HdI) (k a : Int) : Int := if lchE z k = 0 then lsrE (Qf l k.toNat) a else lchE z k
def qRemM (m : AM) (z : Int) (l : List HdI) (k a : Int) : AM := if lchE z k = 0 then lsrM m 64 z k (Qf l k.toNat) a else m
def qHas (z : Int) (l : List HdI) (k a : Int) : Bool := if lchE z k = 0 then hasL (Qf l k.toNat) a else false
section
variable {m : AM} {z : Int} {l : List HdI} {b : Nat}
theorem LsT.chk (h : LsT m z l b) (k : Int) : lchE z k = rchk l k := by
  have := h.hz; unfold lchE rchk
  by_cases e : k < 0 ∨ z / 8 ≤ k
  · rw [if_pos e, if_pos (by omega)]
  · rw [if_neg e, if_neg (by omega)]
theorem LsT.thr (h : LsT m z l b) {a n : Int} (q : 0 ≤ a ∧ 0 ≤ n ∧ a + n ≤ 8192) : thr m a n = true := (thr_same h.cap h.com a n).trans (lBase_thr q)
theorem LsT.ch (h : LsT m z l b) {k : Int} (hk : 0 ≤ k ∧ k < (l.length : Int)) : ChainL m 64 z k (Qf l k.toNat) := by
  have := h.lq.chain k.toNat (by omega); rwa [Int.toNat_of_nonneg hk.1] at this
theorem LsT.ps (h : LsT m z l b) (k : Int) : ∀ a, a ∈ Qf l k.toNat → 0 < a ∧ a ≤ 4611686018427387904 := fun a ha => by
  rcases Nat.lt_or_ge k.toNat l.length with q | q
  · exact h.lq.ps q a ha
  · rw [Qf_out q] at ha; cases ha
theorem LsT.rise (h : LsT m z l b) (k : Int) : (Qf l k.toNat).Pairwise (· < ·) := by
  rcases Nat.lt_or_ge k.toNat l.length with q | q
  · exact h.lq.rise _ q
  · rw [Qf_out q]; exact List.Pairwise.nil
theorem LsT.has (h : LsT m z l b) (k a : Int) : qHas z l k a = rHas l k a := by
  unfold qHas rHas; rw [h.chk, hasM_has (h.rise k) (h.ps k)]
theorem lThr_no (t : Nat) (h : ¬ (4096 + 16 * (t : Int) < 8192)) (ht : t < 512) : Go.Proofs.YtnbkafnikpbmbaaDoor.K.thr lBase (4096 + 16 * (t : Int)) 16 = false := by
  have e1 : pg0 (4096 + 16 * (t : Int)) = 2 := by unfold pg0; omega
  have e2 : pgN (4096 + 16 * (t : Int)) 16 = 1 := by unfold pgN; omega
  have e : cntR lBase.com 2 1 = 0 := by decide +kernel
  unfold Go.Proofs.YtnbkafnikpbmbaaDoor.K.thr
  rw [e1, e2, e]
  simp
theorem LsT.more (h : LsT m z l b) {b' : Nat} (hb : b ≤ b') : LsT m z l b' := ⟨h.lq, h.hz, h.n12, h.cap, h.com, h.at16, fun k => Nat.le_trans (h.len k) hb⟩
theorem LsT.zero {n : Nat} (hn : n ≤ 12) : LsT lBase (8 * (n : Int) + 3) (List.replicate n ((none, 0, []) : HdI)) 0 := by
  have hQ : Qf (List.replicate n ((none, 0, []) : HdI)) = fun _ => [] := by
    funext k; unfold Qf gtD; rw [List.getD_eq_getElem?_getD]
    rcases Nat.lt_or_ge k n with q | q
    · rw [List.getElem?_replicate, if_pos q]; rfl
    · rw [List.getElem?_eq_none (by simpa using q)]; rfl
  refine ⟨?_, by rw [List.length_replicate], by rw [List.length_replicate]; exact hn, rfl, rfl, fun k a ha => ?_, fun k => ?_⟩
  · rw [hQ, List.length_replicate]; exact lq_zero (by omega)
  · rw [hQ] at ha; cases ha
  · rw [hQ]; exact Nat.le_refl _
/-- A member goes. -/
theorem LsT.rem (h : LsT m z l b) (k a : Int) (ao : Option Addr) (cp : Nat) : qRemE z l k a = rRemE l k a ∧ LsT (qRemM m z l k a) z (rSetL l k (rRemE l k a) (ao, cp, rRemN l k a)) b := by
  unfold qRemE qRemM rRemN rRemE
  rw [h.chk]
  by_cases hk : rchk l k = 0
  · have hki := rchk_in hk
    simp only [hk, if_true, ne_eq, not_true_eq_false, if_false]
    have hd := h.lq.del (k := k.toNat) (by omega) a
    rw [Int.toNat_of_nonneg hki.1] at hd
    have hc := lsrM_com m 64 z k (Qf l k.toNat) a
    have hh : hasM (Qf l k.toNat) a = (lsrE (Qf l k.toNat) a == 0) := by rw [← hasM_has (h.rise k) (h.ps k), lsr_has]
    by_cases e : lsrE (Qf l k.toNat) a = 0
    · have hm : hasM (Qf l k.toNat) a = true := by rw [hh, e]; rfl
      rw [if_pos hm, e]
      refine ⟨rfl, ?_⟩
      rw [← rSetL_yes rfl, if_pos rfl]
      have hf := fil_rem (h.rise k) (of_decide_eq_true hm)
      have hQ := Qf_set l k.toNat (ao, cp, (Qf l k.toNat).filter fun x => decide (x ≠ a)) (by omega)
      have hdl : delL (Qf l k.toNat) a = remL (Qf l k.toNat) a := by unfold delL; rw [if_pos e]
      refine ⟨?_, by rw [List.length_set]; exact h.hz, by rw [List.length_set]; exact h.n12, hc.1.trans h.cap, hc.2.trans h.com, fun k' x hx => ?_, fun k' => ?_⟩
      · rw [hQ, List.length_set]
        rw [hdl] at hd
        simp only [hf]
        exact hd
      · rw [hQ] at hx
        unfold updQ at hx
        split at hx
        · exact h.at16 _ x (List.mem_filter.1 hx).1
        · exact h.at16 _ x hx
      · rw [hQ]; unfold updQ; split
        · exact Nat.le_trans (List.length_filter_le _ _) (h.len _)
        · exact h.len _
    · have hm : hasM (Qf l k.toNat) a = false := by rw [hh]; simpa using e
      have h8 : lsrE (Qf l k.toNat) a = 8 := by unfold lsrE at e ⊢; split at e <;> simp_all
      have hM : lsrM m 64 z k (Qf l k.toNat) a = m := by unfold lsrM; rw [if_neg e]
      rw [hm, h8, hM]
      refine ⟨rfl, ?_⟩
      rw [if_neg (by decide), ← rSetL_no (by decide)]
      exact h
  · obtain ⟨e, _⟩ := rchk_out hk
    rw [if_neg hk, if_neg hk, if_pos hk, ← rSetL_no (by decide)]
    exact ⟨e, h⟩
/-- A member comes, that is in no other list. -/
theorem LsT.add (h : LsT m z l b) (k : Int) {a : Int} {t : Nat} (ha : a = 4096 + 16 * (t : Int)) (ht : t < 512) (hel : ∀ k' : Nat, k' < l.length → (k' : Int) ≠ k → rHas l (k' : Int) a = false) (ao : Option Addr) (cp : Nat) :
    qAddE m z l k a = rAddE l k a (decide (a < 8192)) ∧ LsT (qAddM m z l k a) z (rSetL l k (rAddE l k a (decide (a < 8192))) (ao, cp, rAddN l k a (decide (a < 8192)))) (b + 1) := by
  unfold qAddE qAddM rAddN rAddE
  rw [h.chk]
  by_cases hk : rchk l k = 0
  · have hki := rchk_in hk
    simp only [hk, if_true, ne_eq, not_true_eq_false, if_false]
    rw [if_neg (show ¬ a < 1 by omega)]
    by_cases hth : a < 8192
    · rw [decide_eq_true hth, if_neg (show ¬ (true = false) by decide)]
      have hz := h.hz; have h12 := h.n12
      obtain ⟨e1, e2⟩ := h.lq.put (k := k.toNat) (at_ := a) (by omega) ⟨by omega, h.thr (by omega), by omega, by omega⟩ (fun k' hk' x hx => by
        by_cases e : k' = k.toNat
        · by_cases e2 : x = a
          · exact .inl ⟨e2, e⟩
          · obtain ⟨s, hs⟩ := h.at16 _ x hx; right; omega
        · right
          obtain ⟨s, hs⟩ := h.at16 _ x hx
          have hne : x ≠ a := fun q => by
            subst q
            have h1 := hel k' hk' (by omega)
            rw [rHas_in (show rchk l (k' : Int) = 0 by unfold rchk; rw [if_neg (by omega)])] at h1
            have h2 : hasM (Qf l (k' : Int).toNat) x = true := by unfold hasM; rw [decide_eq_true_iff]; exact hx
            rw [h2] at h1; cases h1
          omega)
      rw [Int.toNat_of_nonneg hki.1] at e2
      have hc := lj1_com2 m 64 z k (Qf l k.toNat) a
      have hms : hasM (Qf l k.toNat) a = true ↔ (Qf l k.toNat).getD (cntL (Qf l k.toNat) a) 0 = a := by
        rw [← hasM_has (h.rise k) (h.ps k)]; unfold hasL; simp; omega
      rw [e1]
      by_cases hm : (Qf l k.toNat).getD (cntL (Qf l k.toNat) a) 0 = a
      · rw [if_pos hm, if_pos (hms.2 hm)]
        refine ⟨rfl, ?_⟩
        rw [if_neg (by decide), ← rSetL_no (by decide)]
        have hM : lsaM m 64 z k (Qf l k.toNat) a = m := by
          have : lsaE m (Qf l k.toNat) a = 9 := by rw [e1, if_pos hm]
          unfold lsaM; rw [if_neg (by rw [this]; decide)]
        rw [hM]
        exact h.more (by omega)
      · rw [if_neg hm, if_neg (fun q => hm (hms.1 q))]
        refine ⟨rfl, ?_⟩
        rw [if_pos rfl, ← rSetL_yes rfl]
        have hQ := Qf_set l k.toNat (ao, cp, insL (Qf l k.toNat) a) (by omega)
        have hal : addL (Qf l k.toNat) a = insL (Qf l k.toNat) a := by unfold addL; rw [if_neg hm]
        refine ⟨?_, by rw [List.length_set]; exact h.hz, by rw [List.length_set]; exact h.n12, hc.1.trans h.cap, hc.2.trans h.com, fun k' x hx => ?_, fun k' => ?_⟩
        · rw [hQ, List.length_set]; rw [hal] at e2; exact e2
        · rw [hQ] at hx
          unfold updQ at hx
          split at hx
          · rcases insL_mem hx with q | q
            · exact ⟨t, q.trans ha⟩
            · exact h.at16 _ x q
          · exact h.at16 _ x hx
        · rw [hQ]; unfold updQ; split
          · rw [insL_len]; exact Nat.succ_le_succ (h.len _)
          · exact Nat.le_trans (h.len _) (Nat.le_succ _)
    · rw [decide_eq_false hth, if_pos rfl]
      have h3 : chkE m a 16 = 3 := by
        have : Go.Proofs.YtnbkafnikpbmbaaDoor.K.thr m a 16 = false := by
          rw [thr_same h.cap h.com a 16, ha]
          exact lThr_no t (by rw [← ha]; exact hth) ht
        exact chk_three this
      have hE : lsaE m (Qf l k.toNat) a = 3 := by unfold lsaE; rw [if_neg (by omega), if_pos (by rw [h3]; decide), h3]
      have hM : lsaM m 64 z k (Qf l k.toNat) a = m := by unfold lsaM; rw [if_neg (by rw [hE]; decide)]
      rw [hE, hM, if_neg (by decide), ← rSetL_no (by decide)]
      exact ⟨rfl, h.more (by omega)⟩
  · obtain ⟨e, _⟩ := rchk_out hk
    rw [if_neg hk, if_neg hk, if_pos hk, ← rSetL_no (by decide)]
    exact ⟨e, h.more (by omega)⟩
end
/-- The members of a list, or none where there is no such list. -/
def qL (l : List HdI) (k : Int) : List Int := if rchk l k = 0 then Qf l k.toNat else []
theorem qL_in {l : List HdI} {k : Int} (h : rchk l k = 0) : qL l k = (gtD l k.toNat).2.2 := by unfold qL; rw [if_pos h]; rfl
theorem qL_out {l : List HdI} {k : Int} (h : rchk l k ≠ 0) : qL l k = [] := by unfold qL; rw [if_neg h]
theorem rSetL_or (l : List HdI) (k e : Int) (h : HdI) : rSetL l k e h = l ∨ rSetL l k e h = l.set k.toNat h := by
  unfold rSetL; split
  · exact .inr rfl
  · exact .inl rfl
theorem ok_len {L : List Int} (hp : ∀ a, a ∈ L → 0 < a ∧ a ≤ 4611686018427387904) : ((List.getD L 0 0 : Int) != 0) = decide ((0 : Int) < ((L.length : Nat) : Int)) := by
  cases L with
  | nil => rfl
  | cons x L =>
    have := (hp x (List.mem_cons_self)).1
    show (x != 0) = _
    rw [decide_eq_true (by simp only [List.length_cons]; omega)]
    rw [bne_iff_ne]; omega
section
variable {m : AM} {z : Int} {l : List HdI} {b : Nat}
theorem LsT.psq (h : LsT m z l b) (k : Int) : ∀ a, a ∈ qL l k → 0 < a ∧ a ≤ 4611686018427387904 := fun a ha => by
  unfold qL at ha; split at ha
  · exact h.ps k a ha
  · cases ha
theorem LsT.lenq (h : LsT m z l b) (k : Int) : (qL l k).length ≤ b := by
  unfold qL; split
  · exact h.len _
  · exact Nat.zero_le _
theorem LsT.hB (h : LsT m z l b) (hb : b ≤ 4294967290) : ∀ k, (gtD l k).2.2.length ≤ 4294967290 := fun k => Nat.le_trans (h.len k) hb
theorem LsT.hki (h : LsT m z l b) {k : Int} (hc : lchE z k = 0) : (0 ≤ k ∧ k < (l.length : Int)) ∧ (0 ≤ k ∧ 8 * k + 8 ≤ z) := by
  have h1 := rchk_in ((h.chk k).symm.trans hc)
  have h2 := h.hz
  exact ⟨h1, by omega⟩
theorem LsT.qin (h : LsT m z l b) {k : Int} (hc : lchE z k = 0) : qL l k = Qf l k.toNat := by unfold qL; rw [if_pos ((h.chk k).symm.trans hc)]
theorem LsT.qout (h : LsT m z l b) {k : Int} (hc : lchE z k ≠ 0) : qL l k = [] := by unfold qL; rw [if_neg (fun q => hc ((h.chk k).trans q))]
end
/-- elsewhere: is a member in another one of the first lists? -/
def elsF (l : List HdI) (k a : Int) (x : Nat) : Bool := (List.range x).any fun j => decide ((j : Int) ≠ k) && rHas l (j : Int) a
theorem els_step (l : List HdI) (k a : Int) {x : Int} (h0 : 0 ≤ x) : elsF l k a (x + 1).toNat = (elsF l k a x.toNat || (decide (x ≠ k) && rHas l x a)) := by
  unfold elsF
  rw [show (x + 1).toNat = x.toNat + 1 by omega, List.range_succ, List.any_append]
  simp only [List.any_cons, List.any_nil, Bool.or_false, Int.toNat_of_nonneg h0]
theorem els_no {l : List HdI} {k a : Int} {x : Nat} (h : elsF l k a x = false) : ∀ k' : Nat, k' < x → (k' : Int) ≠ k → rHas l (k' : Int) a = false := fun k' hk' hne => by
  unfold elsF at h
  have := List.any_eq_false.1 h k' (List.mem_range.2 hk')
  simp only [Bool.and_eq_true, decide_eq_true_iff, not_and] at this
  simpa using this hne
end Go.Proofs.YtnbkafnikpbmbaaDoor.K
