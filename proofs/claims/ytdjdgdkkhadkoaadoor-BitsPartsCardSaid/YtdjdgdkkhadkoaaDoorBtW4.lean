import Derived.Test.YtdjdgdkkhadkoaaDoorBtW1
import Derived.Test.YtdjdgdkkhadkoaaDoorBtW2
import Derived.Test.YtdjdgdkkhadkoaaDoorBtW3
import Derived.Test.YtdjdgdkkhadkoaaDoorBt
import Derived.Test.YtdjdgdkkhadkoaaDoorKg
import Derived.Test.YtdjdgdkkhadkoaaDoorProg
namespace Go.Proofs.YtdjdgdkkhadkoaaDoor.K
set_option linter.unusedVariables false
set_option linter.unusedSimpArgs false

set_option maxRecDepth 100000 in
set_option maxHeartbeats 1000000 in
theorem slices_CloneW (g : Nat) (o : Nat) (c : Nat) (nw : Nat) (ws : Nat → Nat) (w : World) (hh0 : HE.holds w g (.fn o (o + nw) (u64s ws o))) (hb : nw ≤ 16384) :
    Calls Tryd.prog 38 #[.slice (some ⟨g, o, none⟩) nw c] w fun e w' => ∃ (g2 : Nat) (c2 : Nat) (tot2 : Nat), e = .returned (.slice (some ⟨g2, 0, none⟩) nw c2) ∧ w.heap.size ≤ g2 ∧ HE.holds w' g2 (.row 59 nw tot2 (u64s ws 0)) ∧ Fr w w' [] [] := by
  refine enter (args := [.slice (some ⟨g, o, none⟩) nw c]) (A := []) Tryd.func38 rfl 8 rfl [(g, .fn o (o + nw) (u64s ws o))] (WS.startL ⟨⟨rfl, hh0⟩, trivial⟩) fun ac hS => ?_
  refine St.region_seq [⟨0, 0, 0⟩] [0] [0] hS fun _ => ⟨[(0, [], .slice (some ⟨g, o, none⟩) nw c)], [(g, .fn o (o + nw) (u64s ws o))], [], by as_aux_lemma => kernel_rfl, trivial, fun ac wd hS => ?_⟩
  refine wp_seq ?_
  refine St.region_seq [⟨0, 0, 0⟩, ⟨0, 0, 0⟩] [0, 4] [0] hS fun _ => ⟨[(0, [], .slice (some ⟨g, o, none⟩) nw c), (4, [], .bool false)], [(g, .fn o (o + nw) (u64s ws o))], [], by as_aux_lemma => kernel_rfl, trivial, fun ac wd hS => ?_⟩
  refine St.cond (b := false) hS (by as_aux_lemma => kernel_rfl) (fun h => nomatch h) (fun _ => ?_)
  refine wp_skip ?_
  refine pop_then ?_
  refine wp_region_seq ?_
  refine St.ops 2 [⟨0, 0, 0⟩, ⟨0, 0, 0⟩] [5, 6] [0, 1] hS fun ν3 => ⟨[(5, [], .slice (some ⟨(ν3 0), 0, none⟩) 0 0), (6, [], .slice (some ⟨g, o, none⟩) nw c)], [(g, .fn o (o + nw) (u64s ws o)), ((ν3 0), .cells [] 59)], [], by as_aux_lemma => kernel_rfl, trivial, fun ac wd hS => ?_⟩
  obtain ⟨i_, hi_, hz_, hs_, hb_⟩ := info_get (P := Tryd.prog) (e := 59) (z := .int .u64 0) (s := 1) (b := 8) (by kernel_rfl)
  refine St.clone hS (.tmp 5) (.tmp 6) 24 rfl rfl (by as_aux_lemma => kernel_rfl) Tryd.underlying24 hi_ hz_ hs_ (by omega) (f' := u64s ws 0) 1 0 rfl rfl rfl rfl (by omega) (fun j _ => by unfold u64s; rw [Nat.add_sub_cancel_left, Nat.sub_zero]) [0] rfl (by decide) (by decide) rfl (by decide) fun g2 c3 t4 wd ac hm5 hS => ?_
  refine St.ops 1 [⟨0, 0, 0⟩] [2] [1] hS fun _ => ⟨[(2, [], .slice (some ⟨g2, 0, none⟩) nw c3)], [(g2, .row 59 nw t4 (u64s ws 0))], [], by as_aux_lemma => kernel_rfl, trivial, fun ac wd hS => ?_⟩
  refine list_nil_seq ?_
  refine wp_ret ?_
  refine St.ret 0 hS (v := .slice (some ⟨g2, 0, none⟩) nw c3) (obs := []) (by as_aux_lemma => kernel_rfl) trivial fun hw => ?_
  refine ⟨g2, c3, t4, retd rfl, hw.mine _ (List.mem_of_getElem? (i := 0) rfl) rfl, (hw.heap _ (List.mem_of_getElem? (i := 0) rfl)), hw.fr⟩

set_option maxRecDepth 100000 in
set_option maxHeartbeats 1000000 in
theorem bits_turn_with (g : Nat) (o : Nat) (c : Nat) (nw : Nat) (ws : Nat → Nat) (n : Nat) (f : Int) (k : Int) (p : Nat → Bool) (w : World) (hh0 : HE.holds w g (.fn o (o + nw) (u64s ws o))) (hW : Words ws nw n p) (hn : n ≤ 1048576) :
    Calls Tryd.prog 25 #[.agg #[.int .i64 ((n : Nat) : Int), .slice (some ⟨g, o, none⟩) nw c], .int .i64 f, .int .i64 k, .func (.func 26) #[] #[]] w fun e w' => ∃ (g2 : Nat) (o2 : Nat) (c2 : Nat) (ws2 : Nat → Nat), e = .returned (.tuple #[.agg #[.int .i64 ((n : Nat) : Int), .slice (some ⟨g2, o2, none⟩) nw c2], .int .i64 (trnE n f k)]) ∧ Words ws2 nw n (trn p n f k true) ∧ (g2 = g ∨ w.heap.size ≤ g2) ∧ HE.holds w' g2 (.fn o2 (o2 + nw) (u64s ws2 o2)) ∧ Fr w w' [] [] := by
  have hnw := hW.many
  have hsm := hW.small
  refine enter (args := [.agg #[.int .i64 ((n : Nat) : Int), .slice (some ⟨g, o, none⟩) nw c], .int .i64 f, .int .i64 k, .func (.func 26) #[] #[]]) (A := []) Tryd.func25 rfl 51 rfl [(g, .fn o (o + nw) (u64s ws o))] (WS.startL ⟨⟨rfl, hh0⟩, trivial⟩) fun ac hS => ?_
  refine St.region_seq [⟨0, 0, 0⟩, ⟨0, 0, 0⟩, ⟨0, 0, 0⟩] [1, 2, 3, 4, 8] [0, 1, 2] hS fun ν1 => ⟨[(1, [], .int .i64 f), (2, [], .int .i64 k), (3, [], .func (.func 26) #[] #[]), (4, [], .pointer (some ⟨(ν1 0), 0, none⟩)), (8, [], .pointer (some ⟨(ν1 1), 0, none⟩))], [(g, .fn o (o + nw) (u64s ws o)), ((ν1 0), .cells [.int .i64 ((n : Nat) : Int), .slice (some ⟨g, o, none⟩) nw c] 26), ((ν1 1), .cells [.int .i64 0, .slice none 0 0] 26)], [], by as_aux_lemma => kernel_rfl, trivial, fun ac wd hS => ?_⟩
  refine wp_seq ?_
  refine wp_region_seq ?_
  refine St.ops 3 [⟨0, 0, 1⟩, ⟨0, 0, 0⟩, ⟨0, 0, 0⟩] [1, 2, 3, 4, 8, 12, 13, 14] [0, 1, 2] hS fun _ => ⟨[(1, [], .int .i64 f), (2, [], .int .i64 k), (3, [], .func (.func 26) #[] #[]), (4, [], .pointer (some ⟨(ν1 0), 0, none⟩)), (8, [], .pointer (some ⟨(ν1 1), 0, none⟩)), (12, [], .agg #[.int .i64 ((n : Nat) : Int), .slice (some ⟨g, o, none⟩) nw c]), (13, [], .int .i64 f), (14, [], .int .i64 k)], [(g, .fn o (o + nw) (u64s ws o)), ((ν1 0), .cells [.int .i64 ((n : Nat) : Int), .slice (some ⟨g, o, none⟩) nw c] 26), ((ν1 1), .cells [.int .i64 0, .slice none 0 0] 26)], [(ν1 0) = (ν1 0), (ν1 0) = (ν1 0)], by as_aux_lemma => kernel_rfl, ⟨rfl, rfl, trivial⟩, fun ac wd hS => ?_⟩
  refine St.call 0 0 hS (f := 29) (args := #[.agg #[.int .i64 ((n : Nat) : Int), .slice (some ⟨g, o, none⟩) nw c], .int .i64 f, .int .i64 k]) (obs := []) (by as_aux_lemma => kernel_rfl) trivial (by as_aux_lemma => kernel_rfl) (bits_within g o c nw _ n f k _ (hS.mem.heap _ (List.mem_of_getElem? (i := 0) rfl)) (by first | assumption | omega | (simp_all; done) | (simp_all; omega))) ?_
  rintro _ wd ⟨rfl, hF⟩
  refine ⟨.bool (wth n f k), rfl, ?_⟩
  replace hS := St.put (d := 15) (v := .bool (wth n f k)) (hS.to (hS.mem.keep0 hF)) (by decide)
  clear hF
  refine St.ops 1 [⟨0, 0, 0⟩] [1, 2, 3, 4, 8, 16] [0, 1, 2] hS fun _ => ⟨[(1, [], .int .i64 f), (2, [], .int .i64 k), (3, [], .func (.func 26) #[] #[]), (4, [], .pointer (some ⟨(ν1 0), 0, none⟩)), (8, [], .pointer (some ⟨(ν1 1), 0, none⟩)), (16, [], .bool (!(wth n f k)))], [(g, .fn o (o + nw) (u64s ws o)), ((ν1 0), .cells [.int .i64 ((n : Nat) : Int), .slice (some ⟨g, o, none⟩) nw c] 26), ((ν1 1), .cells [.int .i64 0, .slice none 0 0] 26)], [], by as_aux_lemma => kernel_rfl, trivial, fun ac wd hS => ?_⟩
  refine list_nil_seq ?_
  refine St.cond (b := (!(wth n f k))) hS (by as_aux_lemma => kernel_rfl) (fun hb1 => ?_) (fun hb1 => ?_)
  · have hb1o := hb1
    try simp only [decide_eq_true_eq, decide_eq_false_iff_not, beq_iff_eq, bne_iff_ne, beq_eq_false_iff_ne, bne_eq_false_iff_eq, Bool.and_eq_true, Bool.or_eq_true, Bool.and_eq_false_iff, Bool.or_eq_false_iff, Bool.not_eq_true', Bool.not_eq_false', ne_eq, Int.not_lt, Int.not_le, Bool.true_and, Bool.false_and, Bool.and_true, Bool.and_false, Bool.or_true, Bool.or_false, Bool.true_or, Bool.false_or, Bool.not_true, Bool.not_false] at hb1
    refine St.region_seq [⟨0, 0, 1⟩, ⟨0, 0, 2⟩, ⟨0, 0, 0⟩] [8, 9] [0, 2] hS fun _ => ⟨[(8, [], .pointer (some ⟨(ν1 1), 0, none⟩)), (9, [], .int .i64 3)], [(g, .fn o (o + nw) (u64s ws o)), ((ν1 1), .cells [.int .i64 ((n : Nat) : Int), .slice (some ⟨g, o, none⟩) nw c] 26)], [(ν1 1) = (ν1 1), (ν1 1) = (ν1 1), (ν1 0) = (ν1 0), (ν1 0) = (ν1 0)], by as_aux_lemma => kernel_rfl, ⟨rfl, rfl, rfl, rfl, trivial⟩, fun ac wd hS => ?_⟩
    refine wp_ret ?_
    refine pop_then_ret ?_
    refine St.ret 1 hS (v := .tuple #[.agg #[.int .i64 ((n : Nat) : Int), .slice (some ⟨g, o, none⟩) nw c], .int .i64 3]) (obs := [(ν1 1) = (ν1 1), (ν1 1) = (ν1 1)]) (by as_aux_lemma => kernel_rfl) ⟨rfl, rfl, trivial⟩ fun hw => ?_
    refine ⟨g, o, c, ws, retd (tuple2 rfl (vint ?_)), ?_, (.inl rfl), (hw.heap _ (List.mem_of_getElem? (i := 0) rfl)), hw.fr⟩
    all_goals (first | rfl | exact trnE_no (by assumption) | exact trnE_yes (by assumption) | (rw [trn_no (by assumption)]; exact hW) | (rw [trn_yes (by assumption), show k.toNat = (x1 - f).toNat by omega]; exact i1))
  · have hb1o := hb1
    try simp only [decide_eq_true_eq, decide_eq_false_iff_not, beq_iff_eq, bne_iff_ne, beq_eq_false_iff_ne, bne_eq_false_iff_eq, Bool.and_eq_true, Bool.or_eq_true, Bool.and_eq_false_iff, Bool.or_eq_false_iff, Bool.not_eq_true', Bool.not_eq_false', ne_eq, Int.not_lt, Int.not_le, Bool.true_and, Bool.false_and, Bool.and_true, Bool.and_false, Bool.or_true, Bool.or_false, Bool.true_or, Bool.false_or, Bool.not_true, Bool.not_false] at hb1
    have hwt : wth n f k = true := by simpa using hb1o
    obtain ⟨hw0, hw1, hw2⟩ := wth_facts hwt
    refine wp_skip ?_
    refine pop_then ?_
    refine wp_region_seq ?_
    refine St.ops 2 [⟨0, 0, 0⟩, ⟨0, 0, 1⟩] [1, 2, 3, 4, 8, 19] [0, 1, 2] hS fun _ => ⟨[(1, [], .int .i64 f), (2, [], .int .i64 k), (3, [], .func (.func 26) #[] #[]), (4, [], .pointer (some ⟨(ν1 0), 0, none⟩)), (8, [], .pointer (some ⟨(ν1 1), 0, none⟩)), (19, [], .slice (some ⟨g, o, none⟩) nw c)], [(g, .fn o (o + nw) (u64s ws o)), ((ν1 0), .cells [.int .i64 ((n : Nat) : Int), .slice (some ⟨g, o, none⟩) nw c] 26), ((ν1 1), .cells [.int .i64 0, .slice none 0 0] 26)], [(ν1 0) = (ν1 0)], by as_aux_lemma => kernel_rfl, ⟨rfl, trivial⟩, fun ac wd hS => ?_⟩
    refine St.call 0 0 hS (f := 38) (args := #[.slice (some ⟨g, o, none⟩) nw c]) (obs := []) (by as_aux_lemma => kernel_rfl) trivial (by as_aux_lemma => kernel_rfl) (slices_CloneW g o c nw _ _ (hS.mem.heap _ (List.mem_of_getElem? (i := 0) rfl)) (by first | assumption | omega | (simp_all; done) | (simp_all; omega))) ?_
    rintro _ wd ⟨g22, c23, tot24, rfl, hog, hoh, hF⟩
    have ho5 : w.heap.size ≤ g22 := Nat.le_trans hS.mem.fr.size hog
    refine ⟨.slice (some ⟨g22, 0, none⟩) nw c23, rfl, ?_⟩
    replace hS := St.put (d := 20) (v := .slice (some ⟨g22, 0, none⟩) nw c23) (hS.to (hS.mem.outR hF hog hoh)) (by decide)
    clear hF
    refine St.ops 2 [⟨0, 0, 0⟩, ⟨0, 0, 1⟩] [1, 2, 3, 4, 8] [1, 2, 3] hS fun _ => ⟨[(1, [], .int .i64 f), (2, [], .int .i64 k), (3, [], .func (.func 26) #[] #[]), (4, [], .pointer (some ⟨(ν1 0), 0, none⟩)), (8, [], .pointer (some ⟨(ν1 1), 0, none⟩))], [((ν1 0), .cells [.int .i64 ((n : Nat) : Int), .slice (some ⟨g22, 0, none⟩) nw c23] 26), ((ν1 1), .cells [.int .i64 0, .slice none 0 0] 26), (g22, .row 59 nw tot24 (u64s ws 0))], [(ν1 0) = (ν1 0)], by as_aux_lemma => kernel_rfl, ⟨rfl, trivial⟩, fun ac wd hS => ?_⟩
    refine list_nil_seq ?_
    refine wp_seq ?_
    refine wp_block ?_
    refine St.loop (σ := Int × Int × (Nat → Nat)) (fun (x : Int × Int × (Nat → Nat)) => match x with | (x1, x2, wsx) => [(1, [], .int .i64 x1), (2, [], .int .i64 x2), (3, [], .func (.func 26) #[] #[]), (4, [], .pointer (some ⟨(ν1 0), 0, none⟩)), (8, [], .pointer (some ⟨(ν1 1), 0, none⟩))]) (fun (x : Int × Int × (Nat → Nat)) => match x with | (x1, x2, wsx) => [((ν1 0), .cells [.int .i64 ((n : Nat) : Int), .slice (some ⟨g22, 0, none⟩) nw c23] 26), ((ν1 1), .cells [.int .i64 0, .slice none 0 0] 26), (g22, .row 59 nw tot24 (u64s wsx 0))]) (fun (x : Int × Int × (Nat → Nat)) => match x with | (x1, x2, wsx) => []) (fun (x : Int × Int × (Nat → Nat)) => match x with | (x1, x2, wsx) => (f ≤ x1 ∧ 0 ≤ x2 ∧ x1 + x2 = f + k) ∧ (Words wsx nw n (setR p f.toNat (x1 - f).toNat true))) (fun (x : Int × Int × (Nat → Nat)) => match x with | (x1, x2, wsx) => Int.toNat x2) (f, k, ws) ⟨(by first | omega | (rw [show (f - f).toNat = 0 by omega, setR_zero]; exact hW)), (by first | omega | (rw [show (f - f).toNat = 0 by omega, setR_zero]; exact hW))⟩ hS ?_
    clear hS
    rintro ⟨x1, x2, wsx⟩ ⟨i0, i1⟩ ac wd hS
    replace hS : St _ 51 [(1, [], .int .i64 x1), (2, [], .int .i64 x2), (3, [], .func (.func 26) #[] #[]), (4, [], .pointer (some ⟨(ν1 0), 0, none⟩)), (8, [], .pointer (some ⟨(ν1 1), 0, none⟩))] [((ν1 0), .cells [.int .i64 ((n : Nat) : Int), .slice (some ⟨g22, 0, none⟩) nw c23] 26), ((ν1 1), .cells [.int .i64 0, .slice none 0 0] 26), (g22, .row 59 nw tot24 (u64s wsx 0))] [] ac wd := hS
    replace i0 : f ≤ x1 ∧ 0 ≤ x2 ∧ x1 + x2 = f + k := i0
    replace i1 : Words wsx nw n (setR p f.toNat (x1 - f).toNat true) := i1
    have him : 0 < x2 → 1 ≤ imin x2 (64 - (x1 % 64)) ∧ imin x2 (64 - (x1 % 64)) ≤ 64 - (x1 % 64) ∧ imin x2 (64 - (x1 % 64)) ≤ x2 := fun h => by unfold imin; split <;> omega
    refine wp_seq ?_
    refine St.region_seq [⟨0, 0, 0⟩, ⟨0, 0, 0⟩] [1, 2, 3, 4, 8, 23] [0, 1, 2] hS fun _ => ⟨[(1, [], .int .i64 x1), (2, [], .int .i64 x2), (3, [], .func (.func 26) #[] #[]), (4, [], .pointer (some ⟨(ν1 0), 0, none⟩)), (8, [], .pointer (some ⟨(ν1 1), 0, none⟩)), (23, [], .bool (decide ((0 : Int) < x2)))], [((ν1 0), .cells [.int .i64 ((n : Nat) : Int), .slice (some ⟨g22, 0, none⟩) nw c23] 26), ((ν1 1), .cells [.int .i64 0, .slice none 0 0] 26), (g22, .row 59 nw tot24 (u64s wsx 0))], [], by as_aux_lemma => kernel_rfl, trivial, fun ac wd hS => ?_⟩
    refine St.cond (b := (decide ((0 : Int) < x2))) hS (by as_aux_lemma => kernel_rfl) (fun hb6 => ?_) (fun hb6 => ?_)
    · have hb6o := hb6
      try simp only [decide_eq_true_eq, decide_eq_false_iff_not, beq_iff_eq, bne_iff_ne, beq_eq_false_iff_ne, bne_eq_false_iff_eq, Bool.and_eq_true, Bool.or_eq_true, Bool.and_eq_false_iff, Bool.or_eq_false_iff, Bool.not_eq_true', Bool.not_eq_false', ne_eq, Int.not_lt, Int.not_le, Bool.true_and, Bool.false_and, Bool.and_true, Bool.and_false, Bool.or_true, Bool.or_false, Bool.true_or, Bool.false_or, Bool.not_true, Bool.not_false] at hb6
      refine wp_skip ?_
      refine pop_then ?_
      refine wp_block ?_
      refine wp_region_seq ?_
      refine St.ops 2 [⟨0, 0, 0⟩, ⟨0, 0, 0⟩] [1, 2, 3, 4, 8, 25, 26] [0, 1, 2] hS fun _ => ⟨[(1, [], .int .i64 x1), (2, [], .int .i64 x2), (3, [], .func (.func 26) #[] #[]), (4, [], .pointer (some ⟨(ν1 0), 0, none⟩)), (8, [], .pointer (some ⟨(ν1 1), 0, none⟩)), (25, [], .int .i64 x1), (26, [], .int .i64 x2)], [((ν1 0), .cells [.int .i64 ((n : Nat) : Int), .slice (some ⟨g22, 0, none⟩) nw c23] 26), ((ν1 1), .cells [.int .i64 0, .slice none 0 0] 26), (g22, .row 59 nw tot24 (u64s wsx 0))], [], by as_aux_lemma => kernel_rfl, trivial, fun ac wd hS => ?_⟩
      refine St.call 0 0 hS (f := 30) (args := #[.int .i64 x1, .int .i64 x2]) (obs := []) (by as_aux_lemma => kernel_rfl) trivial (by as_aux_lemma => kernel_rfl) (bits_mask x1 x2 _ (by first | assumption | omega | (simp_all; done) | (simp_all; omega)) (by first | assumption | omega | (simp_all; done) | (simp_all; omega))) ?_
      rintro _ wd ⟨rfl, hF⟩
      refine ⟨.tuple #[.int .u64 ((mkM (x1 % 64).toNat (imin x2 (64 - x1 % 64)).toNat : Nat) : Int), .int .i64 (imin x2 (64 - x1 % 64))], rfl, ?_⟩
      replace hS := St.put (d := 27) (v := .tuple #[.int .u64 ((mkM (x1 % 64).toNat (imin x2 (64 - x1 % 64)).toNat : Nat) : Int), .int .i64 (imin x2 (64 - x1 % 64))]) (hS.to (hS.mem.keep0 hF)) (by decide)
      clear hF
      refine St.ops 5 [⟨0, 0, 0⟩, ⟨0, 0, 0⟩, ⟨0, 0, 0⟩, ⟨0, 0, 0⟩, ⟨0, 0, 0⟩] [1, 2, 3, 4, 8, 10, 11] [0, 1, 2] hS fun _ => ⟨[(1, [], .int .i64 x1), (2, [], .int .i64 x2), (3, [], .func (.func 26) #[] #[]), (4, [], .pointer (some ⟨(ν1 0), 0, none⟩)), (8, [], .pointer (some ⟨(ν1 1), 0, none⟩)), (10, [], .int .u64 ((mkM (x1 % 64).toNat (imin x2 (64 - x1 % 64)).toNat : Nat) : Int)), (11, [], .int .i64 (imin x2 (64 - x1 % 64)))], [((ν1 0), .cells [.int .i64 ((n : Nat) : Int), .slice (some ⟨g22, 0, none⟩) nw c23] 26), ((ν1 1), .cells [.int .i64 0, .slice none 0 0] 26), (g22, .row 59 nw tot24 (u64s wsx 0))], [], by as_aux_lemma => kernel_rfl, trivial, fun ac wd hS => ?_⟩
      refine list_nil_seq ?_
      refine wp_seq (St.tail 13 hS (by kernel_rfl) (by kernel_rfl) fun w1 hw1 => ?_)
      have hq1 := hS.env; have hq2 := hS.size; have hq3 := hS.defers
      have ew7 : (IntKind.wrap .i64 (Int.tdiv x1 64)) = (x1 / 64) := quo_in (x := x1) (d := 64) (by omega) (by omega) (by omega)
      have ew8 : ((wsx (Int.toNat (x1 / 64) - 0) : Nat) : Int) = ((wsx (Int.toNat (x1 / 64)) : Nat) : Int) := by rw [Nat.sub_zero]
      refine quiet_ops 12 [⟨0, 0, 0⟩, ⟨0, 0, 0⟩, ⟨0, 0, 0⟩, ⟨0, 0, 0⟩, ⟨0, 0, 0⟩, ⟨0, 0, 0⟩, ⟨0, 0, 0⟩, ⟨0, 0, 0⟩, ⟨0, 0, 0⟩, ⟨0, 1, 0⟩, ⟨0, 0, 2⟩, ⟨0, 0, 0⟩] [1, 2, 3, 4, 8, 11, 31, 33, 34, 40, 41] [0, 1, 2] (E' := [(1, [], .int .i64 x1), (2, [], .int .i64 x2), (3, [], .func (.func 26) #[] #[]), (4, [], .pointer (some ⟨(ν1 0), 0, none⟩)), (8, [], .pointer (some ⟨(ν1 1), 0, none⟩)), (11, [], .int .i64 (imin x2 (64 - x1 % 64))), (31, [], .slice (some ⟨g22, 0, none⟩) nw c23), (33, [], .int .i64 (IntKind.wrap .i64 (Int.tdiv x1 64))), (34, [], .func (.func 26) #[] #[]), (40, [], .int .u64 ((wsx (Int.toNat (IntKind.wrap .i64 (Int.tdiv x1 64)) - 0) : Nat) : Int)), (41, [], .int .u64 ((mkM (x1 % 64).toNat (imin x2 (64 - x1 % 64)).toNat : Nat) : Int))]) (H' := [((ν1 0), .cells [.int .i64 ((n : Nat) : Int), .slice (some ⟨g22, 0, none⟩) nw c23] 26), ((ν1 1), .cells [.int .i64 0, .slice none 0 0] 26), (g22, .row 59 nw tot24 (u64s wsx 0))]) (obs := [g22 = g22, Int.toNat (IntKind.wrap .i64 (Int.tdiv x1 64)) < nw, 0 ≤ (IntKind.wrap .i64 (Int.tdiv x1 64)) ∧ (IntKind.wrap .i64 (Int.tdiv x1 64)) < ((nw : Nat) : Int), (ν1 0) = (ν1 0), (ν1 0) = (ν1 0)]) (by as_aux_lemma => kernel_rfl) (⟨rfl, (by (try simp only [ew7, ew8]); first | omega | (intro _; exact ⟨rfl, trivial⟩) | (simp; omega) | (simp_all; done) | (simp_all; omega)), (by (try simp only [ew7, ew8]); first | omega | (intro _; exact ⟨rfl, trivial⟩) | (simp; omega) | (simp_all; done) | (simp_all; omega)), rfl, rfl, trivial⟩ : AllP [g22 = g22, Int.toNat (IntKind.wrap .i64 (Int.tdiv x1 64)) < nw, 0 ≤ (IntKind.wrap .i64 (Int.tdiv x1 64)) ∧ (IntKind.wrap .i64 (Int.tdiv x1 64)) < ((nw : Nat) : Int), (ν1 0) = (ν1 0), (ν1 0) = (ν1 0)]) hq1 hq2 hq3 (fun w_ e_ => e_ ▸ hw1) fun a2 hq1 hq2 hq3 => ?_
      simp only [ew7, ew8] at hq1
      refine quiet_call 0 0 (f := 26) (args := #[.int .u64 ((wsx (Int.toNat (x1 / 64)) : Nat) : Int), .int .u64 ((mkM (x1 % 64).toNat (imin x2 (64 - x1 % 64)).toNat : Nat) : Int)]) (obs := []) (v := .int .u64 ((tOp true (wsx (Int.toNat (x1 / 64))) (mkM (x1 % 64).toNat (imin x2 (64 - x1 % 64)).toNat) : Nat) : Int)) (by as_aux_lemma => kernel_rfl) trivial (by as_aux_lemma => kernel_rfl) hq1 hq2 hq3 (fun w_ e_ => e_ ▸ hw1) (fun w_ h_ => (bits_with1 (wsx (Int.toNat (x1 / 64))) (mkM (x1 % 64).toNat (imin x2 (64 - x1 % 64)).toNat) w_ (by first | exact i1.small _ (by rw [i1.many]; omega) | exact mkM_lt (by omega)) (by first | exact i1.small _ (by rw [i1.many]; omega) | exact mkM_lt (by omega))).mono (fun e_ w2 hh => ⟨hh.1, hh.2.trans h_⟩)) fun a2 he2 => ?_
      subst he2
      replace hq1 := quiet_put (d := 42) (v := .int .u64 ((tOp true (wsx (Int.toNat (x1 / 64))) (mkM (x1 % 64).toNat (imin x2 (64 - x1 % 64)).toNat) : Nat) : Int)) hq1 hq2 (by decide)
      replace hq3 := (put_defers _ (some 42) (.int .u64 ((tOp true (wsx (Int.toNat (x1 / 64))) (mkM (x1 % 64).toNat (imin x2 (64 - x1 % 64)).toNat) : Nat) : Int))).trans hq3
      replace hq2 := Nat.le_trans hq2 (Nat.le_of_eq (put_size _ (some 42) (.int .u64 ((tOp true (wsx (Int.toNat (x1 / 64))) (mkM (x1 % 64).toNat (imin x2 (64 - x1 % 64)).toNat) : Nat) : Int))).symm)
      refine wpQuiet_nil ?_
      have hS := (⟨hq3, hq2, hq1, hw1⟩ : St _ _ _ _ _ _ _)
      clear hq1 hq2 hq3
      refine St.ops 2 [⟨0, 1, 0⟩, ⟨0, 0, 2⟩] [1, 2, 3, 4, 8, 11] [0, 1, 2] hS fun _ => ⟨[(1, [], .int .i64 x1), (2, [], .int .i64 x2), (3, [], .func (.func 26) #[] #[]), (4, [], .pointer (some ⟨(ν1 0), 0, none⟩)), (8, [], .pointer (some ⟨(ν1 1), 0, none⟩)), (11, [], .int .i64 (imin x2 (64 - x1 % 64)))], [((ν1 0), .cells [.int .i64 ((n : Nat) : Int), .slice (some ⟨g22, 0, none⟩) nw c23] 26), ((ν1 1), .cells [.int .i64 0, .slice none 0 0] 26), (g22, .row 59 nw tot24 (fun x => if x = Int.toNat (x1 / 64) then .int .u64 ((tOp true (wsx (Int.toNat (x1 / 64))) (mkM (x1 % 64).toNat (imin x2 (64 - x1 % 64)).toNat) : Nat) : Int) else (u64s wsx 0) x))], [g22 = g22, Int.toNat (x1 / 64) < nw, 0 ≤ (x1 / 64) ∧ (x1 / 64) < ((nw : Nat) : Int)], by as_aux_lemma => kernel_rfl, ⟨rfl, (by first | omega | (intro _; exact ⟨rfl, trivial⟩) | (simp; omega) | (simp_all; done) | (simp_all; omega)), (by first | omega | (intro _; exact ⟨rfl, trivial⟩) | (simp; omega) | (simp_all; done) | (simp_all; omega)), trivial⟩, fun ac wd hS => ?_⟩
      refine list_nil_seq ?_
      have ew9 : (IntKind.wrap .i64 (x1 + (imin x2 (64 - x1 % 64)))) = (x1 + (imin x2 (64 - x1 % 64))) := i64_in (x := (x1 + (imin x2 (64 - x1 % 64)))) (by omega)
      have ew10 : (IntKind.wrap .i64 (x2 - (imin x2 (64 - x1 % 64)))) = (x2 - (imin x2 (64 - x1 % 64))) := i64_in (x := (x2 - (imin x2 (64 - x1 % 64)))) (by omega)
      refine St.region [⟨0, 0, 0⟩, ⟨0, 0, 0⟩, ⟨0, 0, 0⟩, ⟨0, 0, 0⟩, ⟨0, 0, 0⟩, ⟨0, 0, 0⟩, ⟨0, 0, 0⟩, ⟨0, 0, 0⟩] [1, 2, 3, 4, 8] [0, 1, 2] hS fun _ => ⟨[(1, [], .int .i64 (IntKind.wrap .i64 (x1 + (imin x2 (64 - x1 % 64))))), (2, [], .int .i64 (IntKind.wrap .i64 (x2 - (imin x2 (64 - x1 % 64))))), (3, [], .func (.func 26) #[] #[]), (4, [], .pointer (some ⟨(ν1 0), 0, none⟩)), (8, [], .pointer (some ⟨(ν1 1), 0, none⟩))], [((ν1 0), .cells [.int .i64 ((n : Nat) : Int), .slice (some ⟨g22, 0, none⟩) nw c23] 26), ((ν1 1), .cells [.int .i64 0, .slice none 0 0] 26), (g22, .row 59 nw tot24 (fun x => if x = Int.toNat (x1 / 64) then .int .u64 ((tOp true (wsx (Int.toNat (x1 / 64))) (mkM (x1 % 64).toNat (imin x2 (64 - x1 % 64)).toNat) : Nat) : Int) else (u64s wsx 0) x))], [], by as_aux_lemma => kernel_rfl, trivial, fun ac wd hS => ?_⟩
      simp only [ew9, ew10] at hS
      refine pop_block ?_
      replace hS := hS.to (WS.refn (i := 2) (g := u64s (putW wsx (Int.toNat (x1 / 64)) (tOp true (wsx (Int.toNat (x1 / 64))) (mkM (Int.toNat (x1 % 64)) (Int.toNat (imin x2 (64 - (x1 % 64))))))) 0) hS.mem rfl (fun o _ => (congrFun (u64s_put _ _ _) o).symm) rfl)
      exact pop_then ⟨((x1 + (imin x2 (64 - x1 % 64))), (x2 - (imin x2 (64 - x1 % 64))), (putW wsx (Int.toNat (x1 / 64)) (tOp true (wsx (Int.toNat (x1 / 64))) (mkM (Int.toNat (x1 % 64)) (Int.toNat (imin x2 (64 - (x1 % 64)))))))), ⟨(by first | omega | assumption | (simp; done) | (simp; omega)), (by exact i1.turnI (m := imin x2 (64 - (x1 % 64))) hw0 (by omega) (by omega) (by omega) (by omega))⟩, (by first | omega | (simp; omega) | (simp only []; omega)), hS⟩
    · have hb6o := hb6
      try simp only [decide_eq_true_eq, decide_eq_false_iff_not, beq_iff_eq, bne_iff_ne, beq_eq_false_iff_ne, bne_eq_false_iff_eq, Bool.and_eq_true, Bool.or_eq_true, Bool.and_eq_false_iff, Bool.or_eq_false_iff, Bool.not_eq_true', Bool.not_eq_false', ne_eq, Int.not_lt, Int.not_le, Bool.true_and, Bool.false_and, Bool.and_true, Bool.and_false, Bool.or_true, Bool.or_false, Bool.true_or, Bool.false_or, Bool.not_true, Bool.not_false] at hb6
      refine wp_exit ?_
      refine pop_then_exit ?_
      refine pop_then_exit ?_
      refine pop_block_hit ?_
      refine pop_then ?_
      refine St.region_seq [⟨0, 0, 0⟩, ⟨0, 0, 1⟩, ⟨0, 0, 0⟩] [8, 9] [1, 2] hS fun _ => ⟨[(8, [], .pointer (some ⟨(ν1 1), 0, none⟩)), (9, [], .int .i64 0)], [((ν1 1), .cells [.int .i64 ((n : Nat) : Int), .slice (some ⟨g22, 0, none⟩) nw c23] 26), (g22, .row 59 nw tot24 (u64s wsx 0))], [(ν1 1) = (ν1 1), (ν1 1) = (ν1 1), (ν1 0) = (ν1 0), (ν1 0) = (ν1 0)], by as_aux_lemma => kernel_rfl, ⟨rfl, rfl, rfl, rfl, trivial⟩, fun ac wd hS => ?_⟩
      refine wp_ret ?_
      refine St.ret 0 hS (v := .tuple #[.agg #[.int .i64 ((n : Nat) : Int), .slice (some ⟨g22, 0, none⟩) nw c23], .int .i64 0]) (obs := [(ν1 1) = (ν1 1), (ν1 1) = (ν1 1)]) (by as_aux_lemma => kernel_rfl) ⟨rfl, rfl, trivial⟩ fun hw => ?_
      refine ⟨g22, 0, c23, wsx, retd (tuple2 rfl (vint ?_)), ?_, (.inr (hw.mine _ (List.mem_of_getElem? (i := 1) rfl) rfl)), (HE.fn_hi (by omega) (HE.of_row (hw.heap _ (List.mem_of_getElem? (i := 1) rfl)) (fun _ _ => rfl))), hw.fr⟩
      all_goals (first | rfl | exact trnE_no (by assumption) | exact trnE_yes (by assumption) | (rw [trn_no (by assumption)]; exact hW) | (rw [trn_yes (by assumption), show k.toNat = (x1 - f).toNat by omega]; exact i1))

set_option maxRecDepth 100000 in
set_option maxHeartbeats 1000000 in
theorem bits_With (g : Nat) (o : Nat) (c : Nat) (nw : Nat) (ws : Nat → Nat) (n : Nat) (f : Int) (k : Int) (p : Nat → Bool) (w : World) (hh0 : HE.holds w g (.fn o (o + nw) (u64s ws o))) (hW : Words ws nw n p) (hn : n ≤ 1048576) :
    Calls Tryd.prog 13 #[.agg #[.int .i64 ((n : Nat) : Int), .slice (some ⟨g, o, none⟩) nw c], .int .i64 f, .int .i64 k] w fun e w' => ∃ (g2 : Nat) (o2 : Nat) (c2 : Nat) (ws2 : Nat → Nat), e = .returned (.tuple #[.agg #[.int .i64 ((n : Nat) : Int), .slice (some ⟨g2, o2, none⟩) nw c2], .int .i64 (trnE n f k)]) ∧ Words ws2 nw n (trn p n f k true) ∧ (g2 = g ∨ w.heap.size ≤ g2) ∧ HE.holds w' g2 (.fn o2 (o2 + nw) (u64s ws2 o2)) ∧ Fr w w' [] [] := by
  refine enter (args := [.agg #[.int .i64 ((n : Nat) : Int), .slice (some ⟨g, o, none⟩) nw c], .int .i64 f, .int .i64 k]) (A := []) Tryd.func13 rfl 14 rfl [(g, .fn o (o + nw) (u64s ws o))] (WS.startL ⟨⟨rfl, hh0⟩, trivial⟩) fun ac hS => ?_
  refine St.region_seq [⟨0, 0, 0⟩, ⟨0, 0, 0⟩, ⟨0, 0, 0⟩] [1, 2, 3, 6] [0, 1, 2] hS fun ν1 => ⟨[(1, [], .int .i64 f), (2, [], .int .i64 k), (3, [], .pointer (some ⟨(ν1 0), 0, none⟩)), (6, [], .pointer (some ⟨(ν1 1), 0, none⟩))], [(g, .fn o (o + nw) (u64s ws o)), ((ν1 0), .cells [.int .i64 ((n : Nat) : Int), .slice (some ⟨g, o, none⟩) nw c] 26), ((ν1 1), .cells [.int .i64 0, .slice none 0 0] 26)], [], by as_aux_lemma => kernel_rfl, trivial, fun ac wd hS => ?_⟩
  refine wp_region_seq ?_
  refine St.ops 3 [⟨0, 0, 1⟩, ⟨0, 0, 0⟩, ⟨0, 0, 0⟩] [6, 8, 9, 10] [0, 2] hS fun _ => ⟨[(6, [], .pointer (some ⟨(ν1 1), 0, none⟩)), (8, [], .agg #[.int .i64 ((n : Nat) : Int), .slice (some ⟨g, o, none⟩) nw c]), (9, [], .int .i64 f), (10, [], .int .i64 k)], [(g, .fn o (o + nw) (u64s ws o)), ((ν1 1), .cells [.int .i64 0, .slice none 0 0] 26)], [(ν1 0) = (ν1 0), (ν1 0) = (ν1 0)], by as_aux_lemma => kernel_rfl, ⟨rfl, rfl, trivial⟩, fun ac wd hS => ?_⟩
  refine St.call 0 0 hS (f := 25) (args := #[.agg #[.int .i64 ((n : Nat) : Int), .slice (some ⟨g, o, none⟩) nw c], .int .i64 f, .int .i64 k, .func (.func 26) #[] #[]]) (obs := []) (by as_aux_lemma => kernel_rfl) trivial (by as_aux_lemma => kernel_rfl) (bits_turn_with g o c nw _ n f k p _ (hS.mem.heap _ (List.mem_of_getElem? (i := 0) rfl)) (by first | assumption | omega | (simp_all; done) | (simp_all; omega)) (by first | assumption | omega | (simp_all; done) | (simp_all; omega))) ?_
  rintro _ wd ⟨g21, o22, c23, ws24, rfl, hW25, hog, hoh, hF⟩
  have ho6 : g21 = g ∨ w.heap.size ≤ g21 := by rcases hog with hx | hx; rw [hx]; exact (.inl rfl); exact .inr (Nat.le_trans hS.mem.fr.size hx)
  refine ⟨.tuple #[.agg #[.int .i64 ((n : Nat) : Int), .slice (some ⟨g21, o22, none⟩) nw c23], .int .i64 (trnE n f k)], rfl, ?_⟩
  replace hS := St.put (d := 11) (v := .tuple #[.agg #[.int .i64 ((n : Nat) : Int), .slice (some ⟨g21, o22, none⟩) nw c23], .int .i64 (trnE n f k)]) (hS.to (hS.mem.outF hF 0 rfl rfl hog hoh)) (by decide)
  clear hF
  refine St.ops 4 [⟨0, 0, 0⟩, ⟨0, 0, 0⟩, ⟨0, 0, 1⟩, ⟨0, 0, 0⟩] [6, 7] [1, 2] hS fun _ => ⟨[(6, [], .pointer (some ⟨(ν1 1), 0, none⟩)), (7, [], .int .i64 (trnE n f k))], [((ν1 1), .cells [.int .i64 ((n : Nat) : Int), .slice (some ⟨g21, o22, none⟩) nw c23] 26), (g21, .fn o22 (o22 + nw) (u64s ws24 o22))], [(ν1 1) = (ν1 1), (ν1 1) = (ν1 1)], by as_aux_lemma => kernel_rfl, ⟨rfl, rfl, trivial⟩, fun ac wd hS => ?_⟩
  refine list_nil_seq ?_
  refine wp_ret ?_
  refine St.ret 0 hS (v := .tuple #[.agg #[.int .i64 ((n : Nat) : Int), .slice (some ⟨g21, o22, none⟩) nw c23], .int .i64 (trnE n f k)]) (obs := [(ν1 1) = (ν1 1), (ν1 1) = (ν1 1)]) (by as_aux_lemma => kernel_rfl) ⟨rfl, rfl, trivial⟩ fun hw => ?_
  refine ⟨g21, o22, c23, ws24, retd rfl, ?_, ho6, (hw.heap _ (List.mem_of_getElem? (i := 1) rfl)), hw.fr⟩
  all_goals (first | rfl | assumption)

set_option maxRecDepth 100000 in
set_option maxHeartbeats 1000000 in
theorem bits_turn_without (g : Nat) (o : Nat) (c : Nat) (nw : Nat) (ws : Nat → Nat) (n : Nat) (f : Int) (k : Int) (p : Nat → Bool) (w : World) (hh0 : HE.holds w g (.fn o (o + nw) (u64s ws o))) (hW : Words ws nw n p) (hn : n ≤ 1048576) :
    Calls Tryd.prog 25 #[.agg #[.int .i64 ((n : Nat) : Int), .slice (some ⟨g, o, none⟩) nw c], .int .i64 f, .int .i64 k, .func (.func 28) #[] #[]] w fun e w' => ∃ (g2 : Nat) (o2 : Nat) (c2 : Nat) (ws2 : Nat → Nat), e = .returned (.tuple #[.agg #[.int .i64 ((n : Nat) : Int), .slice (some ⟨g2, o2, none⟩) nw c2], .int .i64 (trnE n f k)]) ∧ Words ws2 nw n (trn p n f k false) ∧ (g2 = g ∨ w.heap.size ≤ g2) ∧ HE.holds w' g2 (.fn o2 (o2 + nw) (u64s ws2 o2)) ∧ Fr w w' [] [] := by
  have hnw := hW.many
  have hsm := hW.small
  refine enter (args := [.agg #[.int .i64 ((n : Nat) : Int), .slice (some ⟨g, o, none⟩) nw c], .int .i64 f, .int .i64 k, .func (.func 28) #[] #[]]) (A := []) Tryd.func25 rfl 51 rfl [(g, .fn o (o + nw) (u64s ws o))] (WS.startL ⟨⟨rfl, hh0⟩, trivial⟩) fun ac hS => ?_
  refine St.region_seq [⟨0, 0, 0⟩, ⟨0, 0, 0⟩, ⟨0, 0, 0⟩] [1, 2, 3, 4, 8] [0, 1, 2] hS fun ν1 => ⟨[(1, [], .int .i64 f), (2, [], .int .i64 k), (3, [], .func (.func 28) #[] #[]), (4, [], .pointer (some ⟨(ν1 0), 0, none⟩)), (8, [], .pointer (some ⟨(ν1 1), 0, none⟩))], [(g, .fn o (o + nw) (u64s ws o)), ((ν1 0), .cells [.int .i64 ((n : Nat) : Int), .slice (some ⟨g, o, none⟩) nw c] 26), ((ν1 1), .cells [.int .i64 0, .slice none 0 0] 26)], [], by as_aux_lemma => kernel_rfl, trivial, fun ac wd hS => ?_⟩
  refine wp_seq ?_
  refine wp_region_seq ?_
  refine St.ops 3 [⟨0, 0, 1⟩, ⟨0, 0, 0⟩, ⟨0, 0, 0⟩] [1, 2, 3, 4, 8, 12, 13, 14] [0, 1, 2] hS fun _ => ⟨[(1, [], .int .i64 f), (2, [], .int .i64 k), (3, [], .func (.func 28) #[] #[]), (4, [], .pointer (some ⟨(ν1 0), 0, none⟩)), (8, [], .pointer (some ⟨(ν1 1), 0, none⟩)), (12, [], .agg #[.int .i64 ((n : Nat) : Int), .slice (some ⟨g, o, none⟩) nw c]), (13, [], .int .i64 f), (14, [], .int .i64 k)], [(g, .fn o (o + nw) (u64s ws o)), ((ν1 0), .cells [.int .i64 ((n : Nat) : Int), .slice (some ⟨g, o, none⟩) nw c] 26), ((ν1 1), .cells [.int .i64 0, .slice none 0 0] 26)], [(ν1 0) = (ν1 0), (ν1 0) = (ν1 0)], by as_aux_lemma => kernel_rfl, ⟨rfl, rfl, trivial⟩, fun ac wd hS => ?_⟩
  refine St.call 0 0 hS (f := 29) (args := #[.agg #[.int .i64 ((n : Nat) : Int), .slice (some ⟨g, o, none⟩) nw c], .int .i64 f, .int .i64 k]) (obs := []) (by as_aux_lemma => kernel_rfl) trivial (by as_aux_lemma => kernel_rfl) (bits_within g o c nw _ n f k _ (hS.mem.heap _ (List.mem_of_getElem? (i := 0) rfl)) (by first | assumption | omega | (simp_all; done) | (simp_all; omega))) ?_
  rintro _ wd ⟨rfl, hF⟩
  refine ⟨.bool (wth n f k), rfl, ?_⟩
  replace hS := St.put (d := 15) (v := .bool (wth n f k)) (hS.to (hS.mem.keep0 hF)) (by decide)
  clear hF
  refine St.ops 1 [⟨0, 0, 0⟩] [1, 2, 3, 4, 8, 16] [0, 1, 2] hS fun _ => ⟨[(1, [], .int .i64 f), (2, [], .int .i64 k), (3, [], .func (.func 28) #[] #[]), (4, [], .pointer (some ⟨(ν1 0), 0, none⟩)), (8, [], .pointer (some ⟨(ν1 1), 0, none⟩)), (16, [], .bool (!(wth n f k)))], [(g, .fn o (o + nw) (u64s ws o)), ((ν1 0), .cells [.int .i64 ((n : Nat) : Int), .slice (some ⟨g, o, none⟩) nw c] 26), ((ν1 1), .cells [.int .i64 0, .slice none 0 0] 26)], [], by as_aux_lemma => kernel_rfl, trivial, fun ac wd hS => ?_⟩
  refine list_nil_seq ?_
  refine St.cond (b := (!(wth n f k))) hS (by as_aux_lemma => kernel_rfl) (fun hb1 => ?_) (fun hb1 => ?_)
  · have hb1o := hb1
    try simp only [decide_eq_true_eq, decide_eq_false_iff_not, beq_iff_eq, bne_iff_ne, beq_eq_false_iff_ne, bne_eq_false_iff_eq, Bool.and_eq_true, Bool.or_eq_true, Bool.and_eq_false_iff, Bool.or_eq_false_iff, Bool.not_eq_true', Bool.not_eq_false', ne_eq, Int.not_lt, Int.not_le, Bool.true_and, Bool.false_and, Bool.and_true, Bool.and_false, Bool.or_true, Bool.or_false, Bool.true_or, Bool.false_or, Bool.not_true, Bool.not_false] at hb1
    refine St.region_seq [⟨0, 0, 1⟩, ⟨0, 0, 2⟩, ⟨0, 0, 0⟩] [8, 9] [0, 2] hS fun _ => ⟨[(8, [], .pointer (some ⟨(ν1 1), 0, none⟩)), (9, [], .int .i64 3)], [(g, .fn o (o + nw) (u64s ws o)), ((ν1 1), .cells [.int .i64 ((n : Nat) : Int), .slice (some ⟨g, o, none⟩) nw c] 26)], [(ν1 1) = (ν1 1), (ν1 1) = (ν1 1), (ν1 0) = (ν1 0), (ν1 0) = (ν1 0)], by as_aux_lemma => kernel_rfl, ⟨rfl, rfl, rfl, rfl, trivial⟩, fun ac wd hS => ?_⟩
    refine wp_ret ?_
    refine pop_then_ret ?_
    refine St.ret 1 hS (v := .tuple #[.agg #[.int .i64 ((n : Nat) : Int), .slice (some ⟨g, o, none⟩) nw c], .int .i64 3]) (obs := [(ν1 1) = (ν1 1), (ν1 1) = (ν1 1)]) (by as_aux_lemma => kernel_rfl) ⟨rfl, rfl, trivial⟩ fun hw => ?_
    refine ⟨g, o, c, ws, retd (tuple2 rfl (vint ?_)), ?_, (.inl rfl), (hw.heap _ (List.mem_of_getElem? (i := 0) rfl)), hw.fr⟩
    all_goals (first | rfl | exact trnE_no (by assumption) | exact trnE_yes (by assumption) | (rw [trn_no (by assumption)]; exact hW) | (rw [trn_yes (by assumption), show k.toNat = (x1 - f).toNat by omega]; exact i1))
  · have hb1o := hb1
    try simp only [decide_eq_true_eq, decide_eq_false_iff_not, beq_iff_eq, bne_iff_ne, beq_eq_false_iff_ne, bne_eq_false_iff_eq, Bool.and_eq_true, Bool.or_eq_true, Bool.and_eq_false_iff, Bool.or_eq_false_iff, Bool.not_eq_true', Bool.not_eq_false', ne_eq, Int.not_lt, Int.not_le, Bool.true_and, Bool.false_and, Bool.and_true, Bool.and_false, Bool.or_true, Bool.or_false, Bool.true_or, Bool.false_or, Bool.not_true, Bool.not_false] at hb1
    have hwt : wth n f k = true := by simpa using hb1o
    obtain ⟨hw0, hw1, hw2⟩ := wth_facts hwt
    refine wp_skip ?_
    refine pop_then ?_
    refine wp_region_seq ?_
    refine St.ops 2 [⟨0, 0, 0⟩, ⟨0, 0, 1⟩] [1, 2, 3, 4, 8, 19] [0, 1, 2] hS fun _ => ⟨[(1, [], .int .i64 f), (2, [], .int .i64 k), (3, [], .func (.func 28) #[] #[]), (4, [], .pointer (some ⟨(ν1 0), 0, none⟩)), (8, [], .pointer (some ⟨(ν1 1), 0, none⟩)), (19, [], .slice (some ⟨g, o, none⟩) nw c)], [(g, .fn o (o + nw) (u64s ws o)), ((ν1 0), .cells [.int .i64 ((n : Nat) : Int), .slice (some ⟨g, o, none⟩) nw c] 26), ((ν1 1), .cells [.int .i64 0, .slice none 0 0] 26)], [(ν1 0) = (ν1 0)], by as_aux_lemma => kernel_rfl, ⟨rfl, trivial⟩, fun ac wd hS => ?_⟩
    refine St.call 0 0 hS (f := 38) (args := #[.slice (some ⟨g, o, none⟩) nw c]) (obs := []) (by as_aux_lemma => kernel_rfl) trivial (by as_aux_lemma => kernel_rfl) (slices_CloneW g o c nw _ _ (hS.mem.heap _ (List.mem_of_getElem? (i := 0) rfl)) (by first | assumption | omega | (simp_all; done) | (simp_all; omega))) ?_
    rintro _ wd ⟨g22, c23, tot24, rfl, hog, hoh, hF⟩
    have ho5 : w.heap.size ≤ g22 := Nat.le_trans hS.mem.fr.size hog
    refine ⟨.slice (some ⟨g22, 0, none⟩) nw c23, rfl, ?_⟩
    replace hS := St.put (d := 20) (v := .slice (some ⟨g22, 0, none⟩) nw c23) (hS.to (hS.mem.outR hF hog hoh)) (by decide)
    clear hF
    refine St.ops 2 [⟨0, 0, 0⟩, ⟨0, 0, 1⟩] [1, 2, 3, 4, 8] [1, 2, 3] hS fun _ => ⟨[(1, [], .int .i64 f), (2, [], .int .i64 k), (3, [], .func (.func 28) #[] #[]), (4, [], .pointer (some ⟨(ν1 0), 0, none⟩)), (8, [], .pointer (some ⟨(ν1 1), 0, none⟩))], [((ν1 0), .cells [.int .i64 ((n : Nat) : Int), .slice (some ⟨g22, 0, none⟩) nw c23] 26), ((ν1 1), .cells [.int .i64 0, .slice none 0 0] 26), (g22, .row 59 nw tot24 (u64s ws 0))], [(ν1 0) = (ν1 0)], by as_aux_lemma => kernel_rfl, ⟨rfl, trivial⟩, fun ac wd hS => ?_⟩
    refine list_nil_seq ?_
    refine wp_seq ?_
    refine wp_block ?_
    refine St.loop (σ := Int × Int × (Nat → Nat)) (fun (x : Int × Int × (Nat → Nat)) => match x with | (x1, x2, wsx) => [(1, [], .int .i64 x1), (2, [], .int .i64 x2), (3, [], .func (.func 28) #[] #[]), (4, [], .pointer (some ⟨(ν1 0), 0, none⟩)), (8, [], .pointer (some ⟨(ν1 1), 0, none⟩))]) (fun (x : Int × Int × (Nat → Nat)) => match x with | (x1, x2, wsx) => [((ν1 0), .cells [.int .i64 ((n : Nat) : Int), .slice (some ⟨g22, 0, none⟩) nw c23] 26), ((ν1 1), .cells [.int .i64 0, .slice none 0 0] 26), (g22, .row 59 nw tot24 (u64s wsx 0))]) (fun (x : Int × Int × (Nat → Nat)) => match x with | (x1, x2, wsx) => []) (fun (x : Int × Int × (Nat → Nat)) => match x with | (x1, x2, wsx) => (f ≤ x1 ∧ 0 ≤ x2 ∧ x1 + x2 = f + k) ∧ (Words wsx nw n (setR p f.toNat (x1 - f).toNat false))) (fun (x : Int × Int × (Nat → Nat)) => match x with | (x1, x2, wsx) => Int.toNat x2) (f, k, ws) ⟨(by first | omega | (rw [show (f - f).toNat = 0 by omega, setR_zero]; exact hW)), (by first | omega | (rw [show (f - f).toNat = 0 by omega, setR_zero]; exact hW))⟩ hS ?_
    clear hS
    rintro ⟨x1, x2, wsx⟩ ⟨i0, i1⟩ ac wd hS
    replace hS : St _ 51 [(1, [], .int .i64 x1), (2, [], .int .i64 x2), (3, [], .func (.func 28) #[] #[]), (4, [], .pointer (some ⟨(ν1 0), 0, none⟩)), (8, [], .pointer (some ⟨(ν1 1), 0, none⟩))] [((ν1 0), .cells [.int .i64 ((n : Nat) : Int), .slice (some ⟨g22, 0, none⟩) nw c23] 26), ((ν1 1), .cells [.int .i64 0, .slice none 0 0] 26), (g22, .row 59 nw tot24 (u64s wsx 0))] [] ac wd := hS
    replace i0 : f ≤ x1 ∧ 0 ≤ x2 ∧ x1 + x2 = f + k := i0
    replace i1 : Words wsx nw n (setR p f.toNat (x1 - f).toNat false) := i1
    have him : 0 < x2 → 1 ≤ imin x2 (64 - (x1 % 64)) ∧ imin x2 (64 - (x1 % 64)) ≤ 64 - (x1 % 64) ∧ imin x2 (64 - (x1 % 64)) ≤ x2 := fun h => by unfold imin; split <;> omega
    refine wp_seq ?_
    refine St.region_seq [⟨0, 0, 0⟩, ⟨0, 0, 0⟩] [1, 2, 3, 4, 8, 23] [0, 1, 2] hS fun _ => ⟨[(1, [], .int .i64 x1), (2, [], .int .i64 x2), (3, [], .func (.func 28) #[] #[]), (4, [], .pointer (some ⟨(ν1 0), 0, none⟩)), (8, [], .pointer (some ⟨(ν1 1), 0, none⟩)), (23, [], .bool (decide ((0 : Int) < x2)))], [((ν1 0), .cells [.int .i64 ((n : Nat) : Int), .slice (some ⟨g22, 0, none⟩) nw c23] 26), ((ν1 1), .cells [.int .i64 0, .slice none 0 0] 26), (g22, .row 59 nw tot24 (u64s wsx 0))], [], by as_aux_lemma => kernel_rfl, trivial, fun ac wd hS => ?_⟩
    refine St.cond (b := (decide ((0 : Int) < x2))) hS (by as_aux_lemma => kernel_rfl) (fun hb6 => ?_) (fun hb6 => ?_)
    · have hb6o := hb6
      try simp only [decide_eq_true_eq, decide_eq_false_iff_not, beq_iff_eq, bne_iff_ne, beq_eq_false_iff_ne, bne_eq_false_iff_eq, Bool.and_eq_true, Bool.or_eq_true, Bool.and_eq_false_iff, Bool.or_eq_false_iff, Bool.not_eq_true', Bool.not_eq_false', ne_eq, Int.not_lt, Int.not_le, Bool.true_and, Bool.false_and, Bool.and_true, Bool.and_false, Bool.or_true, Bool.or_false, Bool.true_or, Bool.false_or, Bool.not_true, Bool.not_false] at hb6
      refine wp_skip ?_
      refine pop_then ?_
      refine wp_block ?_
      refine wp_region_seq ?_
      refine St.ops 2 [⟨0, 0, 0⟩, ⟨0, 0, 0⟩] [1, 2, 3, 4, 8, 25, 26] [0, 1, 2] hS fun _ => ⟨[(1, [], .int .i64 x1), (2, [], .int .i64 x2), (3, [], .func (.func 28) #[] #[]), (4, [], .pointer (some ⟨(ν1 0), 0, none⟩)), (8, [], .pointer (some ⟨(ν1 1), 0, none⟩)), (25, [], .int .i64 x1), (26, [], .int .i64 x2)], [((ν1 0), .cells [.int .i64 ((n : Nat) : Int), .slice (some ⟨g22, 0, none⟩) nw c23] 26), ((ν1 1), .cells [.int .i64 0, .slice none 0 0] 26), (g22, .row 59 nw tot24 (u64s wsx 0))], [], by as_aux_lemma => kernel_rfl, trivial, fun ac wd hS => ?_⟩
      refine St.call 0 0 hS (f := 30) (args := #[.int .i64 x1, .int .i64 x2]) (obs := []) (by as_aux_lemma => kernel_rfl) trivial (by as_aux_lemma => kernel_rfl) (bits_mask x1 x2 _ (by first | assumption | omega | (simp_all; done) | (simp_all; omega)) (by first | assumption | omega | (simp_all; done) | (simp_all; omega))) ?_
      rintro _ wd ⟨rfl, hF⟩
      refine ⟨.tuple #[.int .u64 ((mkM (x1 % 64).toNat (imin x2 (64 - x1 % 64)).toNat : Nat) : Int), .int .i64 (imin x2 (64 - x1 % 64))], rfl, ?_⟩
      replace hS := St.put (d := 27) (v := .tuple #[.int .u64 ((mkM (x1 % 64).toNat (imin x2 (64 - x1 % 64)).toNat : Nat) : Int), .int .i64 (imin x2 (64 - x1 % 64))]) (hS.to (hS.mem.keep0 hF)) (by decide)
      clear hF
      refine St.ops 5 [⟨0, 0, 0⟩, ⟨0, 0, 0⟩, ⟨0, 0, 0⟩, ⟨0, 0, 0⟩, ⟨0, 0, 0⟩] [1, 2, 3, 4, 8, 10, 11] [0, 1, 2] hS fun _ => ⟨[(1, [], .int .i64 x1), (2, [], .int .i64 x2), (3, [], .func (.func 28) #[] #[]), (4, [], .pointer (some ⟨(ν1 0), 0, none⟩)), (8, [], .pointer (some ⟨(ν1 1), 0, none⟩)), (10, [], .int .u64 ((mkM (x1 % 64).toNat (imin x2 (64 - x1 % 64)).toNat : Nat) : Int)), (11, [], .int .i64 (imin x2 (64 - x1 % 64)))], [((ν1 0), .cells [.int .i64 ((n : Nat) : Int), .slice (some ⟨g22, 0, none⟩) nw c23] 26), ((ν1 1), .cells [.int .i64 0, .slice none 0 0] 26), (g22, .row 59 nw tot24 (u64s wsx 0))], [], by as_aux_lemma => kernel_rfl, trivial, fun ac wd hS => ?_⟩
      refine list_nil_seq ?_
      refine wp_seq (St.tail 13 hS (by kernel_rfl) (by kernel_rfl) fun w1 hw1 => ?_)
      have hq1 := hS.env; have hq2 := hS.size; have hq3 := hS.defers
      have ew7 : (IntKind.wrap .i64 (Int.tdiv x1 64)) = (x1 / 64) := quo_in (x := x1) (d := 64) (by omega) (by omega) (by omega)
      have ew8 : ((wsx (Int.toNat (x1 / 64) - 0) : Nat) : Int) = ((wsx (Int.toNat (x1 / 64)) : Nat) : Int) := by rw [Nat.sub_zero]
      refine quiet_ops 12 [⟨0, 0, 0⟩, ⟨0, 0, 0⟩, ⟨0, 0, 0⟩, ⟨0, 0, 0⟩, ⟨0, 0, 0⟩, ⟨0, 0, 0⟩, ⟨0, 0, 0⟩, ⟨0, 0, 0⟩, ⟨0, 0, 0⟩, ⟨0, 1, 0⟩, ⟨0, 0, 2⟩, ⟨0, 0, 0⟩] [1, 2, 3, 4, 8, 11, 31, 33, 34, 40, 41] [0, 1, 2] (E' := [(1, [], .int .i64 x1), (2, [], .int .i64 x2), (3, [], .func (.func 28) #[] #[]), (4, [], .pointer (some ⟨(ν1 0), 0, none⟩)), (8, [], .pointer (some ⟨(ν1 1), 0, none⟩)), (11, [], .int .i64 (imin x2 (64 - x1 % 64))), (31, [], .slice (some ⟨g22, 0, none⟩) nw c23), (33, [], .int .i64 (IntKind.wrap .i64 (Int.tdiv x1 64))), (34, [], .func (.func 28) #[] #[]), (40, [], .int .u64 ((wsx (Int.toNat (IntKind.wrap .i64 (Int.tdiv x1 64)) - 0) : Nat) : Int)), (41, [], .int .u64 ((mkM (x1 % 64).toNat (imin x2 (64 - x1 % 64)).toNat : Nat) : Int))]) (H' := [((ν1 0), .cells [.int .i64 ((n : Nat) : Int), .slice (some ⟨g22, 0, none⟩) nw c23] 26), ((ν1 1), .cells [.int .i64 0, .slice none 0 0] 26), (g22, .row 59 nw tot24 (u64s wsx 0))]) (obs := [g22 = g22, Int.toNat (IntKind.wrap .i64 (Int.tdiv x1 64)) < nw, 0 ≤ (IntKind.wrap .i64 (Int.tdiv x1 64)) ∧ (IntKind.wrap .i64 (Int.tdiv x1 64)) < ((nw : Nat) : Int), (ν1 0) = (ν1 0), (ν1 0) = (ν1 0)]) (by as_aux_lemma => kernel_rfl) (⟨rfl, (by (try simp only [ew7, ew8]); first | omega | (intro _; exact ⟨rfl, trivial⟩) | (simp; omega) | (simp_all; done) | (simp_all; omega)), (by (try simp only [ew7, ew8]); first | omega | (intro _; exact ⟨rfl, trivial⟩) | (simp; omega) | (simp_all; done) | (simp_all; omega)), rfl, rfl, trivial⟩ : AllP [g22 = g22, Int.toNat (IntKind.wrap .i64 (Int.tdiv x1 64)) < nw, 0 ≤ (IntKind.wrap .i64 (Int.tdiv x1 64)) ∧ (IntKind.wrap .i64 (Int.tdiv x1 64)) < ((nw : Nat) : Int), (ν1 0) = (ν1 0), (ν1 0) = (ν1 0)]) hq1 hq2 hq3 (fun w_ e_ => e_ ▸ hw1) fun a2 hq1 hq2 hq3 => ?_
      simp only [ew7, ew8] at hq1
      refine quiet_call 0 0 (f := 28) (args := #[.int .u64 ((wsx (Int.toNat (x1 / 64)) : Nat) : Int), .int .u64 ((mkM (x1 % 64).toNat (imin x2 (64 - x1 % 64)).toNat : Nat) : Int)]) (obs := []) (v := .int .u64 ((tOp false (wsx (Int.toNat (x1 / 64))) (mkM (x1 % 64).toNat (imin x2 (64 - x1 % 64)).toNat) : Nat) : Int)) (by as_aux_lemma => kernel_rfl) trivial (by as_aux_lemma => kernel_rfl) hq1 hq2 hq3 (fun w_ e_ => e_ ▸ hw1) (fun w_ h_ => (bits_without1 (wsx (Int.toNat (x1 / 64))) (mkM (x1 % 64).toNat (imin x2 (64 - x1 % 64)).toNat) w_ (by first | exact i1.small _ (by rw [i1.many]; omega) | exact mkM_lt (by omega)) (by first | exact i1.small _ (by rw [i1.many]; omega) | exact mkM_lt (by omega))).mono (fun e_ w2 hh => ⟨hh.1, hh.2.trans h_⟩)) fun a2 he2 => ?_
      subst he2
      replace hq1 := quiet_put (d := 42) (v := .int .u64 ((tOp false (wsx (Int.toNat (x1 / 64))) (mkM (x1 % 64).toNat (imin x2 (64 - x1 % 64)).toNat) : Nat) : Int)) hq1 hq2 (by decide)
      replace hq3 := (put_defers _ (some 42) (.int .u64 ((tOp false (wsx (Int.toNat (x1 / 64))) (mkM (x1 % 64).toNat (imin x2 (64 - x1 % 64)).toNat) : Nat) : Int))).trans hq3
      replace hq2 := Nat.le_trans hq2 (Nat.le_of_eq (put_size _ (some 42) (.int .u64 ((tOp false (wsx (Int.toNat (x1 / 64))) (mkM (x1 % 64).toNat (imin x2 (64 - x1 % 64)).toNat) : Nat) : Int))).symm)
      refine wpQuiet_nil ?_
      have hS := (⟨hq3, hq2, hq1, hw1⟩ : St _ _ _ _ _ _ _)
      clear hq1 hq2 hq3
      refine St.ops 2 [⟨0, 1, 0⟩, ⟨0, 0, 2⟩] [1, 2, 3, 4, 8, 11] [0, 1, 2] hS fun _ => ⟨[(1, [], .int .i64 x1), (2, [], .int .i64 x2), (3, [], .func (.func 28) #[] #[]), (4, [], .pointer (some ⟨(ν1 0), 0, none⟩)), (8, [], .pointer (some ⟨(ν1 1), 0, none⟩)), (11, [], .int .i64 (imin x2 (64 - x1 % 64)))], [((ν1 0), .cells [.int .i64 ((n : Nat) : Int), .slice (some ⟨g22, 0, none⟩) nw c23] 26), ((ν1 1), .cells [.int .i64 0, .slice none 0 0] 26), (g22, .row 59 nw tot24 (fun x => if x = Int.toNat (x1 / 64) then .int .u64 ((tOp false (wsx (Int.toNat (x1 / 64))) (mkM (x1 % 64).toNat (imin x2 (64 - x1 % 64)).toNat) : Nat) : Int) else (u64s wsx 0) x))], [g22 = g22, Int.toNat (x1 / 64) < nw, 0 ≤ (x1 / 64) ∧ (x1 / 64) < ((nw : Nat) : Int)], by as_aux_lemma => kernel_rfl, ⟨rfl, (by first | omega | (intro _; exact ⟨rfl, trivial⟩) | (simp; omega) | (simp_all; done) | (simp_all; omega)), (by first | omega | (intro _; exact ⟨rfl, trivial⟩) | (simp; omega) | (simp_all; done) | (simp_all; omega)), trivial⟩, fun ac wd hS => ?_⟩
      refine list_nil_seq ?_
      have ew9 : (IntKind.wrap .i64 (x1 + (imin x2 (64 - x1 % 64)))) = (x1 + (imin x2 (64 - x1 % 64))) := i64_in (x := (x1 + (imin x2 (64 - x1 % 64)))) (by omega)
      have ew10 : (IntKind.wrap .i64 (x2 - (imin x2 (64 - x1 % 64)))) = (x2 - (imin x2 (64 - x1 % 64))) := i64_in (x := (x2 - (imin x2 (64 - x1 % 64)))) (by omega)
      refine St.region [⟨0, 0, 0⟩, ⟨0, 0, 0⟩, ⟨0, 0, 0⟩, ⟨0, 0, 0⟩, ⟨0, 0, 0⟩, ⟨0, 0, 0⟩, ⟨0, 0, 0⟩, ⟨0, 0, 0⟩] [1, 2, 3, 4, 8] [0, 1, 2] hS fun _ => ⟨[(1, [], .int .i64 (IntKind.wrap .i64 (x1 + (imin x2 (64 - x1 % 64))))), (2, [], .int .i64 (IntKind.wrap .i64 (x2 - (imin x2 (64 - x1 % 64))))), (3, [], .func (.func 28) #[] #[]), (4, [], .pointer (some ⟨(ν1 0), 0, none⟩)), (8, [], .pointer (some ⟨(ν1 1), 0, none⟩))], [((ν1 0), .cells [.int .i64 ((n : Nat) : Int), .slice (some ⟨g22, 0, none⟩) nw c23] 26), ((ν1 1), .cells [.int .i64 0, .slice none 0 0] 26), (g22, .row 59 nw tot24 (fun x => if x = Int.toNat (x1 / 64) then .int .u64 ((tOp false (wsx (Int.toNat (x1 / 64))) (mkM (x1 % 64).toNat (imin x2 (64 - x1 % 64)).toNat) : Nat) : Int) else (u64s wsx 0) x))], [], by as_aux_lemma => kernel_rfl, trivial, fun ac wd hS => ?_⟩
      simp only [ew9, ew10] at hS
      refine pop_block ?_
      replace hS := hS.to (WS.refn (i := 2) (g := u64s (putW wsx (Int.toNat (x1 / 64)) (tOp false (wsx (Int.toNat (x1 / 64))) (mkM (Int.toNat (x1 % 64)) (Int.toNat (imin x2 (64 - (x1 % 64))))))) 0) hS.mem rfl (fun o _ => (congrFun (u64s_put _ _ _) o).symm) rfl)
      exact pop_then ⟨((x1 + (imin x2 (64 - x1 % 64))), (x2 - (imin x2 (64 - x1 % 64))), (putW wsx (Int.toNat (x1 / 64)) (tOp false (wsx (Int.toNat (x1 / 64))) (mkM (Int.toNat (x1 % 64)) (Int.toNat (imin x2 (64 - (x1 % 64)))))))), ⟨(by first | omega | assumption | (simp; done) | (simp; omega)), (by exact i1.turnI (m := imin x2 (64 - (x1 % 64))) hw0 (by omega) (by omega) (by omega) (by omega))⟩, (by first | omega | (simp; omega) | (simp only []; omega)), hS⟩
    · have hb6o := hb6
      try simp only [decide_eq_true_eq, decide_eq_false_iff_not, beq_iff_eq, bne_iff_ne, beq_eq_false_iff_ne, bne_eq_false_iff_eq, Bool.and_eq_true, Bool.or_eq_true, Bool.and_eq_false_iff, Bool.or_eq_false_iff, Bool.not_eq_true', Bool.not_eq_false', ne_eq, Int.not_lt, Int.not_le, Bool.true_and, Bool.false_and, Bool.and_true, Bool.and_false, Bool.or_true, Bool.or_false, Bool.true_or, Bool.false_or, Bool.not_true, Bool.not_false] at hb6
      refine wp_exit ?_
      refine pop_then_exit ?_
      refine pop_then_exit ?_
      refine pop_block_hit ?_
      refine pop_then ?_
      refine St.region_seq [⟨0, 0, 0⟩, ⟨0, 0, 1⟩, ⟨0, 0, 0⟩] [8, 9] [1, 2] hS fun _ => ⟨[(8, [], .pointer (some ⟨(ν1 1), 0, none⟩)), (9, [], .int .i64 0)], [((ν1 1), .cells [.int .i64 ((n : Nat) : Int), .slice (some ⟨g22, 0, none⟩) nw c23] 26), (g22, .row 59 nw tot24 (u64s wsx 0))], [(ν1 1) = (ν1 1), (ν1 1) = (ν1 1), (ν1 0) = (ν1 0), (ν1 0) = (ν1 0)], by as_aux_lemma => kernel_rfl, ⟨rfl, rfl, rfl, rfl, trivial⟩, fun ac wd hS => ?_⟩
      refine wp_ret ?_
      refine St.ret 0 hS (v := .tuple #[.agg #[.int .i64 ((n : Nat) : Int), .slice (some ⟨g22, 0, none⟩) nw c23], .int .i64 0]) (obs := [(ν1 1) = (ν1 1), (ν1 1) = (ν1 1)]) (by as_aux_lemma => kernel_rfl) ⟨rfl, rfl, trivial⟩ fun hw => ?_
      refine ⟨g22, 0, c23, wsx, retd (tuple2 rfl (vint ?_)), ?_, (.inr (hw.mine _ (List.mem_of_getElem? (i := 1) rfl) rfl)), (HE.fn_hi (by omega) (HE.of_row (hw.heap _ (List.mem_of_getElem? (i := 1) rfl)) (fun _ _ => rfl))), hw.fr⟩
      all_goals (first | rfl | exact trnE_no (by assumption) | exact trnE_yes (by assumption) | (rw [trn_no (by assumption)]; exact hW) | (rw [trn_yes (by assumption), show k.toNat = (x1 - f).toNat by omega]; exact i1))

set_option maxRecDepth 100000 in
set_option maxHeartbeats 1000000 in
theorem bits_Without (g : Nat) (o : Nat) (c : Nat) (nw : Nat) (ws : Nat → Nat) (n : Nat) (f : Int) (k : Int) (p : Nat → Bool) (w : World) (hh0 : HE.holds w g (.fn o (o + nw) (u64s ws o))) (hW : Words ws nw n p) (hn : n ≤ 1048576) :
    Calls Tryd.prog 15 #[.agg #[.int .i64 ((n : Nat) : Int), .slice (some ⟨g, o, none⟩) nw c], .int .i64 f, .int .i64 k] w fun e w' => ∃ (g2 : Nat) (o2 : Nat) (c2 : Nat) (ws2 : Nat → Nat), e = .returned (.tuple #[.agg #[.int .i64 ((n : Nat) : Int), .slice (some ⟨g2, o2, none⟩) nw c2], .int .i64 (trnE n f k)]) ∧ Words ws2 nw n (trn p n f k false) ∧ (g2 = g ∨ w.heap.size ≤ g2) ∧ HE.holds w' g2 (.fn o2 (o2 + nw) (u64s ws2 o2)) ∧ Fr w w' [] [] := by
  refine enter (args := [.agg #[.int .i64 ((n : Nat) : Int), .slice (some ⟨g, o, none⟩) nw c], .int .i64 f, .int .i64 k]) (A := []) Tryd.func15 rfl 14 rfl [(g, .fn o (o + nw) (u64s ws o))] (WS.startL ⟨⟨rfl, hh0⟩, trivial⟩) fun ac hS => ?_
  refine St.region_seq [⟨0, 0, 0⟩, ⟨0, 0, 0⟩, ⟨0, 0, 0⟩] [1, 2, 3, 6] [0, 1, 2] hS fun ν1 => ⟨[(1, [], .int .i64 f), (2, [], .int .i64 k), (3, [], .pointer (some ⟨(ν1 0), 0, none⟩)), (6, [], .pointer (some ⟨(ν1 1), 0, none⟩))], [(g, .fn o (o + nw) (u64s ws o)), ((ν1 0), .cells [.int .i64 ((n : Nat) : Int), .slice (some ⟨g, o, none⟩) nw c] 26), ((ν1 1), .cells [.int .i64 0, .slice none 0 0] 26)], [], by as_aux_lemma => kernel_rfl, trivial, fun ac wd hS => ?_⟩
  refine wp_region_seq ?_
  refine St.ops 3 [⟨0, 0, 1⟩, ⟨0, 0, 0⟩, ⟨0, 0, 0⟩] [6, 8, 9, 10] [0, 2] hS fun _ => ⟨[(6, [], .pointer (some ⟨(ν1 1), 0, none⟩)), (8, [], .agg #[.int .i64 ((n : Nat) : Int), .slice (some ⟨g, o, none⟩) nw c]), (9, [], .int .i64 f), (10, [], .int .i64 k)], [(g, .fn o (o + nw) (u64s ws o)), ((ν1 1), .cells [.int .i64 0, .slice none 0 0] 26)], [(ν1 0) = (ν1 0), (ν1 0) = (ν1 0)], by as_aux_lemma => kernel_rfl, ⟨rfl, rfl, trivial⟩, fun ac wd hS => ?_⟩
  refine St.call 0 0 hS (f := 25) (args := #[.agg #[.int .i64 ((n : Nat) : Int), .slice (some ⟨g, o, none⟩) nw c], .int .i64 f, .int .i64 k, .func (.func 28) #[] #[]]) (obs := []) (by as_aux_lemma => kernel_rfl) trivial (by as_aux_lemma => kernel_rfl) (bits_turn_without g o c nw _ n f k p _ (hS.mem.heap _ (List.mem_of_getElem? (i := 0) rfl)) (by first | assumption | omega | (simp_all; done) | (simp_all; omega)) (by first | assumption | omega | (simp_all; done) | (simp_all; omega))) ?_
  rintro _ wd ⟨g21, o22, c23, ws24, rfl, hW25, hog, hoh, hF⟩
  have ho6 : g21 = g ∨ w.heap.size ≤ g21 := by rcases hog with hx | hx; rw [hx]; exact (.inl rfl); exact .inr (Nat.le_trans hS.mem.fr.size hx)
  refine ⟨.tuple #[.agg #[.int .i64 ((n : Nat) : Int), .slice (some ⟨g21, o22, none⟩) nw c23], .int .i64 (trnE n f k)], rfl, ?_⟩
  replace hS := St.put (d := 11) (v := .tuple #[.agg #[.int .i64 ((n : Nat) : Int), .slice (some ⟨g21, o22, none⟩) nw c23], .int .i64 (trnE n f k)]) (hS.to (hS.mem.outF hF 0 rfl rfl hog hoh)) (by decide)
  clear hF
  refine St.ops 4 [⟨0, 0, 0⟩, ⟨0, 0, 0⟩, ⟨0, 0, 1⟩, ⟨0, 0, 0⟩] [6, 7] [1, 2] hS fun _ => ⟨[(6, [], .pointer (some ⟨(ν1 1), 0, none⟩)), (7, [], .int .i64 (trnE n f k))], [((ν1 1), .cells [.int .i64 ((n : Nat) : Int), .slice (some ⟨g21, o22, none⟩) nw c23] 26), (g21, .fn o22 (o22 + nw) (u64s ws24 o22))], [(ν1 1) = (ν1 1), (ν1 1) = (ν1 1)], by as_aux_lemma => kernel_rfl, ⟨rfl, rfl, trivial⟩, fun ac wd hS => ?_⟩
  refine list_nil_seq ?_
  refine wp_ret ?_
  refine St.ret 0 hS (v := .tuple #[.agg #[.int .i64 ((n : Nat) : Int), .slice (some ⟨g21, o22, none⟩) nw c23], .int .i64 (trnE n f k)]) (obs := [(ν1 1) = (ν1 1), (ν1 1) = (ν1 1)]) (by as_aux_lemma => kernel_rfl) ⟨rfl, rfl, trivial⟩ fun hw => ?_
  refine ⟨g21, o22, c23, ws24, retd rfl, ?_, ho6, (hw.heap _ (List.mem_of_getElem? (i := 1) rfl)), hw.fr⟩
  all_goals (first | rfl | assumption)

set_option maxRecDepth 100000 in
set_option maxHeartbeats 1000000 in
theorem bits_New (length : Int) (w : World) :
    Calls Tryd.prog 8 #[.int .i64 length] w fun e w' => ∃ (g2 : Nat) (c2 : Nat), e = .returned (.agg #[.int .i64 ((capN length : Nat) : Int), .slice (some ⟨g2, 0, none⟩) ((capN length + 63) / 64) c2]) ∧ w.heap.size ≤ g2 ∧ HE.holds w' g2 (.fn 0 (0 + ((capN length + 63) / 64)) (u64s (fun _ => 0) 0)) ∧ Fr w w' [] [] := by
  have hcap := capN_le length
  refine enter (args := [.int .i64 length]) (A := []) Tryd.func8 rfl 13 rfl [] (WS.start (AllAr.nil w)) fun ac hS => ?_
  refine St.region_seq [⟨0, 0, 0⟩] [0, 2] [0] hS fun ν1 => ⟨[(0, [], .int .i64 length), (2, [], .pointer (some ⟨(ν1 0), 0, none⟩))], [((ν1 0), .cells [.int .i64 0, .slice none 0 0] 26)], [], by as_aux_lemma => kernel_rfl, trivial, fun ac wd hS => ?_⟩
  have ew1 : (imax 0 (imin length 1048576)) = ((capN length : Nat) : Int) := capN_eq length
  refine St.region_seq [⟨0, 0, 0⟩, ⟨0, 0, 0⟩, ⟨0, 0, 0⟩, ⟨0, 0, 0⟩] [0, 2] [0] hS fun _ => ⟨[(0, [], .int .i64 (imax 0 (imin length 1048576))), (2, [], .pointer (some ⟨(ν1 0), 0, none⟩))], [((ν1 0), .cells [.int .i64 0, .slice none 0 0] 26)], [], by as_aux_lemma => kernel_rfl, trivial, fun ac wd hS => ?_⟩
  simp only [ew1] at hS
  have ew2 : (IntKind.wrap .i64 (((capN length : Nat) : Int) + 64)) = (((capN length : Nat) : Int) + 64) := i64_in (x := (((capN length : Nat) : Int) + 64)) (by omega)
  have ew3 : (IntKind.wrap .i64 ((((capN length : Nat) : Int) + 64) - 1)) = ((((capN length : Nat) : Int) + 64) - 1) := i64_in (x := ((((capN length : Nat) : Int) + 64) - 1)) (by omega)
  have ew4 : (IntKind.wrap .i64 (Int.tdiv ((((capN length : Nat) : Int) + 64) - 1) 64)) = (((((capN length : Nat) : Int) + 64) - 1) / 64) := quo_in (x := ((((capN length : Nat) : Int) + 64) - 1)) (d := 64) (by omega) (by omega) (by omega)
  refine St.region_seq [⟨0, 0, 0⟩, ⟨0, 0, 0⟩, ⟨0, 0, 0⟩, ⟨0, 0, 0⟩, ⟨0, 0, 0⟩, ⟨0, 9, 0⟩, ⟨0, 0, 0⟩, ⟨0, 0, 0⟩] [2] [0, 1] hS fun ν3 => ⟨[(2, [], .pointer (some ⟨(ν1 0), 0, none⟩))], [((ν1 0), .cells [.int .i64 ((capN length : Nat) : Int), .slice (some ⟨(ν3 0), 0, none⟩) (Int.toNat (IntKind.wrap .i64 (Int.tdiv (IntKind.wrap .i64 ((IntKind.wrap .i64 (((capN length : Nat) : Int) + 64)) - 1)) 64))) (Int.toNat (IntKind.wrap .i64 (Int.tdiv (IntKind.wrap .i64 ((IntKind.wrap .i64 (((capN length : Nat) : Int) + 64)) - 1)) 64)))] 26), ((ν3 0), .row 59 (Int.toNat (IntKind.wrap .i64 (Int.tdiv (IntKind.wrap .i64 ((IntKind.wrap .i64 (((capN length : Nat) : Int) + 64)) - 1)) 64))) (Int.toNat (IntKind.wrap .i64 (Int.tdiv (IntKind.wrap .i64 ((IntKind.wrap .i64 (((capN length : Nat) : Int) + 64)) - 1)) 64))) (fun _ => .int .u64 0))], [(ν1 0) = (ν1 0), (ν1 0) = (ν1 0), (IntKind.wrap .i64 (Int.tdiv (IntKind.wrap .i64 ((IntKind.wrap .i64 (((capN length : Nat) : Int) + 64)) - 1)) 64)) = (IntKind.wrap .i64 (Int.tdiv (IntKind.wrap .i64 ((IntKind.wrap .i64 (((capN length : Nat) : Int) + 64)) - 1)) 64)), 0 ≤ (IntKind.wrap .i64 (Int.tdiv (IntKind.wrap .i64 ((IntKind.wrap .i64 (((capN length : Nat) : Int) + 64)) - 1)) 64)) ∧ (IntKind.wrap .i64 (Int.tdiv (IntKind.wrap .i64 ((IntKind.wrap .i64 (((capN length : Nat) : Int) + 64)) - 1)) 64)) ≤ 2 ^ 32 ∧ 8 ≤ 64], by as_aux_lemma => kernel_rfl, ⟨rfl, rfl, rfl, (by (try simp only [ew2, ew3, ew4]); first | omega | (intro _; exact ⟨rfl, trivial⟩) | (simp; omega) | (simp_all; done) | (simp_all; omega)), trivial⟩, fun ac wd hS => ?_⟩
  simp only [ew2, ew3, ew4] at hS
  refine wp_ret ?_
  refine St.ret 0 hS (v := .agg #[.int .i64 ((capN length : Nat) : Int), .slice (some ⟨(ν3 0), 0, none⟩) (Int.toNat (((((capN length : Nat) : Int) + 64) - 1) / 64)) (Int.toNat (((((capN length : Nat) : Int) + 64) - 1) / 64))]) (obs := [(ν1 0) = (ν1 0), (ν1 0) = (ν1 0)]) (by as_aux_lemma => kernel_rfl) ⟨rfl, rfl, trivial⟩ fun hw => ?_
  refine ⟨(ν3 0), (Int.toNat (((((capN length : Nat) : Int) + 64) - 1) / 64)), retd (agg2 rfl ?_), hw.mine _ (List.mem_of_getElem? (i := 1) rfl) rfl, (HE.fn_hi (by omega) (HE.of_row (hw.heap _ (List.mem_of_getElem? (i := 1) rfl)) (fun _ _ => rfl))), hw.fr⟩
  all_goals (first | rfl | (simp; done) | (simp; omega) | omega | (simp_all; done) | (simp_all; omega))

end Go.Proofs.YtdjdgdkkhadkoaaDoor.K
