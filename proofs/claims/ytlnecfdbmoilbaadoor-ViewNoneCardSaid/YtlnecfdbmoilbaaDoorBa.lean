/-
  Walks, printed by w2.py.
-/
import Derived.Test.YtlnecfdbmoilbaaDoorVw
import Derived.Test.YtlnecfdbmoilbaaDoorKo
import Derived.Test.YtlnecfdbmoilbaaDoorProg
namespace Go.Proofs.YtlnecfdbmoilbaaDoor.K
set_option linter.unusedVariables false
set_option linter.unusedSimpArgs false

set_option maxRecDepth 100000 in
set_option maxHeartbeats 1000000 in
theorem bits_Len_ (g : Nat) (o : Nat) (c : Nat) (nw : Nat) (n : Nat) (w : World) :
    Calls Tryd.prog 35 #[.agg #[vi ((n : Nat) : Int), sc g o nw c]] w fun e w' => e = .returned (vi ((n : Nat) : Int)) ∧ Fr w w' no no := by
 refine enter (args := [.agg #[vi ((n : Nat) : Int), sc g o nw c]]) (D := no) (A := []) Tryd.func35 rfl 5 rfl [] (WS.startL trivial) fun ac hS => ?_
 refine hS.regS [0, 0] [] fun ν1 => seg [(1, pt (ν1 0) 0)] [(0, some ((ν1 0), .cells [vi ((n : Nat) : Int), sc g o nw c] 58))] [] trivial fun ac wd hS => ?_
 refine hS.regS [0, 0, 0] [] fun _ => seg [(2, vi ((n : Nat) : Int))] [] [.e (ν1 0)] trivial fun ac wd hS => ?_
 refine wp_ret ?_
 refine St.retC 0 hS (vi ((n : Nat) : Int)) [] trivial fun hw => ?_
 refine ⟨retd rfl, hw.fr0⟩

set_option maxRecDepth 100000 in
set_option maxHeartbeats 1000000 in
theorem bits_Has (g : Nat) (o : Nat) (c : Nat) (nw : Nat) (ws : Nat → Nat) (n : Nat) (i : Int) (p : Nat → Bool) (w : World) (hh0 : HE.holds w g (.fn o (o + nw) (u64s ws o))) (hW : Words ws nw n p) (hn : n ≤ 1048576) :
    Calls Tryd.prog 77 #[.agg #[vi ((n : Nat) : Int), sc g o nw c], vi i] w fun e w' => e = .returned (vb (hasV p n i)) ∧ Fr w w' no no := by
 have hnw := hW.many
 have hsm := hW.small
 refine enter (args := [.agg #[vi ((n : Nat) : Int), sc g o nw c], vi i]) (D := no) (A := []) Tryd.func77 rfl 26 rfl [(g, .fn o (o + nw) (u64s ws o))] (WS.startL ⟨⟨rfl, hh0⟩, trivial⟩) fun ac hS => ?_
 refine hS.regS [0, 0] [1] fun ν1 => seg [(2, pt (ν1 0) 0)] [(0, none), (1, some ((ν1 0), .cells [vi ((n : Nat) : Int), sc g o nw c] 58))] [] trivial fun ac wd hS => ?_
 refine wp_region_seq ?_
 refine hS.opsC 9 [0, 0, 0, 3, 3, 103, 3, 80, 0] [1, 2] fun _ => seg [(13, vb ((decide ((0 : Int) ≤ i)) && (decide ((i : Int) < ((n : Nat) : Int)))))] [(0, none), (1, none)] [.p ((((decide ((0 : Int) ≤ i)) = true) ∧ True) → AllP [((ν1 0) : Nat) = (ν1 0)])] ⟨(fun ⟨hc0, _⟩ => by replace hc0 := nrm hc0; exact ⟨rfl, trivial⟩), trivial⟩ fun ac wd hS => ?_
 rcases Bool.eq_false_or_eq_true ((decide ((0 : Int) ≤ i)) && (decide ((i : Int) < ((n : Nat) : Int)))) with hg1o | hg1o
 ·
  have hg1 := nrm hg1o
  replace hS := hS.fix 13 (vb true) (congrArg Value.bool hg1o)
  refine hS.opsC 13 [1, 101, 1, 21, 21, fx 1 (vu ((ws (Int.toNat (i / 64)) : Nat) : Int)), 1, 21, fx 11 (vu (((ws (Int.toNat (i / 64))) / 2 ^ Int.toNat (i % 64) : Nat) : Int)), 21, 1, 70, 0] [] fun _ => seg [(4, vb ((((((ws (Int.toNat (i / 64))) / 2 ^ Int.toNat (i % 64)) &&& 1 : Nat) : Int) : Int) == 1))] [] [.t true, .t true, .t true, .p (bitRaw .and .u64 (((ws (Int.toNat (i / 64))) / 2 ^ Int.toNat (i % 64) : Nat) : Int) 1 = ((((ws (Int.toNat (i / 64))) / 2 ^ Int.toNat (i % 64)) &&& 1 : Nat) : Int)), .t true, .p ((vu (Int.fdiv ((ws (Int.toNat (i / 64)) : Nat) : Int) (2 ^ (min (Int.toNat (i % 64)) 64))) : Value) = vu (((ws (Int.toNat (i / 64))) / 2 ^ Int.toNat (i % 64) : Nat) : Int)), .p (0 ≤ (i % 64)), .t true, .p (64 ≠ 0 ∧ Int.tmod i 64 = i % 64), .t true, .t true, .p ((((u64s ws o) (o + Int.toNat (i / 64) * 1)) : Value) = vu ((ws (Int.toNat (i / 64)) : Nat) : Int)), .e g, .p (o ≤ o + Int.toNat (i / 64) * 1 ∧ o + Int.toNat (i / 64) * 1 < (o + nw)), .t true, .p (0 ≤ (i / 64) ∧ (i / 64) < ((nw : Nat) : Int)), .t true, .p (64 ≠ 0 ∧ IntKind.i64.wrap (Int.tdiv i 64) = i / 64), .t true, .t true, .e (ν1 0), .t true] ⟨iand_u (a := (ws (Int.toNat (i / 64))) / 2 ^ Int.toNat (i % 64)) (b := 1) (by first | exact hW.small _ (by rw [hW.many]; omega) | exact flip_lt _ | (exact Nat.lt_of_le_of_lt (Nat.div_le_self _ _) (flip_lt _)) | (exact Nat.lt_of_le_of_lt (Nat.div_le_self _ _) (hW.small _ (by omega))) | (exact mkM_lt (by omega)) | omega) (by first | exact hW.small _ (by rw [hW.many]; omega) | exact flip_lt _ | (exact Nat.lt_of_le_of_lt (Nat.div_le_self _ _) (flip_lt _)) | (exact Nat.lt_of_le_of_lt (Nat.div_le_self _ _) (hW.small _ (by omega))) | (exact mkM_lt (by omega)) | omega), (vint (shr_u (a := ws (Int.toNat (i / 64))) (r := (i % 64)) (by omega) (by omega))), by omega, rem2 (by omega) (by omega), (u64s_rel ws o (Int.toNat (i / 64))), (by omega), (by omega), quo2 (by omega) (by omega) (by omega), trivial⟩ fun ac wd hS => ?_
  refine list_nil_seq ?_
  refine wp_ret ?_
  refine St.retC 0 hS (vb ((((((ws (Int.toNat (i / 64))) / 2 ^ Int.toNat (i % 64)) &&& 1 : Nat) : Int) : Int) == 1)) [] trivial fun hw => ?_
  refine ⟨retd (vbool ?_), hw.fr0⟩
  all_goals (first | (exact has_eq hW (by omega) (by omega)) | exact has_no (by omega))
 ·
  have hg1 := nrm hg1o
  replace hS := hS.fix 13 (vb false) (congrArg Value.bool hg1o)
  refine hS.opsC 13 [2, 2, 2, 2, 2, 2, 2, 2, 2, 2, 2, 60, 0] [] fun _ => seg [(4, vb false)] [] [.t false, .t false, .t false, .t false, .t false, .t false, .t false, .t false, .t false, .t false, .t false, .t false] trivial fun ac wd hS => ?_
  refine list_nil_seq ?_
  refine wp_ret ?_
  refine St.retC 0 hS (vb false) [] trivial fun hw => ?_
  refine ⟨retd (vbool ?_), hw.fr0⟩
  all_goals (first | (exact has_eq hW (by omega) (by omega)) | exact has_no (by omega))

set_option maxRecDepth 100000 in
set_option maxHeartbeats 1000000 in
theorem bits_within (g : Nat) (o : Nat) (c : Nat) (nw : Nat) (n : Nat) (f : Int) (k : Int) (w : World) (hn : n ≤ 1048576) :
    Calls Tryd.prog 74 #[.agg #[vi ((n : Nat) : Int), sc g o nw c], vi f, vi k] w fun e w' => e = .returned (vb (wth n f k)) ∧ Fr w w' no no := by
 refine enter (args := [.agg #[vi ((n : Nat) : Int), sc g o nw c], vi f, vi k]) (D := no) (A := []) Tryd.func74 rfl 27 rfl [] (WS.startL trivial) fun ac hS => ?_
 refine hS.regS [0, 0] [1, 2] fun ν1 => seg [(3, pt (ν1 0) 0)] [(0, some ((ν1 0), .cells [vi ((n : Nat) : Int), sc g o nw c] 58))] [] trivial fun ac wd hS => ?_
 refine wp_region_seq ?_
 refine hS.opsC 13 [0, 0, 0, 3, 3, 80, 0, 3, 3, 3, 3, 80, 0] [1, 2, 3] fun _ => seg [(19, vb (((decide ((0 : Int) ≤ f)) && (decide ((0 : Int) ≤ k))) && (decide ((k : Int) ≤ ((n : Nat) : Int)))))] [(0, none)] [.p (((((decide ((0 : Int) ≤ f)) && (decide ((0 : Int) ≤ k))) = true) ∧ True) → AllP [((ν1 0) : Nat) = (ν1 0)])] ⟨(fun ⟨hc0, _⟩ => by replace hc0 := nrm hc0; exact ⟨rfl, trivial⟩), trivial⟩ fun ac wd hS => ?_
 rcases Bool.eq_false_or_eq_true (((decide ((0 : Int) ≤ f)) && (decide ((0 : Int) ≤ k))) && (decide ((k : Int) ≤ ((n : Nat) : Int)))) with hg1o | hg1o
 ·
  have hg1 := nrm hg1o
  replace hS := hS.fix 19 (vb true) (congrArg Value.bool hg1o)
  refine hS.opsC 8 [1, 1, 1, 1, 21, 1, 70, 0] [] fun _ => seg [(6, vb (decide ((f : Int) ≤ (((n : Nat) : Int) - k))))] [] [.t true, .t true, .t true, .p (fit .i64 (((n : Nat) : Int) - k)), .t true, .t true, .e (ν1 0), .t true, .t true] ⟨fit_i64 (by omega), trivial⟩ fun ac wd hS => ?_
  refine list_nil_seq ?_
  refine wp_ret ?_
  refine St.retC 0 hS (vb (decide ((f : Int) ≤ (((n : Nat) : Int) - k)))) [] trivial fun hw => ?_
  refine ⟨retd (vbool ?_), hw.fr0⟩
  all_goals (first | rfl | (simp [wth]; done) | (simp [wth]; omega) | (simp_all [wth]; done) | (simp_all [wth]; omega))
 ·
  have hg1 := nrm hg1o
  replace hS := hS.fix 19 (vb false) (congrArg Value.bool hg1o)
  refine hS.opsC 8 [2, 2, 2, 2, 2, 2, 60, 0] [] fun _ => seg [(6, vb false)] [] [.t false, .t false, .t false, .t false, .t false, .t false, .t false] trivial fun ac wd hS => ?_
  refine list_nil_seq ?_
  refine wp_ret ?_
  refine St.retC 0 hS (vb false) [] trivial fun hw => ?_
  refine ⟨retd (vbool ?_), hw.fr0⟩
  all_goals (first | rfl | (simp [wth]; done) | (simp [wth]; omega) | (simp_all [wth]; done) | (simp_all [wth]; omega))

set_option maxRecDepth 100000 in
set_option maxHeartbeats 1000000 in
theorem bits_mask (f : Int) (k : Int) (w : World) (hf : 0 ≤ f) (hk : 1 ≤ k) :
    Calls Tryd.prog 75 #[vi f, vi k] w fun e w' => e = .returned (.tuple #[vu ((mkM (f % 64).toNat (imin k (64 - f % 64)).toNat : Nat) : Int), vi (imin k (64 - f % 64))]) ∧ Fr w w' no no := by
 have hm : 1 ≤ imin k (64 - f % 64) ∧ imin k (64 - f % 64) ≤ 64 - f % 64 := by unfold imin; split <;> omega
 refine enter (args := [vi f, vi k]) (D := no) (A := []) Tryd.func75 rfl 19 rfl [] (WS.startL trivial) fun ac hS => ?_
 refine hS.regS [0, 0] [0, 1] fun _ => seg [] [] [] trivial fun ac wd hS => ?_
 refine hS.regS [0, 0, 20, 20, 0, 0] [0] fun _ => seg [(6, vi (imin k (64 - (f % 64))))] [] [.p (fit .i64 (64 - (f % 64))), .p (64 ≠ 0 ∧ Int.tmod f 64 = f % 64)] ⟨fit_i64 (by omega), rem2 (by omega) (by omega), trivial⟩ fun ac wd hS => ?_
 refine hS.regS [0, 10, 0, 0, 20, 10, 0, 0, 0] [] fun _ => seg [(4, vu (IntKind.wrap .u64 ((IntKind.wrap .u64 ((IntKind.wrap .u64 (1 * 2 ^ (min (Int.toNat (imin k (64 - (f % 64)))) 64))) - 1)) * 2 ^ (min (Int.toNat (f % 64)) 64)))), (5, vi (imin k (64 - (f % 64))))] [] [.p (0 ≤ (f % 64)), .p (64 ≠ 0 ∧ Int.tmod f 64 = f % 64), .p (0 ≤ (imin k (64 - (f % 64))))] ⟨by omega, rem2 (by omega) (by omega), by omega, trivial⟩ fun ac wd hS => ?_
 refine wp_ret ?_
 refine St.retC 0 hS (.tuple #[vu (IntKind.wrap .u64 ((IntKind.wrap .u64 ((IntKind.wrap .u64 (1 * 2 ^ (min (Int.toNat (imin k (64 - (f % 64)))) 64))) - 1)) * 2 ^ (min (Int.toNat (f % 64)) 64))), vi (imin k (64 - (f % 64)))]) [] trivial fun hw => ?_
 refine ⟨retd (tuple2 (vint ?_) (vint ?_)), hw.fr0⟩
 all_goals (first | rfl | exact mask_eq (x := f % 64) (k := imin k (64 - f % 64)) (by omega) (by omega) (by omega) (by omega))

set_option maxRecDepth 100000 in
set_option maxHeartbeats 1000000 in
theorem bits_Tz (x : Nat) (w : World) (hh0 : HE.holds w 1 (.fn 0 64 dbT)) (h0 : x < 2 ^ 64) (h1 : 0 < x) :
    Calls Tryd.prog 115 #[vu ((x : Nat) : Int)] w fun e w' => e = .returned (vi ((tz x : Nat) : Int)) ∧ Fr w w' no no := by
 obtain ⟨hd1, hd2⟩ := db_facts h0 h1
 simp only [Nat.mul_one, Nat.zero_add] at hd2
 refine enter (args := [vu ((x : Nat) : Int)]) (D := no) (A := []) Tryd.func115 rfl 14 rfl [(1, .fn 0 64 dbT)] (WS.startL ⟨⟨rfl, hh0⟩, trivial⟩) fun ac hS => ?_
 refine hS.regS [0] [0] fun _ => seg [] [(0, none)] [] trivial fun ac wd hS => ?_
 refine wp_seq ?_
 refine hS.regS [0, 0] [0] fun _ => seg [(4, vb ((((x : Nat) : Int) : Int) == 0))] [(0, none)] [] trivial fun ac wd hS => ?_
 refine hS.condK ((((x : Nat) : Int) : Int) == 0) false (by simp; omega) ?_
 show Code.wp _ _ _ _ _
 refine wp_skip ?_
 refine pop_then ?_
 refine hS.regS [0, 0, 0, 0, 0, 0, 30, fx 0 (v8 (dbL.getD (Int.toNat (Int.fdiv (IntKind.wrap .u64 ((iand .u64 ((x : Nat) : Int) (IntKind.wrap .u64 (0 - ((x : Nat) : Int)))) * 285870213051353865)) (2 ^ 58))) 0)), 0, 0] [] fun _ => seg [(2, vi (IntKind.wrap .i64 (dbL.getD (Int.toNat (Int.fdiv (IntKind.wrap .u64 ((iand .u64 ((x : Nat) : Int) (IntKind.wrap .u64 (0 - ((x : Nat) : Int)))) * 285870213051353865)) (2 ^ 58))) 0)))] [(0, none)] [.p (((dbT (0 + Int.toNat (Int.fdiv (IntKind.wrap .u64 ((iand .u64 ((x : Nat) : Int) (IntKind.wrap .u64 (0 - ((x : Nat) : Int)))) * 285870213051353865)) (2 ^ 58)) * 1)) : Value) = v8 (dbL.getD (Int.toNat (Int.fdiv (IntKind.wrap .u64 ((iand .u64 ((x : Nat) : Int) (IntKind.wrap .u64 (0 - ((x : Nat) : Int)))) * 285870213051353865)) (2 ^ 58))) 0)), .e 1, .p (0 ≤ 0 + Int.toNat (Int.fdiv (IntKind.wrap .u64 ((iand .u64 ((x : Nat) : Int) (IntKind.wrap .u64 (0 - ((x : Nat) : Int)))) * 285870213051353865)) (2 ^ 58)) * 1 ∧ 0 + Int.toNat (Int.fdiv (IntKind.wrap .u64 ((iand .u64 ((x : Nat) : Int) (IntKind.wrap .u64 (0 - ((x : Nat) : Int)))) * 285870213051353865)) (2 ^ 58)) * 1 < 64), .p (0 ≤ (Int.fdiv (IntKind.wrap .u64 ((iand .u64 ((x : Nat) : Int) (IntKind.wrap .u64 (0 - ((x : Nat) : Int)))) * 285870213051353865)) (2 ^ 58)) ∧ (Int.fdiv (IntKind.wrap .u64 ((iand .u64 ((x : Nat) : Int) (IntKind.wrap .u64 (0 - ((x : Nat) : Int)))) * 285870213051353865)) (2 ^ 58)) < ((64 : Nat) : Int))] ⟨(dbT_rel (Int.toNat (Int.fdiv (IntKind.wrap .u64 ((iand .u64 ((x : Nat) : Int) (IntKind.wrap .u64 (0 - ((x : Nat) : Int)))) * 285870213051353865)) (2 ^ 58)))), (by first | exact hd1 | omega), (by first | exact hd1 | omega), trivial⟩ fun ac wd hS => ?_
 refine wp_ret ?_
 refine St.retC 0 hS (vi (IntKind.wrap .i64 (dbL.getD (Int.toNat (Int.fdiv (IntKind.wrap .u64 ((iand .u64 ((x : Nat) : Int) (IntKind.wrap .u64 (0 - ((x : Nat) : Int)))) * 285870213051353865)) (2 ^ 58))) 0))) [] trivial fun hw => ?_
 refine ⟨retd (vint ?_), hw.fr0⟩
 all_goals (first | exact hd2 | rfl)

set_option maxRecDepth 100000 in
set_option maxHeartbeats 1000000 in
theorem bits_First (g : Nat) (o : Nat) (c : Nat) (nw : Nat) (ws : Nat → Nat) (n : Nat) (f : Int) (v : Bool) (p : Nat → Bool) (w : World) (hh0 : HE.holds w 1 (.fn 0 64 dbT)) (hh1 : HE.holds w g (.fn o (o + nw) (u64s ws o))) (hW : Words ws nw n p) (hn : n ≤ 1048576) :
    Calls Tryd.prog 109 #[.agg #[vi ((n : Nat) : Int), sc g o nw c], vi f, vb v] w fun e w' => e = .returned (.tuple #[vi (fst1 p n f v), vb (fst2 p n f v)]) ∧ Fr w w' no no := by
 have hnw := hW.many
 have hsm := hW.small
 refine enter (args := [.agg #[vi ((n : Nat) : Int), sc g o nw c], vi f, vb v]) (D := no) (A := []) Tryd.func109 rfl 46 rfl [(1, .fn 0 64 dbT), (g, .fn o (o + nw) (u64s ws o))] (WS.startL ⟨⟨rfl, hh0⟩, ⟨rfl, hh1⟩, trivial⟩) fun ac hS => ?_
 refine hS.regS [0, 0, 0] [1, 2] fun ν1 => seg [(3, pt (ν1 0) 0)] [(0, none), (1, none), (2, some ((ν1 0), .cells [vi ((n : Nat) : Int), sc g o nw c] 58))] [] trivial fun ac wd hS => ?_
 refine wp_seq ?_
 refine hS.regS [0, 0, 0] [2, 3] fun _ => seg [(8, vi (imax 0 f))] [(0, none), (1, none), (2, none)] [] trivial fun ac wd hS => ?_
 refine wp_block ?_
 refine St.loopC (σ := Int) (fun (x8 : Int) => ⟨[(2, [], vb v), (3, [], pt (ν1 0) 0), (8, [], vi x8)], [(1, .fn 0 64 dbT), (g, .fn o (o + nw) (u64s ws o)), ((ν1 0), .cells [vi ((n : Nat) : Int), sc g o nw c] 58)], [], (0 ≤ x8) ∧ (nxt p v n (at0 f) = nxt p v n (Int.toNat x8) ∨ (n ≤ Int.toNat x8 ∧ n ≤ nxt p v n (at0 f))) ∧ True, n + 64 - Int.toNat x8⟩) (imax 0 f) ⟨(by first | (unfold imax; split <;> omega) | exact .inl rfl), (by first | (unfold imax; split <;> omega) | exact .inl rfl), trivial⟩ hS ?_
 clear hS
 rintro x8 ⟨i0, i1, -⟩ ac wd hS
 replace i0 : 0 ≤ x8 := i0
 replace i1 : nxt p v n (at0 f) = nxt p v n (Int.toNat x8) ∨ (n ≤ Int.toNat x8 ∧ n ≤ nxt p v n (at0 f)) := i1
 have hfa := fun h => first_facts hW (i := x8) i0 h v
 refine wp_seq ?_
 refine hS.regS [0, 0, 200, 0] [2, 3, 8] fun _ => seg [(15, vb (decide ((x8 : Int) < ((n : Nat) : Int))))] [(0, none), (1, none), (2, none)] [.e (ν1 0)] trivial fun ac wd hS => ?_
 refine hS.condC (decide ((x8 : Int) < ((n : Nat) : Int))) (fun hb1o hb1 => ?_) (fun hb1o hb1 => ?_)
 ·
  refine wp_skip ?_
  refine pop_then ?_
  refine wp_block ?_
  refine hS.regS [0, 200, 0, 20, 20, fx 100 (vu ((ws (Int.toNat (x8 / 64)) : Nat) : Int)), 0] [2, 3, 8] fun _ => seg [(9, vu ((ws (Int.toNat (x8 / 64)) : Nat) : Int))] [(0, none), (1, none), (2, none)] [.p ((((u64s ws o) (o + Int.toNat (x8 / 64) * 1)) : Value) = vu ((ws (Int.toNat (x8 / 64)) : Nat) : Int)), .e g, .p (o ≤ o + Int.toNat (x8 / 64) * 1 ∧ o + Int.toNat (x8 / 64) * 1 < (o + nw)), .p (0 ≤ (x8 / 64) ∧ (x8 / 64) < ((nw : Nat) : Int)), .p (64 ≠ 0 ∧ IntKind.i64.wrap (Int.tdiv x8 64) = x8 / 64), .e (ν1 0)] ⟨(u64s_rel ws o (Int.toNat (x8 / 64))), (by omega), (by omega), quo2 (by omega) (by omega) (by omega), trivial⟩ fun ac wd hS => ?_
  refine wp_seq ?_
  refine hS.regS [0, 0] [2, 3, 8, 9] fun _ => seg [(23, vb (!v))] [(0, none), (1, none), (2, none)] [] trivial fun ac wd hS => ?_
  refine hS.condC (!v) (fun hb2o hb2 => ?_) (fun hb2o hb2 => ?_)
  ·
   have hwv : ∀ a, wv v a = flip a := fun a => by rw [hb2]; rfl
   simp only [hwv] at hfa
   refine hS.regC [0, fx 0 (vu ((flip (ws (Int.toNat (x8 / 64))) : Nat) : Int)), 0] [2, 3, 8] fun _ => seg [(9, vu ((flip (ws (Int.toNat (x8 / 64))) : Nat) : Int))] [(0, none), (1, none), (2, none)] [.p ((vu (ixor .u64 18446744073709551615 ((ws (Int.toNat (x8 / 64)) : Nat) : Int)) : Value) = vu ((flip (ws (Int.toNat (x8 / 64))) : Nat) : Int))] ⟨(vint (ixor_ones (a := ws (Int.toNat (x8 / 64))) (by first | exact hW.small _ (by rw [hW.many]; omega) | exact flip_lt _ | (exact Nat.lt_of_le_of_lt (Nat.div_le_self _ _) (flip_lt _)) | (exact Nat.lt_of_le_of_lt (Nat.div_le_self _ _) (hW.small _ (by omega))) | (exact mkM_lt (by omega)) | omega))), trivial⟩ fun ac wd hS => ?_
   refine pop_then ?_
   refine wp_seq ?_
   refine hS.regS [0, 0, 20, fx 10 (vu (((flip (ws (Int.toNat (x8 / 64)))) / 2 ^ Int.toNat (x8 % 64) : Nat) : Int)), 0] [2, 3, 8] fun _ => seg [(9, vu (((flip (ws (Int.toNat (x8 / 64)))) / 2 ^ Int.toNat (x8 % 64) : Nat) : Int))] [(0, none), (1, none), (2, none)] [.p ((vu (Int.fdiv ((flip (ws (Int.toNat (x8 / 64))) : Nat) : Int) (2 ^ (min (Int.toNat (x8 % 64)) 64))) : Value) = vu (((flip (ws (Int.toNat (x8 / 64)))) / 2 ^ Int.toNat (x8 % 64) : Nat) : Int)), .p (0 ≤ (x8 % 64)), .p (64 ≠ 0 ∧ Int.tmod x8 64 = x8 % 64)] ⟨(vint (shr_u (a := flip (ws (Int.toNat (x8 / 64)))) (r := (x8 % 64)) (by omega) (by omega))), by omega, rem2 (by omega) (by omega), trivial⟩ fun ac wd hS => ?_
   refine hS.regS [0, 0] [2, 3, 8, 9] fun _ => seg [(31, vb (((((flip (ws (Int.toNat (x8 / 64)))) / 2 ^ Int.toNat (x8 % 64) : Nat) : Int) : Int) != 0))] [(0, none), (1, none), (2, none)] [] trivial fun ac wd hS => ?_
   refine hS.condC (((((flip (ws (Int.toNat (x8 / 64)))) / 2 ^ Int.toNat (x8 % 64) : Nat) : Int) : Int) != 0) (fun hb3o hb3 => ?_) (fun hb3o hb3 => ?_)
   ·
    refine wp_seq ?_
    refine wp_region_seq ?_
    refine hS.opsC 2 [0, 0] [3, 8] fun _ => seg [(32, vi x8), (33, vu (((flip (ws (Int.toNat (x8 / 64)))) / 2 ^ Int.toNat (x8 % 64) : Nat) : Int))] [(0, none), (1, none), (2, none)] [] trivial fun ac wd hS => ?_
    refine hS.call0 115 #[vu (((flip (ws (Int.toNat (x8 / 64)))) / 2 ^ Int.toNat (x8 % 64) : Nat) : Int)] 34 (bits_Tz ((flip (ws (Int.toNat (x8 / 64)))) / 2 ^ Int.toNat (x8 % 64)) _ (hS.mem.get 0 1 (.fn 0 64 dbT)) (by first | exact (hfa (by omega)).1 | exact pos_of_cast (by assumption)) (by first | exact (hfa (by omega)).1 | exact pos_of_cast (by assumption))) fun ac wd hS => ?_
    refine hS.opsC 2 [20, 0] [3] fun _ => seg [(8, vi (x8 + ((tz ((flip (ws (Int.toNat (x8 / 64)))) / 2 ^ Int.toNat (x8 % 64)) : Nat) : Int)))] [(0, none), (1, none), (2, none)] [.p (fit .i64 (x8 + ((tz ((flip (ws (Int.toNat (x8 / 64)))) / 2 ^ Int.toNat (x8 % 64)) : Nat) : Int)))] ⟨fit_i64 (by omega), trivial⟩ fun ac wd hS => ?_
    refine list_nil_seq ?_
    refine hS.regS [0, 0, 200, 0] [8] fun _ => seg [(39, vb (decide (((x8 + ((tz ((flip (ws (Int.toNat (x8 / 64)))) / 2 ^ Int.toNat (x8 % 64)) : Nat) : Int)) : Int) < ((n : Nat) : Int))))] [(0, none)] [.e (ν1 0)] trivial fun ac wd hS => ?_
    refine hS.condC (decide (((x8 + ((tz ((flip (ws (Int.toNat (x8 / 64)))) / 2 ^ Int.toNat (x8 % 64)) : Nat) : Int)) : Int) < ((n : Nat) : Int))) (fun hb4o hb4 => ?_) (fun hb4o hb4 => ?_)
    ·
     refine hS.regS [0, 0, 0] [] fun _ => seg [(6, vi (x8 + ((tz ((flip (ws (Int.toNat (x8 / 64)))) / 2 ^ Int.toNat (x8 % 64)) : Nat) : Int))), (7, vb true)] [(0, none)] [] trivial fun ac wd hS => ?_
     refine wp_ret ?_
     refine pop_then_ret ?_
     refine pop_then_ret ?_
     refine pop_block_ret ?_
     refine pop_then_ret ?_
     refine pop_block_ret ?_
     refine pop_then_ret ?_
     refine St.retC 0 hS (.tuple #[vi (x8 + ((tz ((flip (ws (Int.toNat (x8 / 64)))) / 2 ^ Int.toNat (x8 % 64)) : Nat) : Int)), vb true]) [] trivial fun hw => ?_
     refine ⟨retd (tuple2 (vint ?_) (vbool ?_)), hw.fr0⟩
     all_goals (first | exact (fst_yes (by obtain ⟨q1, q2, q3⟩ := hfa (by omega); obtain ⟨r1, r2, r3⟩ := q3 (by assumption); have := r2 (by omega); omega) (by omega)).1 | exact (fst_yes (y := ((nxt p v n (at0 f) : Nat) : Int)) rfl (by obtain ⟨q1, q2, q3⟩ := hfa (by omega); obtain ⟨r1, r2, r3⟩ := q3 (by assumption); have := r2 (by omega); omega)).2 | exact (fst_no (by have e_ := nxt_past (p := p) (v := v) (n := n) (i := Int.toNat x8) (by omega); rcases i1 with h | h <;> omega)).1 | exact (fst_no (by have e_ := nxt_past (p := p) (v := v) (n := n) (i := Int.toNat x8) (by omega); rcases i1 with h | h <;> omega)).2 | exact (fst_no (by obtain ⟨q1, q2, q3⟩ := hfa (by omega); obtain ⟨r1, r2, r3⟩ := q3 (by assumption); have := r3 (by omega); omega)).1 | exact (fst_no (by obtain ⟨q1, q2, q3⟩ := hfa (by omega); obtain ⟨r1, r2, r3⟩ := q3 (by assumption); have := r3 (by omega); omega)).2)
    ·
     refine wp_skip ?_
     refine pop_then ?_
     refine wp_exit ?_
     refine pop_then_exit ?_
     refine pop_block_miss rfl ?_
     refine pop_then_exit ?_
     refine pop_block_hit ?_
     refine pop_then ?_
     refine hS.regS [0, 0] [] fun _ => seg [(6, vi 0), (7, vb false)] [(0, none)] [] trivial fun ac wd hS => ?_
     refine wp_ret ?_
     refine St.retC 0 hS (.tuple #[vi 0, vb false]) [] trivial fun hw => ?_
     refine ⟨retd (tuple2 (vint ?_) (vbool ?_)), hw.fr0⟩
     all_goals (first | exact (fst_yes (by obtain ⟨q1, q2, q3⟩ := hfa (by omega); obtain ⟨r1, r2, r3⟩ := q3 (by assumption); have := r2 (by omega); omega) (by omega)).1 | exact (fst_yes (y := ((nxt p v n (at0 f) : Nat) : Int)) rfl (by obtain ⟨q1, q2, q3⟩ := hfa (by omega); obtain ⟨r1, r2, r3⟩ := q3 (by assumption); have := r2 (by omega); omega)).2 | exact (fst_no (by have e_ := nxt_past (p := p) (v := v) (n := n) (i := Int.toNat x8) (by omega); rcases i1 with h | h <;> omega)).1 | exact (fst_no (by have e_ := nxt_past (p := p) (v := v) (n := n) (i := Int.toNat x8) (by omega); rcases i1 with h | h <;> omega)).2 | exact (fst_no (by obtain ⟨q1, q2, q3⟩ := hfa (by omega); obtain ⟨r1, r2, r3⟩ := q3 (by assumption); have := r3 (by omega); omega)).1 | exact (fst_no (by obtain ⟨q1, q2, q3⟩ := hfa (by omega); obtain ⟨r1, r2, r3⟩ := q3 (by assumption); have := r3 (by omega); omega)).2)
   ·
    refine wp_skip ?_
    refine pop_then ?_
    refine hS.regC [0, 0, 20, 20, 20, 0] [2, 3] fun _ => seg [(8, vi (x8 + (64 - (x8 % 64))))] [(0, none), (1, none), (2, none)] [.p (fit .i64 (x8 + (64 - (x8 % 64)))), .p (fit .i64 (64 - (x8 % 64))), .p (64 ≠ 0 ∧ Int.tmod x8 64 = x8 % 64)] ⟨fit_i64 (by omega), fit_i64 (by omega), rem2 (by omega) (by omega), trivial⟩ fun ac wd hS => ?_
    refine pop_block ?_
    exact pop_then (hS.next (x8 + (64 - (x8 % 64))) ⟨(by first | omega | assumption | (simp; done) | (simp; omega)), (by obtain ⟨q1, q2, q3⟩ := hfa (by omega); have := q2 (by assumption); omega), trivial⟩ (by dsimp only; omega))
  ·
   have hwv : ∀ a, wv v a = a := fun a => by rw [hb2]; rfl
   simp only [hwv] at hfa
   refine wp_skip ?_
   refine pop_then ?_
   refine wp_seq ?_
   refine hS.regS [0, 0, 20, fx 10 (vu (((ws (Int.toNat (x8 / 64))) / 2 ^ Int.toNat (x8 % 64) : Nat) : Int)), 0] [2, 3, 8] fun _ => seg [(9, vu (((ws (Int.toNat (x8 / 64))) / 2 ^ Int.toNat (x8 % 64) : Nat) : Int))] [(0, none), (1, none), (2, none)] [.p ((vu (Int.fdiv ((ws (Int.toNat (x8 / 64)) : Nat) : Int) (2 ^ (min (Int.toNat (x8 % 64)) 64))) : Value) = vu (((ws (Int.toNat (x8 / 64))) / 2 ^ Int.toNat (x8 % 64) : Nat) : Int)), .p (0 ≤ (x8 % 64)), .p (64 ≠ 0 ∧ Int.tmod x8 64 = x8 % 64)] ⟨(vint (shr_u (a := ws (Int.toNat (x8 / 64))) (r := (x8 % 64)) (by omega) (by omega))), by omega, rem2 (by omega) (by omega), trivial⟩ fun ac wd hS => ?_
   refine hS.regS [0, 0] [2, 3, 8, 9] fun _ => seg [(31, vb (((((ws (Int.toNat (x8 / 64))) / 2 ^ Int.toNat (x8 % 64) : Nat) : Int) : Int) != 0))] [(0, none), (1, none), (2, none)] [] trivial fun ac wd hS => ?_
   refine hS.condC (((((ws (Int.toNat (x8 / 64))) / 2 ^ Int.toNat (x8 % 64) : Nat) : Int) : Int) != 0) (fun hb5o hb5 => ?_) (fun hb5o hb5 => ?_)
   ·
    refine wp_seq ?_
    refine wp_region_seq ?_
    refine hS.opsC 2 [0, 0] [3, 8] fun _ => seg [(32, vi x8), (33, vu (((ws (Int.toNat (x8 / 64))) / 2 ^ Int.toNat (x8 % 64) : Nat) : Int))] [(0, none), (1, none), (2, none)] [] trivial fun ac wd hS => ?_
    refine hS.call0 115 #[vu (((ws (Int.toNat (x8 / 64))) / 2 ^ Int.toNat (x8 % 64) : Nat) : Int)] 34 (bits_Tz ((ws (Int.toNat (x8 / 64))) / 2 ^ Int.toNat (x8 % 64)) _ (hS.mem.get 0 1 (.fn 0 64 dbT)) (by first | exact (hfa (by omega)).1 | exact pos_of_cast (by assumption)) (by first | exact (hfa (by omega)).1 | exact pos_of_cast (by assumption))) fun ac wd hS => ?_
    refine hS.opsC 2 [20, 0] [3] fun _ => seg [(8, vi (x8 + ((tz ((ws (Int.toNat (x8 / 64))) / 2 ^ Int.toNat (x8 % 64)) : Nat) : Int)))] [(0, none), (1, none), (2, none)] [.p (fit .i64 (x8 + ((tz ((ws (Int.toNat (x8 / 64))) / 2 ^ Int.toNat (x8 % 64)) : Nat) : Int)))] ⟨fit_i64 (by omega), trivial⟩ fun ac wd hS => ?_
    refine list_nil_seq ?_
    refine hS.regS [0, 0, 200, 0] [8] fun _ => seg [(39, vb (decide (((x8 + ((tz ((ws (Int.toNat (x8 / 64))) / 2 ^ Int.toNat (x8 % 64)) : Nat) : Int)) : Int) < ((n : Nat) : Int))))] [(0, none)] [.e (ν1 0)] trivial fun ac wd hS => ?_
    refine hS.condC (decide (((x8 + ((tz ((ws (Int.toNat (x8 / 64))) / 2 ^ Int.toNat (x8 % 64)) : Nat) : Int)) : Int) < ((n : Nat) : Int))) (fun hb6o hb6 => ?_) (fun hb6o hb6 => ?_)
    ·
     refine hS.regS [0, 0, 0] [] fun _ => seg [(6, vi (x8 + ((tz ((ws (Int.toNat (x8 / 64))) / 2 ^ Int.toNat (x8 % 64)) : Nat) : Int))), (7, vb true)] [(0, none)] [] trivial fun ac wd hS => ?_
     refine wp_ret ?_
     refine pop_then_ret ?_
     refine pop_then_ret ?_
     refine pop_block_ret ?_
     refine pop_then_ret ?_
     refine pop_block_ret ?_
     refine pop_then_ret ?_
     refine St.retC 0 hS (.tuple #[vi (x8 + ((tz ((ws (Int.toNat (x8 / 64))) / 2 ^ Int.toNat (x8 % 64)) : Nat) : Int)), vb true]) [] trivial fun hw => ?_
     refine ⟨retd (tuple2 (vint ?_) (vbool ?_)), hw.fr0⟩
     all_goals (first | exact (fst_yes (by obtain ⟨q1, q2, q3⟩ := hfa (by omega); obtain ⟨r1, r2, r3⟩ := q3 (by assumption); have := r2 (by omega); omega) (by omega)).1 | exact (fst_yes (y := ((nxt p v n (at0 f) : Nat) : Int)) rfl (by obtain ⟨q1, q2, q3⟩ := hfa (by omega); obtain ⟨r1, r2, r3⟩ := q3 (by assumption); have := r2 (by omega); omega)).2 | exact (fst_no (by have e_ := nxt_past (p := p) (v := v) (n := n) (i := Int.toNat x8) (by omega); rcases i1 with h | h <;> omega)).1 | exact (fst_no (by have e_ := nxt_past (p := p) (v := v) (n := n) (i := Int.toNat x8) (by omega); rcases i1 with h | h <;> omega)).2 | exact (fst_no (by obtain ⟨q1, q2, q3⟩ := hfa (by omega); obtain ⟨r1, r2, r3⟩ := q3 (by assumption); have := r3 (by omega); omega)).1 | exact (fst_no (by obtain ⟨q1, q2, q3⟩ := hfa (by omega); obtain ⟨r1, r2, r3⟩ := q3 (by assumption); have := r3 (by omega); omega)).2)
    ·
     refine wp_skip ?_
     refine pop_then ?_
     refine wp_exit ?_
     refine pop_then_exit ?_
     refine pop_block_miss rfl ?_
     refine pop_then_exit ?_
     refine pop_block_hit ?_
     refine pop_then ?_
     refine hS.regS [0, 0] [] fun _ => seg [(6, vi 0), (7, vb false)] [(0, none)] [] trivial fun ac wd hS => ?_
     refine wp_ret ?_
     refine St.retC 0 hS (.tuple #[vi 0, vb false]) [] trivial fun hw => ?_
     refine ⟨retd (tuple2 (vint ?_) (vbool ?_)), hw.fr0⟩
     all_goals (first | exact (fst_yes (by obtain ⟨q1, q2, q3⟩ := hfa (by omega); obtain ⟨r1, r2, r3⟩ := q3 (by assumption); have := r2 (by omega); omega) (by omega)).1 | exact (fst_yes (y := ((nxt p v n (at0 f) : Nat) : Int)) rfl (by obtain ⟨q1, q2, q3⟩ := hfa (by omega); obtain ⟨r1, r2, r3⟩ := q3 (by assumption); have := r2 (by omega); omega)).2 | exact (fst_no (by have e_ := nxt_past (p := p) (v := v) (n := n) (i := Int.toNat x8) (by omega); rcases i1 with h | h <;> omega)).1 | exact (fst_no (by have e_ := nxt_past (p := p) (v := v) (n := n) (i := Int.toNat x8) (by omega); rcases i1 with h | h <;> omega)).2 | exact (fst_no (by obtain ⟨q1, q2, q3⟩ := hfa (by omega); obtain ⟨r1, r2, r3⟩ := q3 (by assumption); have := r3 (by omega); omega)).1 | exact (fst_no (by obtain ⟨q1, q2, q3⟩ := hfa (by omega); obtain ⟨r1, r2, r3⟩ := q3 (by assumption); have := r3 (by omega); omega)).2)
   ·
    refine wp_skip ?_
    refine pop_then ?_
    refine hS.regC [0, 0, 20, 20, 20, 0] [2, 3] fun _ => seg [(8, vi (x8 + (64 - (x8 % 64))))] [(0, none), (1, none), (2, none)] [.p (fit .i64 (x8 + (64 - (x8 % 64)))), .p (fit .i64 (64 - (x8 % 64))), .p (64 ≠ 0 ∧ Int.tmod x8 64 = x8 % 64)] ⟨fit_i64 (by omega), fit_i64 (by omega), rem2 (by omega) (by omega), trivial⟩ fun ac wd hS => ?_
    refine pop_block ?_
    exact pop_then (hS.next (x8 + (64 - (x8 % 64))) ⟨(by first | omega | assumption | (simp; done) | (simp; omega)), (by obtain ⟨q1, q2, q3⟩ := hfa (by omega); have := q2 (by assumption); omega), trivial⟩ (by dsimp only; omega))
 ·
  refine wp_exit ?_
  refine pop_then_exit ?_
  refine pop_then_exit ?_
  refine pop_block_hit ?_
  refine pop_then ?_
  refine hS.regS [0, 0] [] fun _ => seg [(6, vi 0), (7, vb false)] [(0, none)] [] trivial fun ac wd hS => ?_
  refine wp_ret ?_
  refine St.retC 0 hS (.tuple #[vi 0, vb false]) [] trivial fun hw => ?_
  refine ⟨retd (tuple2 (vint ?_) (vbool ?_)), hw.fr0⟩
  all_goals (first | exact (fst_yes (by obtain ⟨q1, q2, q3⟩ := hfa (by omega); obtain ⟨r1, r2, r3⟩ := q3 (by assumption); have := r2 (by omega); omega) (by omega)).1 | exact (fst_yes (y := ((nxt p v n (at0 f) : Nat) : Int)) rfl (by obtain ⟨q1, q2, q3⟩ := hfa (by omega); obtain ⟨r1, r2, r3⟩ := q3 (by assumption); have := r2 (by omega); omega)).2 | exact (fst_no (by have e_ := nxt_past (p := p) (v := v) (n := n) (i := Int.toNat x8) (by omega); rcases i1 with h | h <;> omega)).1 | exact (fst_no (by have e_ := nxt_past (p := p) (v := v) (n := n) (i := Int.toNat x8) (by omega); rcases i1 with h | h <;> omega)).2 | exact (fst_no (by obtain ⟨q1, q2, q3⟩ := hfa (by omega); obtain ⟨r1, r2, r3⟩ := q3 (by assumption); have := r3 (by omega); omega)).1 | exact (fst_no (by obtain ⟨q1, q2, q3⟩ := hfa (by omega); obtain ⟨r1, r2, r3⟩ := q3 (by assumption); have := r3 (by omega); omega)).2)

set_option maxRecDepth 100000 in
set_option maxHeartbeats 1000000 in
theorem bits_first (g : Nat) (o : Nat) (c : Nat) (nw : Nat) (ws : Nat → Nat) (n : Nat) (f : Int) (v : Bool) (p : Nat → Bool) (w : World) (hh0 : HE.holds w 1 (.fn 0 64 dbT)) (hh1 : HE.holds w g (.fn o (o + nw) (u64s ws o))) (hW : Words ws nw n p) (hn : n ≤ 1048576) :
    Calls Tryd.prog 118 #[.agg #[vi ((n : Nat) : Int), sc g o nw c], vi f, vb v] w fun e w' => e = .returned (vi (fst3 p n f v)) ∧ Fr w w' no no := by
 have hnw := hW.many
 have hsm := hW.small
 refine enter (args := [.agg #[vi ((n : Nat) : Int), sc g o nw c], vi f, vb v]) (D := no) (A := []) Tryd.func118 rfl 21 rfl [(1, .fn 0 64 dbT), (g, .fn o (o + nw) (u64s ws o))] (WS.startL ⟨⟨rfl, hh0⟩, ⟨rfl, hh1⟩, trivial⟩) fun ac hS => ?_
 refine hS.regS [0, 0] [1, 2] fun ν1 => seg [(3, pt (ν1 0) 0)] [(0, none), (1, none), (2, some ((ν1 0), .cells [vi ((n : Nat) : Int), sc g o nw c] 58))] [] trivial fun ac wd hS => ?_
 refine wp_region_seq ?_
 refine hS.opsC 3 [200, 0, 0] [3] fun _ => seg [(10, .agg #[vi ((n : Nat) : Int), sc g o nw c]), (11, vi f), (12, vb v)] [(0, none), (1, none), (2, none)] [.e (ν1 0), .e (ν1 0)] trivial fun ac wd hS => ?_
 refine hS.call0 109 #[.agg #[vi ((n : Nat) : Int), sc g o nw c], vi f, vb v] 13 (bits_First g o c nw ws n f v p _ (hS.mem.get 0 1 (.fn 0 64 dbT)) (hS.mem.get 1 g (.fn o (o + nw) (u64s ws o))) (by first | assumption | omega | (simp_all; done) | (simp_all; omega)) (by first | assumption | omega | (simp_all; done) | (simp_all; omega))) fun ac wd hS => ?_
 refine hS.opsC 5 [0, 0, 0, 0, 0] [3] fun _ => seg [(7, vi (fst1 p n f v)), (8, vb (fst2 p n f v))] [(0, none), (1, none), (2, none)] [] trivial fun ac wd hS => ?_
 refine list_nil_seq ?_
 refine wp_seq ?_
 refine hS.regS [0, 0] [3, 7] fun _ => seg [(17, vb (!(fst2 p n f v)))] [(0, none), (1, none), (2, none)] [] trivial fun ac wd hS => ?_
 refine hS.condC (!(fst2 p n f v)) (fun hb1o hb1 => ?_) (fun hb1o hb1 => ?_)
 ·
  refine hS.regS [0, 200, 0] [] fun _ => seg [(6, vi ((n : Nat) : Int))] [(0, none)] [.e (ν1 0)] trivial fun ac wd hS => ?_
  refine wp_ret ?_
  refine pop_then_ret ?_
  refine St.retC 0 hS (vi ((n : Nat) : Int)) [] trivial fun hw => ?_
  refine ⟨retd (vint ?_), hw.fr0⟩
  all_goals (first | (rw [fst3_eq]; simp_all; done))
 ·
  refine wp_skip ?_
  refine pop_then ?_
  refine hS.regS [0, 0] [] fun _ => seg [(6, vi (fst1 p n f v))] [(0, none)] [] trivial fun ac wd hS => ?_
  refine wp_ret ?_
  refine St.retC 0 hS (vi (fst1 p n f v)) [] trivial fun hw => ?_
  refine ⟨retd (vint ?_), hw.fr0⟩
  all_goals (first | (rw [fst3_eq]; simp_all; done))

set_option maxRecDepth 100000 in
set_option maxHeartbeats 1000000 in
theorem bits_with1 (a : Nat) (m : Nat) (w : World) (ha : a < 2 ^ 64) (hm : m < 2 ^ 64) :
    Calls Tryd.prog 98 #[vu ((a : Nat) : Int), vu ((m : Nat) : Int)] w fun e w' => e = .returned (vu ((tOp true a m : Nat) : Int)) ∧ w' = w := by
 refine enter (args := [vu ((a : Nat) : Int), vu ((m : Nat) : Int)]) (D := no) (A := []) Tryd.func98 rfl 8 rfl [] (WS.startL trivial) fun ac hS => ?_
 refine hS.stillS [0] [0, 1] <| seg [] [] [] trivial fun ac hS => ?_
 refine hS.stillS [0, 0, 20, 0] [] <| seg [(4, vu ((a ||| m : Nat) : Int))] [] [.p (bitRaw .or .u64 ((a : Nat) : Int) ((m : Nat) : Int) = ((a ||| m : Nat) : Int))] ⟨ior_u (a := a) (b := m) (by omega) (by omega), trivial⟩ fun ac hS => ?_
 refine wp_ret ?_
 refine St.retC 0 hS (vu ((a ||| m : Nat) : Int)) [] trivial fun hw => ?_
 refine ⟨retd (vint ?_), rfl⟩
 all_goals (first | rfl | assumption | (simp; done) | (simp; omega) | omega | (simp_all; done) | (simp_all; omega))

set_option maxRecDepth 100000 in
set_option maxHeartbeats 1000000 in
theorem bits_without1 (a : Nat) (m : Nat) (w : World) (ha : a < 2 ^ 64) (hm : m < 2 ^ 64) :
    Calls Tryd.prog 100 #[vu ((a : Nat) : Int), vu ((m : Nat) : Int)] w fun e w' => e = .returned (vu ((tOp false a m : Nat) : Int)) ∧ w' = w := by
 refine enter (args := [vu ((a : Nat) : Int), vu ((m : Nat) : Int)]) (D := no) (A := []) Tryd.func100 rfl 8 rfl [] (WS.startL trivial) fun ac hS => ?_
 refine hS.stillS [0] [0, 1] <| seg [] [] [] trivial fun ac hS => ?_
 refine hS.stillS [0, 0, fx 0 (vu ((without a m : Nat) : Int)), 0] [] <| seg [(4, vu ((without a m : Nat) : Int))] [] [.p ((vu (iandNot .u64 ((a : Nat) : Int) ((m : Nat) : Int)) : Value) = vu ((without a m : Nat) : Int))] ⟨(vint (iandNot_u a m)), trivial⟩ fun ac hS => ?_
 refine wp_ret ?_
 refine St.retC 0 hS (vu ((without a m : Nat) : Int)) [] trivial fun hw => ?_
 refine ⟨retd (vint ?_), rfl⟩
 all_goals (first | rfl | assumption | (simp; done) | (simp; omega) | omega | (simp_all; done) | (simp_all; omega))

set_option maxRecDepth 100000 in
set_option maxHeartbeats 1000000 in
theorem slices_CloneW (g : Nat) (o : Nat) (c : Nat) (nw : Nat) (ws : Nat → Nat) (p : Nat → Bool) (w : World) (hh0 : HE.holds w g (.fn o (o + nw) (u64s ws o))) (hb : nw ≤ 16384) :
    Calls Tryd.prog 112 #[sc g o nw c] w fun e w' => ∃ (g2 : Nat) (c2 : Nat) (tot2 : Nat), e = .returned (sc g2 0 nw c2) ∧ w.heap.size ≤ g2 ∧ HE.holds w' g2 (.row 33 nw tot2 (u64s ws 0)) ∧ Fr w w' no no := by
 refine enter (args := [sc g o nw c]) (D := no) (A := []) Tryd.func112 rfl 8 rfl [(g, .fn o (o + nw) (u64s ws o))] (WS.startL ⟨⟨rfl, hh0⟩, trivial⟩) fun ac hS => ?_
 refine hS.regS [0] [0] fun _ => seg [] [(0, none)] [] trivial fun ac wd hS => ?_
 refine wp_seq ?_
 refine hS.regS [0, 0] [0] fun _ => seg [(4, vb false)] [(0, none)] [] trivial fun ac wd hS => ?_
 refine hS.condF ?_
 refine wp_skip ?_
 refine pop_then ?_
 refine wp_region_seq ?_
 refine hS.opsC 2 [0, 0] [] fun ν3 => seg [(5, sc (ν3 0) 0 0 0), (6, sc g o nw c)] [(0, none), (1, some ((ν3 0), .cells [] 33))] [] trivial fun ac wd hS => ?_
 obtain ⟨i_, hi_, hz_, hs_, hb_⟩ := info_get (P := Tryd.prog) (e := 33) (z := vu 0) (s := 1) (b := 8) (by kernel_rfl)
 refine St.clone hS (.tmp 5) (.tmp 6) 56 rfl rfl (by as_aux_lemma => kernel_rfl) Tryd.underlying56 hi_ hz_ hs_ (by omega) (f' := u64s ws 0) (b := (ν3 0)) (g := g) (off := o) (nw := nw) (cp := c) (f := (u64s ws o)) 1 0 (by as_aux_lemma => kernel_rfl) (by as_aux_lemma => kernel_rfl) (by as_aux_lemma => kernel_rfl) (by as_aux_lemma => kernel_rfl) (by omega) (fun j _ => by unfold u64s; rw [Nat.add_sub_cancel_left, Nat.sub_zero]) [0] (H' := [(g, .fn o (o + nw) (u64s ws o))]) (by as_aux_lemma => kernel_rfl) (by decide) (by decide) rfl (by decide) fun g1 c2 t3 wd ac hm4 hS => ?_
 refine hS.opsC 1 [0] [] fun _ => seg [(2, sc g1 0 nw c2)] [(1, none)] [] trivial fun ac wd hS => ?_
 refine list_nil_seq ?_
 refine wp_ret ?_
 refine St.retC 0 hS (sc g1 0 nw c2) [] trivial fun hw => ?_
 refine ⟨g1, c2, t3, retd rfl, ((hw.getm 0 g1 (.row 33 nw t3 (u64s ws 0))).resolve_right (fun h => h)), (hw.get 0 g1 (.row 33 nw t3 (u64s ws 0))), hw.fr0⟩

set_option maxRecDepth 100000 in
set_option maxHeartbeats 1000000 in
theorem bits_turn_with (g : Nat) (o : Nat) (c : Nat) (nw : Nat) (ws : Nat → Nat) (n : Nat) (f : Int) (k : Int) (p : Nat → Bool) (w : World) (hh0 : HE.holds w g (.fn o (o + nw) (u64s ws o))) (hW : Words ws nw n p) (hn : n ≤ 1048576) :
    Calls Tryd.prog 97 #[.agg #[vi ((n : Nat) : Int), sc g o nw c], vi f, vi k, .func (.func 98) #[] #[]] w fun e w' => ∃ (g2 : Nat) (o2 : Nat) (c2 : Nat) (ws2 : Nat → Nat), e = .returned (.tuple #[.agg #[vi ((n : Nat) : Int), sc g2 o2 nw c2], vi (trnE n f k)]) ∧ Words ws2 nw n (trn p n f k true) ∧ (g2 = g ∨ w.heap.size ≤ g2) ∧ HE.holds w' g2 (.fn o2 (o2 + nw) (u64s ws2 o2)) ∧ Fr w w' no no := by
 have hnw := hW.many
 have hsm := hW.small
 refine enter (args := [.agg #[vi ((n : Nat) : Int), sc g o nw c], vi f, vi k, .func (.func 98) #[] #[]]) (D := no) (A := []) Tryd.func97 rfl 51 rfl [(g, .fn o (o + nw) (u64s ws o))] (WS.startL ⟨⟨rfl, hh0⟩, trivial⟩) fun ac hS => ?_
 refine hS.regS [0, 0, 0] [1, 2, 3] fun ν1 => seg [(4, pt (ν1 0) 0), (8, pt (ν1 1) 0)] [(0, none), (1, some ((ν1 0), .cells [vi ((n : Nat) : Int), sc g o nw c] 58)), (2, some ((ν1 1), .cells [vi 0, vnil] 58))] [] trivial fun ac wd hS => ?_
 refine wp_seq ?_
 refine wp_region_seq ?_
 refine hS.opsC 3 [100, 0, 0] [1, 2, 3, 4, 8] fun _ => seg [(12, .agg #[vi ((n : Nat) : Int), sc g o nw c]), (13, vi f), (14, vi k)] [(0, none), (1, none), (2, none)] [.e (ν1 0), .e (ν1 0)] trivial fun ac wd hS => ?_
 refine hS.call0 74 #[.agg #[vi ((n : Nat) : Int), sc g o nw c], vi f, vi k] 15 (bits_within g o c nw n f k _  (by first | assumption | omega | (simp_all; done) | (simp_all; omega))) fun ac wd hS => ?_
 refine hS.opsC 1 [0] [1, 2, 3, 4, 8] fun _ => seg [(16, vb (!(wth n f k)))] [(0, none), (1, none), (2, none)] [] trivial fun ac wd hS => ?_
 refine list_nil_seq ?_
 refine hS.condC (!(wth n f k)) (fun hb1o hb1 => ?_) (fun hb1o hb1 => ?_)
 ·
  refine hS.regS [100, 200, 0] [8] fun _ => seg [(9, vi 3)] [(0, none), (2, some ((ν1 1), .cells [vi ((n : Nat) : Int), sc g o nw c] 58))] [.e (ν1 1), .e (ν1 1), .e (ν1 0), .e (ν1 0)] trivial fun ac wd hS => ?_
  refine wp_ret ?_
  refine pop_then_ret ?_
  refine St.retC 1 hS (.tuple #[.agg #[vi ((n : Nat) : Int), sc g o nw c], vi 3]) [.e (ν1 1), .e (ν1 1)] trivial fun hw => ?_
  refine ⟨g, o, c, ws, retd (tuple2 rfl (vint ?_)), ?_, (.inl rfl), (hw.get 0 g (.fn o (o + nw) (u64s ws o))), hw.fr0⟩
  all_goals (first | rfl | exact trnE_no (by assumption) | exact trnE_yes (by assumption) | (rw [trn_no (by assumption)]; exact hW) | (rw [trn_yes (by assumption), show k.toNat = (x1 - f).toNat by omega]; exact i1))
 ·
  have hwt : wth n f k = true := by simpa using hb1o
  obtain ⟨hw0, hw1, hw2⟩ := wth_facts hwt
  refine wp_skip ?_
  refine pop_then ?_
  refine wp_region_seq ?_
  refine hS.opsC 2 [0, 100] [1, 2, 3, 4, 8] fun _ => seg [(19, sc g o nw c)] [(0, none), (1, none), (2, none)] [.e (ν1 0)] trivial fun ac wd hS => ?_
  refine hS.callC 112 #[sc g o nw c] (slices_CloneW g o c nw ws p _ (hS.mem.get 0 g (.fn o (o + nw) (u64s ws o))) (by first | assumption | omega | (simp_all; done) | (simp_all; omega))) ?_
  rintro _ wd ⟨g22, c23, tot24, rfl, hog0, hoh0, hF⟩
  have ho5 : w.heap.size ≤ g22 := Nat.le_trans hS.mem.fr.size hog0
  refine ⟨sc g22 0 nw c23, rfl, ?_⟩
  replace hS := (hS.to (hS.mem.outR hF hog0 hoh0)).put (d := 20) (v := sc g22 0 nw c23) (by decide)
  clear hF
  refine hS.opsC 2 [0, 100] [1, 2, 3, 4, 8] fun _ => seg [] [(1, some ((ν1 0), .cells [vi ((n : Nat) : Int), sc g22 0 nw c23] 58)), (2, none), (3, none)] [.e (ν1 0)] trivial fun ac wd hS => ?_
  refine list_nil_seq ?_
  refine wp_seq ?_
  refine wp_block ?_
  refine St.loopC (σ := Int × Int × (Nat → Nat)) (fun (x : Int × Int × (Nat → Nat)) => match x with | (x1, x2, wsx) => ⟨[(1, [], vi x1), (2, [], vi x2), (3, [], .func (.func 98) #[] #[]), (4, [], pt (ν1 0) 0), (8, [], pt (ν1 1) 0)], [((ν1 0), .cells [vi ((n : Nat) : Int), sc g22 0 nw c23] 58), ((ν1 1), .cells [vi 0, vnil] 58), (g22, .row 33 nw tot24 (u64s wsx 0))], [], (f ≤ x1 ∧ 0 ≤ x2 ∧ x1 + x2 = f + k) ∧ (Words wsx nw n (setR p f.toNat (x1 - f).toNat true)) ∧ True, Int.toNat x2⟩) (f, k, ws) ⟨(by first | omega | (rw [show (f - f).toNat = 0 by omega, setR_zero]; exact hW)), (by first | omega | (rw [show (f - f).toNat = 0 by omega, setR_zero]; exact hW)), trivial⟩ hS ?_
  clear hS
  rintro ⟨x1, x2, wsx⟩ ⟨i0, i1, -⟩ ac wd hS
  replace i0 : f ≤ x1 ∧ 0 ≤ x2 ∧ x1 + x2 = f + k := i0
  replace i1 : Words wsx nw n (setR p f.toNat (x1 - f).toNat true) := i1
  have him : 0 < x2 → 1 ≤ imin x2 (64 - (x1 % 64)) ∧ imin x2 (64 - (x1 % 64)) ≤ 64 - (x1 % 64) ∧ imin x2 (64 - (x1 % 64)) ≤ x2 := fun h => by unfold imin; split <;> omega
  refine wp_seq ?_
  refine hS.regS [0, 0] [1, 2, 3, 4, 8] fun _ => seg [(23, vb (decide ((0 : Int) < x2)))] [(0, none), (1, none), (2, none)] [] trivial fun ac wd hS => ?_
  refine hS.condC (decide ((0 : Int) < x2)) (fun hb6o hb6 => ?_) (fun hb6o hb6 => ?_)
  ·
   refine wp_skip ?_
   refine pop_then ?_
   refine wp_block ?_
   refine wp_region_seq ?_
   refine hS.opsC 2 [0, 0] [1, 2, 3, 4, 8] fun _ => seg [(25, vi x1), (26, vi x2)] [(0, none), (1, none), (2, none)] [] trivial fun ac wd hS => ?_
   refine hS.call0 75 #[vi x1, vi x2] 27 (bits_mask x1 x2 _  (by first | assumption | omega | (simp_all; done) | (simp_all; omega)) (by first | assumption | omega | (simp_all; done) | (simp_all; omega))) fun ac wd hS => ?_
   refine hS.opsC 5 [0, 0, 0, 0, 0] [1, 2, 3, 4, 8] fun _ => seg [(10, vu ((mkM (x1 % 64).toNat (imin x2 (64 - x1 % 64)).toNat : Nat) : Int)), (11, vi (imin x2 (64 - x1 % 64)))] [(0, none), (1, none), (2, none)] [] trivial fun ac wd hS => ?_
   refine list_nil_seq ?_
   refine St.ordBeginS [(0, 1), (1, 1), (2, 1), (3, 1), (4, 1), (5, 1), (6, 1), (7, 1), (8, 1), (9, 1), (10, 1), (11, 1), (12, 0), (13, 1), (14, 2)] [((ν1 0), .cells [vi ((n : Nat) : Int), sc g22 0 nw c23] 58), ((ν1 1), .cells [vi 0, vnil] 58), (g22, .row 33 nw tot24 (u64s wsx 0))] [0, 1, 2] hS fun wd hS => ?_
   have hap := hS.mem.pairs (Hf := [((ν1 0), .cells [vi ((n : Nat) : Int), sc g22 0 nw c23] 58), ((ν1 1), .cells [vi 0, vnil] 58), (g22, .row 33 nw tot24 (u64s wsx 0))]) (l := [0, 1, 2])
   refine St.ordF [0, 0, 0, 20, 0, 0, 0, 0, 20, 10, fx 200 (vu ((wsx (Int.toNat (x1 / 64)) : Nat) : Int)), 0] [0, 1, 2, 3, 4, 5, 6, 7, 8, 9, 10, 11] [1, 2, 3, 4, 8, 11] (rest := [(12, 0), (13, 1), (14, 2)]) hS hap <| segF [(31, sc g22 0 nw c23), (33, vi (x1 / 64)), (34, .func (.func 98) #[] #[]), (40, vu ((wsx (Int.toNat (x1 / 64)) : Nat) : Int)), (41, vu ((mkM (x1 % 64).toNat (imin x2 (64 - x1 % 64)).toNat : Nat) : Int))] [.p ((((u64s wsx 0) (Int.toNat (x1 / 64))) : Value) = vu ((wsx (Int.toNat (x1 / 64)) : Nat) : Int)), .e g22, .p (Int.toNat (x1 / 64) < nw), .p (0 ≤ (x1 / 64) ∧ (x1 / 64) < ((nw : Nat) : Int)), .p (64 ≠ 0 ∧ IntKind.i64.wrap (Int.tdiv x1 64) = x1 / 64), .e (ν1 0), .p (64 ≠ 0 ∧ IntKind.i64.wrap (Int.tdiv x1 64) = x1 / 64), .e (ν1 0)] ⟨(u64s_abs wsx (Int.toNat (x1 / 64))), (by omega), (by omega), quo2 (by omega) (by omega) (by omega), quo2 (by omega) (by omega) (by omega), trivial⟩ fun ac hS => ?_
   refine hS.ordC 12 98 #[vu ((wsx (Int.toNat (x1 / 64)) : Nat) : Int), vu ((mkM (x1 % 64).toNat (imin x2 (64 - x1 % 64)).toNat : Nat) : Int)] (bits_with1 (wsx (Int.toNat (x1 / 64))) (mkM (x1 % 64).toNat (imin x2 (64 - x1 % 64)).toNat) _  (by first | exact i1.small _ (by rw [i1.many]; omega) | exact mkM_lt (by omega)) (by first | exact i1.small _ (by rw [i1.many]; omega) | exact mkM_lt (by omega))) ?_
   rintro _ wd ⟨rfl, hF⟩
   refine ⟨vu ((tOp true (wsx (Int.toNat (x1 / 64))) (mkM (x1 % 64).toNat (imin x2 (64 - x1 % 64)).toNat) : Nat) : Int), rfl, ?_⟩
   replace hS := (hS.to (hF ▸ hS.mem)).put (d := 42) (v := vu ((tOp true (wsx (Int.toNat (x1 / 64))) (mkM (x1 % 64).toNat (imin x2 (64 - x1 % 64)).toNat) : Nat) : Int)) (by decide)
   clear hF
   refine hS.ordV (l := [0, 1, 2]) ?_
   refine St.ordF [10] [13] [1, 2, 3, 4, 8, 11, 42] (rest := [(14, 2)]) hS hap <| segF [(43, pt g22 (Int.toNat (x1 / 64)))] [.p (0 ≤ (x1 / 64) ∧ (x1 / 64) < ((nw : Nat) : Int))] ⟨(by omega), trivial⟩ fun ac hS => ?_
   refine St.ord2 14 [200] [1, 2, 3, 4, 8, 11] hS rfl fun _ => seg [] [(0, none), (1, none), (2, some (g22, .row 33 nw tot24 (fun x => if x = Int.toNat (x1 / 64) then vu ((tOp true (wsx (Int.toNat (x1 / 64))) (mkM (x1 % 64).toNat (imin x2 (64 - x1 % 64)).toNat) : Nat) : Int) else (u64s wsx 0) x)))] [.e g22, .p (Int.toNat (x1 / 64) < nw)] ⟨(by omega), trivial⟩ fun ac wd hS => ?_
   replace hS := hS.to (hS.mem.tellR 2 (b := g22) (e := 33) (m := nw) (tot := tot24) (f := (fun x => if x = Int.toNat (x1 / 64) then vu ((tOp true (wsx (Int.toNat (x1 / 64))) (mkM (x1 % 64).toNat (imin x2 (64 - x1 % 64)).toNat) : Nat) : Int) else (u64s wsx 0) x)) (u64s (putW wsx (Int.toNat (x1 / 64)) (tOp true (wsx (Int.toNat (x1 / 64))) (mkM (x1 % 64).toNat (imin x2 (64 - x1 % 64)).toNat))) 0) (fun o ho => u64s_putv wsx (Int.toNat (x1 / 64)) (tOp true (wsx (Int.toNat (x1 / 64))) (mkM (x1 % 64).toNat (imin x2 (64 - x1 % 64)).toNat)) o))
   refine ord_nil ?_
   refine hS.regC [0, 0, 20, 0, 0, 20, 0, 0] [3, 4, 8] fun _ => seg [(1, vi (x1 + (imin x2 (64 - x1 % 64)))), (2, vi (x2 - (imin x2 (64 - x1 % 64))))] [(0, none), (1, none), (2, none)] [.p (fit .i64 (x2 - (imin x2 (64 - x1 % 64)))), .p (fit .i64 (x1 + (imin x2 (64 - x1 % 64))))] ⟨fit_i64 (by omega), fit_i64 (by omega), trivial⟩ fun ac wd hS => ?_
   refine pop_block ?_
   exact pop_then (hS.next ((x1 + (imin x2 (64 - x1 % 64))), (x2 - (imin x2 (64 - x1 % 64))), (putW wsx (Int.toNat (x1 / 64)) (tOp true (wsx (Int.toNat (x1 / 64))) (mkM (x1 % 64).toNat (imin x2 (64 - x1 % 64)).toNat)))) ⟨(by first | omega | assumption | (simp; done) | (simp; omega)), (by exact i1.turnI (m := imin x2 (64 - (x1 % 64))) hw0 (by omega) (by omega) (by omega) (by omega)), trivial⟩ (by dsimp only; omega))
  ·
   refine wp_exit ?_
   refine pop_then_exit ?_
   refine pop_then_exit ?_
   refine pop_block_hit ?_
   refine pop_then ?_
   refine hS.regS [0, 100, 0] [8] fun _ => seg [(9, vi 0)] [(1, some ((ν1 1), .cells [vi ((n : Nat) : Int), sc g22 0 nw c23] 58)), (2, none)] [.e (ν1 1), .e (ν1 1), .e (ν1 0), .e (ν1 0)] trivial fun ac wd hS => ?_
   refine wp_ret ?_
   refine St.retC 0 hS (.tuple #[.agg #[vi ((n : Nat) : Int), sc g22 0 nw c23], vi 0]) [.e (ν1 1), .e (ν1 1)] trivial fun hw => ?_
   refine ⟨g22, 0, c23, wsx, retd (tuple2 rfl (vint ?_)), ?_, (.inr ((hw.getm 1 g22 (.row 33 nw tot24 (u64s wsx 0))).resolve_right (fun h => h))), (HE.fn_hi (by omega) (HE.of_row (hw.get 1 g22 (.row 33 nw tot24 (u64s wsx 0))) (fun _ _ => rfl))), hw.fr0⟩
   all_goals (first | rfl | exact trnE_no (by assumption) | exact trnE_yes (by assumption) | (rw [trn_no (by assumption)]; exact hW) | (rw [trn_yes (by assumption), show k.toNat = (x1 - f).toNat by omega]; exact i1))

set_option maxRecDepth 100000 in
set_option maxHeartbeats 1000000 in
theorem bits_With (g : Nat) (o : Nat) (c : Nat) (nw : Nat) (ws : Nat → Nat) (n : Nat) (f : Int) (k : Int) (p : Nat → Bool) (w : World) (hh0 : HE.holds w g (.fn o (o + nw) (u64s ws o))) (hW : Words ws nw n p) (hn : n ≤ 1048576) :
    Calls Tryd.prog 58 #[.agg #[vi ((n : Nat) : Int), sc g o nw c], vi f, vi k] w fun e w' => ∃ (g2 : Nat) (o2 : Nat) (c2 : Nat) (ws2 : Nat → Nat), e = .returned (.tuple #[.agg #[vi ((n : Nat) : Int), sc g2 o2 nw c2], vi (trnE n f k)]) ∧ Words ws2 nw n (trn p n f k true) ∧ (g2 = g ∨ w.heap.size ≤ g2) ∧ HE.holds w' g2 (.fn o2 (o2 + nw) (u64s ws2 o2)) ∧ Fr w w' no no := by
 refine enter (args := [.agg #[vi ((n : Nat) : Int), sc g o nw c], vi f, vi k]) (D := no) (A := []) Tryd.func58 rfl 14 rfl [(g, .fn o (o + nw) (u64s ws o))] (WS.startL ⟨⟨rfl, hh0⟩, trivial⟩) fun ac hS => ?_
 refine hS.regS [0, 0, 0] [1, 2] fun ν1 => seg [(3, pt (ν1 0) 0), (6, pt (ν1 1) 0)] [(0, none), (1, some ((ν1 0), .cells [vi ((n : Nat) : Int), sc g o nw c] 58)), (2, some ((ν1 1), .cells [vi 0, vnil] 58))] [] trivial fun ac wd hS => ?_
 refine wp_region_seq ?_
 refine hS.opsC 3 [100, 0, 0] [6] fun _ => seg [(8, .agg #[vi ((n : Nat) : Int), sc g o nw c]), (9, vi f), (10, vi k)] [(0, none), (2, none)] [.e (ν1 0), .e (ν1 0)] trivial fun ac wd hS => ?_
 refine hS.callC 97 #[.agg #[vi ((n : Nat) : Int), sc g o nw c], vi f, vi k, .func (.func 98) #[] #[]] (bits_turn_with g o c nw ws n f k p _ (hS.mem.get 0 g (.fn o (o + nw) (u64s ws o))) (by first | assumption | omega | (simp_all; done) | (simp_all; omega)) (by first | assumption | omega | (simp_all; done) | (simp_all; omega))) ?_
 rintro _ wd ⟨g21, o22, c23, ws24, rfl, hW25, hog0, hoh0, hF⟩
 have ho6 : g21 = g ∨ w.heap.size ≤ g21 := by rcases hog0 with hx | hx; rw [hx]; exact (.inl rfl); exact .inr (Nat.le_trans hS.mem.fr.size hx)
 refine ⟨.tuple #[.agg #[vi ((n : Nat) : Int), sc g21 o22 nw c23], vi (trnE n f k)], rfl, ?_⟩
 replace hS := (hS.to (hS.mem.outs hF [(g21, .fn o22 (o22 + nw) (u64s ws24 o22))] ⟨⟨rfl, hoh0, hog0.imp (fun e => ⟨0, .fn o (o + nw) (u64s ws o), by rw [e]; rfl, rfl⟩) id⟩, trivial⟩)).put (d := 11) (v := .tuple #[.agg #[vi ((n : Nat) : Int), sc g21 o22 nw c23], vi (trnE n f k)]) (by decide)
 clear hF
 refine hS.opsC 4 [0, 0, 100, 0] [6] fun _ => seg [(7, vi (trnE n f k))] [(1, some ((ν1 1), .cells [vi ((n : Nat) : Int), sc g21 o22 nw c23] 58)), (2, none)] [.e (ν1 1), .e (ν1 1)] trivial fun ac wd hS => ?_
 refine list_nil_seq ?_
 refine wp_ret ?_
 refine St.retC 0 hS (.tuple #[.agg #[vi ((n : Nat) : Int), sc g21 o22 nw c23], vi (trnE n f k)]) [.e (ν1 1), .e (ν1 1)] trivial fun hw => ?_
 refine ⟨g21, o22, c23, ws24, retd rfl, ?_, ho6, (hw.get 1 g21 (.fn o22 (o22 + nw) (u64s ws24 o22))), hw.fr0⟩
 all_goals (first | rfl | assumption)

set_option maxRecDepth 100000 in
set_option maxHeartbeats 1000000 in
theorem bits_turn_without (g : Nat) (o : Nat) (c : Nat) (nw : Nat) (ws : Nat → Nat) (n : Nat) (f : Int) (k : Int) (p : Nat → Bool) (w : World) (hh0 : HE.holds w g (.fn o (o + nw) (u64s ws o))) (hW : Words ws nw n p) (hn : n ≤ 1048576) :
    Calls Tryd.prog 97 #[.agg #[vi ((n : Nat) : Int), sc g o nw c], vi f, vi k, .func (.func 100) #[] #[]] w fun e w' => ∃ (g2 : Nat) (o2 : Nat) (c2 : Nat) (ws2 : Nat → Nat), e = .returned (.tuple #[.agg #[vi ((n : Nat) : Int), sc g2 o2 nw c2], vi (trnE n f k)]) ∧ Words ws2 nw n (trn p n f k false) ∧ (g2 = g ∨ w.heap.size ≤ g2) ∧ HE.holds w' g2 (.fn o2 (o2 + nw) (u64s ws2 o2)) ∧ Fr w w' no no := by
 have hnw := hW.many
 have hsm := hW.small
 refine enter (args := [.agg #[vi ((n : Nat) : Int), sc g o nw c], vi f, vi k, .func (.func 100) #[] #[]]) (D := no) (A := []) Tryd.func97 rfl 51 rfl [(g, .fn o (o + nw) (u64s ws o))] (WS.startL ⟨⟨rfl, hh0⟩, trivial⟩) fun ac hS => ?_
 refine hS.regS [0, 0, 0] [1, 2, 3] fun ν1 => seg [(4, pt (ν1 0) 0), (8, pt (ν1 1) 0)] [(0, none), (1, some ((ν1 0), .cells [vi ((n : Nat) : Int), sc g o nw c] 58)), (2, some ((ν1 1), .cells [vi 0, vnil] 58))] [] trivial fun ac wd hS => ?_
 refine wp_seq ?_
 refine wp_region_seq ?_
 refine hS.opsC 3 [100, 0, 0] [1, 2, 3, 4, 8] fun _ => seg [(12, .agg #[vi ((n : Nat) : Int), sc g o nw c]), (13, vi f), (14, vi k)] [(0, none), (1, none), (2, none)] [.e (ν1 0), .e (ν1 0)] trivial fun ac wd hS => ?_
 refine hS.call0 74 #[.agg #[vi ((n : Nat) : Int), sc g o nw c], vi f, vi k] 15 (bits_within g o c nw n f k _  (by first | assumption | omega | (simp_all; done) | (simp_all; omega))) fun ac wd hS => ?_
 refine hS.opsC 1 [0] [1, 2, 3, 4, 8] fun _ => seg [(16, vb (!(wth n f k)))] [(0, none), (1, none), (2, none)] [] trivial fun ac wd hS => ?_
 refine list_nil_seq ?_
 refine hS.condC (!(wth n f k)) (fun hb1o hb1 => ?_) (fun hb1o hb1 => ?_)
 ·
  refine hS.regS [100, 200, 0] [8] fun _ => seg [(9, vi 3)] [(0, none), (2, some ((ν1 1), .cells [vi ((n : Nat) : Int), sc g o nw c] 58))] [.e (ν1 1), .e (ν1 1), .e (ν1 0), .e (ν1 0)] trivial fun ac wd hS => ?_
  refine wp_ret ?_
  refine pop_then_ret ?_
  refine St.retC 1 hS (.tuple #[.agg #[vi ((n : Nat) : Int), sc g o nw c], vi 3]) [.e (ν1 1), .e (ν1 1)] trivial fun hw => ?_
  refine ⟨g, o, c, ws, retd (tuple2 rfl (vint ?_)), ?_, (.inl rfl), (hw.get 0 g (.fn o (o + nw) (u64s ws o))), hw.fr0⟩
  all_goals (first | rfl | exact trnE_no (by assumption) | exact trnE_yes (by assumption) | (rw [trn_no (by assumption)]; exact hW) | (rw [trn_yes (by assumption), show k.toNat = (x1 - f).toNat by omega]; exact i1))
 ·
  have hwt : wth n f k = true := by simpa using hb1o
  obtain ⟨hw0, hw1, hw2⟩ := wth_facts hwt
  refine wp_skip ?_
  refine pop_then ?_
  refine wp_region_seq ?_
  refine hS.opsC 2 [0, 100] [1, 2, 3, 4, 8] fun _ => seg [(19, sc g o nw c)] [(0, none), (1, none), (2, none)] [.e (ν1 0)] trivial fun ac wd hS => ?_
  refine hS.callC 112 #[sc g o nw c] (slices_CloneW g o c nw ws p _ (hS.mem.get 0 g (.fn o (o + nw) (u64s ws o))) (by first | assumption | omega | (simp_all; done) | (simp_all; omega))) ?_
  rintro _ wd ⟨g22, c23, tot24, rfl, hog0, hoh0, hF⟩
  have ho5 : w.heap.size ≤ g22 := Nat.le_trans hS.mem.fr.size hog0
  refine ⟨sc g22 0 nw c23, rfl, ?_⟩
  replace hS := (hS.to (hS.mem.outR hF hog0 hoh0)).put (d := 20) (v := sc g22 0 nw c23) (by decide)
  clear hF
  refine hS.opsC 2 [0, 100] [1, 2, 3, 4, 8] fun _ => seg [] [(1, some ((ν1 0), .cells [vi ((n : Nat) : Int), sc g22 0 nw c23] 58)), (2, none), (3, none)] [.e (ν1 0)] trivial fun ac wd hS => ?_
  refine list_nil_seq ?_
  refine wp_seq ?_
  refine wp_block ?_
  refine St.loopC (σ := Int × Int × (Nat → Nat)) (fun (x : Int × Int × (Nat → Nat)) => match x with | (x1, x2, wsx) => ⟨[(1, [], vi x1), (2, [], vi x2), (3, [], .func (.func 100) #[] #[]), (4, [], pt (ν1 0) 0), (8, [], pt (ν1 1) 0)], [((ν1 0), .cells [vi ((n : Nat) : Int), sc g22 0 nw c23] 58), ((ν1 1), .cells [vi 0, vnil] 58), (g22, .row 33 nw tot24 (u64s wsx 0))], [], (f ≤ x1 ∧ 0 ≤ x2 ∧ x1 + x2 = f + k) ∧ (Words wsx nw n (setR p f.toNat (x1 - f).toNat false)) ∧ True, Int.toNat x2⟩) (f, k, ws) ⟨(by first | omega | (rw [show (f - f).toNat = 0 by omega, setR_zero]; exact hW)), (by first | omega | (rw [show (f - f).toNat = 0 by omega, setR_zero]; exact hW)), trivial⟩ hS ?_
  clear hS
  rintro ⟨x1, x2, wsx⟩ ⟨i0, i1, -⟩ ac wd hS
  replace i0 : f ≤ x1 ∧ 0 ≤ x2 ∧ x1 + x2 = f + k := i0
  replace i1 : Words wsx nw n (setR p f.toNat (x1 - f).toNat false) := i1
  have him : 0 < x2 → 1 ≤ imin x2 (64 - (x1 % 64)) ∧ imin x2 (64 - (x1 % 64)) ≤ 64 - (x1 % 64) ∧ imin x2 (64 - (x1 % 64)) ≤ x2 := fun h => by unfold imin; split <;> omega
  refine wp_seq ?_
  refine hS.regS [0, 0] [1, 2, 3, 4, 8] fun _ => seg [(23, vb (decide ((0 : Int) < x2)))] [(0, none), (1, none), (2, none)] [] trivial fun ac wd hS => ?_
  refine hS.condC (decide ((0 : Int) < x2)) (fun hb6o hb6 => ?_) (fun hb6o hb6 => ?_)
  ·
   refine wp_skip ?_
   refine pop_then ?_
   refine wp_block ?_
   refine wp_region_seq ?_
   refine hS.opsC 2 [0, 0] [1, 2, 3, 4, 8] fun _ => seg [(25, vi x1), (26, vi x2)] [(0, none), (1, none), (2, none)] [] trivial fun ac wd hS => ?_
   refine hS.call0 75 #[vi x1, vi x2] 27 (bits_mask x1 x2 _  (by first | assumption | omega | (simp_all; done) | (simp_all; omega)) (by first | assumption | omega | (simp_all; done) | (simp_all; omega))) fun ac wd hS => ?_
   refine hS.opsC 5 [0, 0, 0, 0, 0] [1, 2, 3, 4, 8] fun _ => seg [(10, vu ((mkM (x1 % 64).toNat (imin x2 (64 - x1 % 64)).toNat : Nat) : Int)), (11, vi (imin x2 (64 - x1 % 64)))] [(0, none), (1, none), (2, none)] [] trivial fun ac wd hS => ?_
   refine list_nil_seq ?_
   refine St.ordBeginS [(0, 1), (1, 1), (2, 1), (3, 1), (4, 1), (5, 1), (6, 1), (7, 1), (8, 1), (9, 1), (10, 1), (11, 1), (12, 0), (13, 1), (14, 2)] [((ν1 0), .cells [vi ((n : Nat) : Int), sc g22 0 nw c23] 58), ((ν1 1), .cells [vi 0, vnil] 58), (g22, .row 33 nw tot24 (u64s wsx 0))] [0, 1, 2] hS fun wd hS => ?_
   have hap := hS.mem.pairs (Hf := [((ν1 0), .cells [vi ((n : Nat) : Int), sc g22 0 nw c23] 58), ((ν1 1), .cells [vi 0, vnil] 58), (g22, .row 33 nw tot24 (u64s wsx 0))]) (l := [0, 1, 2])
   refine St.ordF [0, 0, 0, 20, 0, 0, 0, 0, 20, 10, fx 200 (vu ((wsx (Int.toNat (x1 / 64)) : Nat) : Int)), 0] [0, 1, 2, 3, 4, 5, 6, 7, 8, 9, 10, 11] [1, 2, 3, 4, 8, 11] (rest := [(12, 0), (13, 1), (14, 2)]) hS hap <| segF [(31, sc g22 0 nw c23), (33, vi (x1 / 64)), (34, .func (.func 100) #[] #[]), (40, vu ((wsx (Int.toNat (x1 / 64)) : Nat) : Int)), (41, vu ((mkM (x1 % 64).toNat (imin x2 (64 - x1 % 64)).toNat : Nat) : Int))] [.p ((((u64s wsx 0) (Int.toNat (x1 / 64))) : Value) = vu ((wsx (Int.toNat (x1 / 64)) : Nat) : Int)), .e g22, .p (Int.toNat (x1 / 64) < nw), .p (0 ≤ (x1 / 64) ∧ (x1 / 64) < ((nw : Nat) : Int)), .p (64 ≠ 0 ∧ IntKind.i64.wrap (Int.tdiv x1 64) = x1 / 64), .e (ν1 0), .p (64 ≠ 0 ∧ IntKind.i64.wrap (Int.tdiv x1 64) = x1 / 64), .e (ν1 0)] ⟨(u64s_abs wsx (Int.toNat (x1 / 64))), (by omega), (by omega), quo2 (by omega) (by omega) (by omega), quo2 (by omega) (by omega) (by omega), trivial⟩ fun ac hS => ?_
   refine hS.ordC 12 100 #[vu ((wsx (Int.toNat (x1 / 64)) : Nat) : Int), vu ((mkM (x1 % 64).toNat (imin x2 (64 - x1 % 64)).toNat : Nat) : Int)] (bits_without1 (wsx (Int.toNat (x1 / 64))) (mkM (x1 % 64).toNat (imin x2 (64 - x1 % 64)).toNat) _  (by first | exact i1.small _ (by rw [i1.many]; omega) | exact mkM_lt (by omega)) (by first | exact i1.small _ (by rw [i1.many]; omega) | exact mkM_lt (by omega))) ?_
   rintro _ wd ⟨rfl, hF⟩
   refine ⟨vu ((tOp false (wsx (Int.toNat (x1 / 64))) (mkM (x1 % 64).toNat (imin x2 (64 - x1 % 64)).toNat) : Nat) : Int), rfl, ?_⟩
   replace hS := (hS.to (hF ▸ hS.mem)).put (d := 42) (v := vu ((tOp false (wsx (Int.toNat (x1 / 64))) (mkM (x1 % 64).toNat (imin x2 (64 - x1 % 64)).toNat) : Nat) : Int)) (by decide)
   clear hF
   refine hS.ordV (l := [0, 1, 2]) ?_
   refine St.ordF [10] [13] [1, 2, 3, 4, 8, 11, 42] (rest := [(14, 2)]) hS hap <| segF [(43, pt g22 (Int.toNat (x1 / 64)))] [.p (0 ≤ (x1 / 64) ∧ (x1 / 64) < ((nw : Nat) : Int))] ⟨(by omega), trivial⟩ fun ac hS => ?_
   refine St.ord2 14 [200] [1, 2, 3, 4, 8, 11] hS rfl fun _ => seg [] [(0, none), (1, none), (2, some (g22, .row 33 nw tot24 (fun x => if x = Int.toNat (x1 / 64) then vu ((tOp false (wsx (Int.toNat (x1 / 64))) (mkM (x1 % 64).toNat (imin x2 (64 - x1 % 64)).toNat) : Nat) : Int) else (u64s wsx 0) x)))] [.e g22, .p (Int.toNat (x1 / 64) < nw)] ⟨(by omega), trivial⟩ fun ac wd hS => ?_
   replace hS := hS.to (hS.mem.tellR 2 (b := g22) (e := 33) (m := nw) (tot := tot24) (f := (fun x => if x = Int.toNat (x1 / 64) then vu ((tOp false (wsx (Int.toNat (x1 / 64))) (mkM (x1 % 64).toNat (imin x2 (64 - x1 % 64)).toNat) : Nat) : Int) else (u64s wsx 0) x)) (u64s (putW wsx (Int.toNat (x1 / 64)) (tOp false (wsx (Int.toNat (x1 / 64))) (mkM (x1 % 64).toNat (imin x2 (64 - x1 % 64)).toNat))) 0) (fun o ho => u64s_putv wsx (Int.toNat (x1 / 64)) (tOp false (wsx (Int.toNat (x1 / 64))) (mkM (x1 % 64).toNat (imin x2 (64 - x1 % 64)).toNat)) o))
   refine ord_nil ?_
   refine hS.regC [0, 0, 20, 0, 0, 20, 0, 0] [3, 4, 8] fun _ => seg [(1, vi (x1 + (imin x2 (64 - x1 % 64)))), (2, vi (x2 - (imin x2 (64 - x1 % 64))))] [(0, none), (1, none), (2, none)] [.p (fit .i64 (x2 - (imin x2 (64 - x1 % 64)))), .p (fit .i64 (x1 + (imin x2 (64 - x1 % 64))))] ⟨fit_i64 (by omega), fit_i64 (by omega), trivial⟩ fun ac wd hS => ?_
   refine pop_block ?_
   exact pop_then (hS.next ((x1 + (imin x2 (64 - x1 % 64))), (x2 - (imin x2 (64 - x1 % 64))), (putW wsx (Int.toNat (x1 / 64)) (tOp false (wsx (Int.toNat (x1 / 64))) (mkM (x1 % 64).toNat (imin x2 (64 - x1 % 64)).toNat)))) ⟨(by first | omega | assumption | (simp; done) | (simp; omega)), (by exact i1.turnI (m := imin x2 (64 - (x1 % 64))) hw0 (by omega) (by omega) (by omega) (by omega)), trivial⟩ (by dsimp only; omega))
  ·
   refine wp_exit ?_
   refine pop_then_exit ?_
   refine pop_then_exit ?_
   refine pop_block_hit ?_
   refine pop_then ?_
   refine hS.regS [0, 100, 0] [8] fun _ => seg [(9, vi 0)] [(1, some ((ν1 1), .cells [vi ((n : Nat) : Int), sc g22 0 nw c23] 58)), (2, none)] [.e (ν1 1), .e (ν1 1), .e (ν1 0), .e (ν1 0)] trivial fun ac wd hS => ?_
   refine wp_ret ?_
   refine St.retC 0 hS (.tuple #[.agg #[vi ((n : Nat) : Int), sc g22 0 nw c23], vi 0]) [.e (ν1 1), .e (ν1 1)] trivial fun hw => ?_
   refine ⟨g22, 0, c23, wsx, retd (tuple2 rfl (vint ?_)), ?_, (.inr ((hw.getm 1 g22 (.row 33 nw tot24 (u64s wsx 0))).resolve_right (fun h => h))), (HE.fn_hi (by omega) (HE.of_row (hw.get 1 g22 (.row 33 nw tot24 (u64s wsx 0))) (fun _ _ => rfl))), hw.fr0⟩
   all_goals (first | rfl | exact trnE_no (by assumption) | exact trnE_yes (by assumption) | (rw [trn_no (by assumption)]; exact hW) | (rw [trn_yes (by assumption), show k.toNat = (x1 - f).toNat by omega]; exact i1))

set_option maxRecDepth 100000 in
set_option maxHeartbeats 1000000 in
theorem bits_Without (g : Nat) (o : Nat) (c : Nat) (nw : Nat) (ws : Nat → Nat) (n : Nat) (f : Int) (k : Int) (p : Nat → Bool) (w : World) (hh0 : HE.holds w g (.fn o (o + nw) (u64s ws o))) (hW : Words ws nw n p) (hn : n ≤ 1048576) :
    Calls Tryd.prog 66 #[.agg #[vi ((n : Nat) : Int), sc g o nw c], vi f, vi k] w fun e w' => ∃ (g2 : Nat) (o2 : Nat) (c2 : Nat) (ws2 : Nat → Nat), e = .returned (.tuple #[.agg #[vi ((n : Nat) : Int), sc g2 o2 nw c2], vi (trnE n f k)]) ∧ Words ws2 nw n (trn p n f k false) ∧ (g2 = g ∨ w.heap.size ≤ g2) ∧ HE.holds w' g2 (.fn o2 (o2 + nw) (u64s ws2 o2)) ∧ Fr w w' no no := by
 refine enter (args := [.agg #[vi ((n : Nat) : Int), sc g o nw c], vi f, vi k]) (D := no) (A := []) Tryd.func66 rfl 14 rfl [(g, .fn o (o + nw) (u64s ws o))] (WS.startL ⟨⟨rfl, hh0⟩, trivial⟩) fun ac hS => ?_
 refine hS.regS [0, 0, 0] [1, 2] fun ν1 => seg [(3, pt (ν1 0) 0), (6, pt (ν1 1) 0)] [(0, none), (1, some ((ν1 0), .cells [vi ((n : Nat) : Int), sc g o nw c] 58)), (2, some ((ν1 1), .cells [vi 0, vnil] 58))] [] trivial fun ac wd hS => ?_
 refine wp_region_seq ?_
 refine hS.opsC 3 [100, 0, 0] [6] fun _ => seg [(8, .agg #[vi ((n : Nat) : Int), sc g o nw c]), (9, vi f), (10, vi k)] [(0, none), (2, none)] [.e (ν1 0), .e (ν1 0)] trivial fun ac wd hS => ?_
 refine hS.callC 97 #[.agg #[vi ((n : Nat) : Int), sc g o nw c], vi f, vi k, .func (.func 100) #[] #[]] (bits_turn_without g o c nw ws n f k p _ (hS.mem.get 0 g (.fn o (o + nw) (u64s ws o))) (by first | assumption | omega | (simp_all; done) | (simp_all; omega)) (by first | assumption | omega | (simp_all; done) | (simp_all; omega))) ?_
 rintro _ wd ⟨g21, o22, c23, ws24, rfl, hW25, hog0, hoh0, hF⟩
 have ho6 : g21 = g ∨ w.heap.size ≤ g21 := by rcases hog0 with hx | hx; rw [hx]; exact (.inl rfl); exact .inr (Nat.le_trans hS.mem.fr.size hx)
 refine ⟨.tuple #[.agg #[vi ((n : Nat) : Int), sc g21 o22 nw c23], vi (trnE n f k)], rfl, ?_⟩
 replace hS := (hS.to (hS.mem.outs hF [(g21, .fn o22 (o22 + nw) (u64s ws24 o22))] ⟨⟨rfl, hoh0, hog0.imp (fun e => ⟨0, .fn o (o + nw) (u64s ws o), by rw [e]; rfl, rfl⟩) id⟩, trivial⟩)).put (d := 11) (v := .tuple #[.agg #[vi ((n : Nat) : Int), sc g21 o22 nw c23], vi (trnE n f k)]) (by decide)
 clear hF
 refine hS.opsC 4 [0, 0, 100, 0] [6] fun _ => seg [(7, vi (trnE n f k))] [(1, some ((ν1 1), .cells [vi ((n : Nat) : Int), sc g21 o22 nw c23] 58)), (2, none)] [.e (ν1 1), .e (ν1 1)] trivial fun ac wd hS => ?_
 refine list_nil_seq ?_
 refine wp_ret ?_
 refine St.retC 0 hS (.tuple #[.agg #[vi ((n : Nat) : Int), sc g21 o22 nw c23], vi (trnE n f k)]) [.e (ν1 1), .e (ν1 1)] trivial fun hw => ?_
 refine ⟨g21, o22, c23, ws24, retd rfl, ?_, ho6, (hw.get 1 g21 (.fn o22 (o22 + nw) (u64s ws24 o22))), hw.fr0⟩
 all_goals (first | rfl | assumption)

set_option maxRecDepth 100000 in
set_option maxHeartbeats 1000000 in
theorem bits_New (length : Int) (w : World) :
    Calls Tryd.prog 56 #[vi length] w fun e w' => ∃ (g2 : Nat) (c2 : Nat), e = .returned (.agg #[vi ((capN length : Nat) : Int), sc g2 0 ((capN length + 63) / 64) c2]) ∧ w.heap.size ≤ g2 ∧ HE.holds w' g2 (.fn 0 (0 + ((capN length + 63) / 64)) (u64s (fun _ => 0) 0)) ∧ Fr w w' no no := by
 have hcap := capN_le length
 refine enter (args := [vi length]) (D := no) (A := []) Tryd.func56 rfl 13 rfl [] (WS.startL trivial) fun ac hS => ?_
 refine hS.regS [0] [0] fun ν1 => seg [(2, pt (ν1 0) 0)] [(0, some ((ν1 0), .cells [vi 0, vnil] 58))] [] trivial fun ac wd hS => ?_
 refine hS.regS [0, 0, fx 0 (vi ((capN length : Nat) : Int)), 0] [2] fun _ => seg [(0, vi ((capN length : Nat) : Int))] [(0, none)] [.p ((vi (imax 0 (imin length 1048576)) : Value) = vi ((capN length : Nat) : Int))] ⟨(vint (capN_eq length)), trivial⟩ fun ac wd hS => ?_
 refine hS.regS [0, 0, 20, 20, 20, 90, 0, 0] [2] fun ν3 => seg [] [(0, some ((ν1 0), .cells [vi ((capN length : Nat) : Int), sc (ν3 0) 0 (Int.toNat (((((capN length : Nat) : Int) + 64) - 1) / 64)) (Int.toNat (((((capN length : Nat) : Int) + 64) - 1) / 64))] 58)), (1, some ((ν3 0), .row 33 (Int.toNat (((((capN length : Nat) : Int) + 64) - 1) / 64)) (Int.toNat (((((capN length : Nat) : Int) + 64) - 1) / 64)) (u64s (fun _ => 0) 0)))] [.e (ν1 0), .e (ν1 0), .p (((((((capN length : Nat) : Int) + 64) - 1) / 64) : Int) = (((((capN length : Nat) : Int) + 64) - 1) / 64)), .p ((0 : Int) ≤ (((((capN length : Nat) : Int) + 64) - 1) / 64) ∧ ((((((capN length : Nat) : Int) + 64) - 1) / 64) : Int) ≤ 2 ^ 32 ∧ 8 ≤ 64), .p (64 ≠ 0 ∧ IntKind.i64.wrap (Int.tdiv ((((capN length : Nat) : Int) + 64) - 1) 64) = ((((capN length : Nat) : Int) + 64) - 1) / 64), .p (fit .i64 ((((capN length : Nat) : Int) + 64) - 1)), .p (fit .i64 (((capN length : Nat) : Int) + 64))] ⟨rfl, (by omega), quo2 (by omega) (by omega) (by omega), fit_i64 (by omega), fit_i64 (by omega), trivial⟩ fun ac wd hS => ?_
 refine wp_ret ?_
 refine St.retC 0 hS (.agg #[vi ((capN length : Nat) : Int), sc (ν3 0) 0 (Int.toNat (((((capN length : Nat) : Int) + 64) - 1) / 64)) (Int.toNat (((((capN length : Nat) : Int) + 64) - 1) / 64))]) [.e (ν1 0), .e (ν1 0)] trivial fun hw => ?_
 refine ⟨(ν3 0), (Int.toNat (((((capN length : Nat) : Int) + 64) - 1) / 64)), retd (agg2 rfl ?_), ((hw.getm 1 (ν3 0) (.row 33 (Int.toNat (((((capN length : Nat) : Int) + 64) - 1) / 64)) (Int.toNat (((((capN length : Nat) : Int) + 64) - 1) / 64)) (u64s (fun _ => 0) 0))).resolve_right (fun h => h)), (HE.fn_hi (by omega) (HE.of_row (hw.get 1 (ν3 0) (.row 33 (Int.toNat (((((capN length : Nat) : Int) + 64) - 1) / 64)) (Int.toNat (((((capN length : Nat) : Int) + 64) - 1) / 64)) (u64s (fun _ => 0) 0))) (fun _ _ => rfl))), hw.fr0⟩
 all_goals (first | rfl | assumption | (simp; done) | (simp; omega) | omega | (simp_all; done) | (simp_all; omega))

end Go.Proofs.YtlnecfdbmoilbaaDoor.K
