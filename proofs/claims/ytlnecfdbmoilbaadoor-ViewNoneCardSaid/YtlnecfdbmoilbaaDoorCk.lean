/-
  Walks, printed by w2.py.
-/
import Derived.Test.YtlnecfdbmoilbaaDoorCj
import Derived.Test.YtlnecfdbmoilbaaDoorKw
import Derived.Test.YtlnecfdbmoilbaaDoorProg
namespace Go.Proofs.YtlnecfdbmoilbaaDoor.K
set_option linter.unusedVariables false
set_option linter.unusedSimpArgs false

set_option maxRecDepth 100000 in
set_option maxHeartbeats 1000000 in
theorem law03_ArenaGreat (c : Int) (p : Int) (a : Int) (n : Int) (k : Int) (w : World) (hh0 : HE.holds w 1 (.fn 0 64 dbT)) :
    Calls Tryd.prog 4 #[vi c, vi p, vi a, vi n, vi k] w fun e w' => e = .returned (vb true) ∧ Fr w w' no no := by
 have hcap := capN_le c
 have hE := great_eq c p
 refine enter (args := [vi c, vi p, vi a, vi n, vi k]) (D := no) (A := []) Tryd.func4 rfl 176 rfl [(1, .fn 0 64 dbT)] (WS.startL ⟨⟨rfl, hh0⟩, trivial⟩) fun ac hS => ?_
 refine hS.regS [0] [0, 1, 2, 3, 4] fun _ => seg [] [(0, none)] [] trivial fun ac wd hS => ?_
 refine wp_seq ?_
 refine wp_region_seq ?_
 refine hS.call0 13 #[] 22 (law03_awake  _ (hS.mem.get 0 1 (.fn 0 64 dbT)) ) fun ac wd hS => ?_
 refine hS.opsC 1 [0] [0, 1, 2, 3, 4] fun _ => seg [(23, vb false)] [(0, none)] [] trivial fun ac wd hS => ?_
 refine list_nil_seq ?_
 refine hS.condF ?_
 refine wp_skip ?_
 refine pop_then ?_
 refine wp_region_seq ?_
 refine hS.opsC 1 [0] [0, 1, 2, 3, 4] fun _ => seg [(24, vi c)] [(0, none)] [] trivial fun ac wd hS => ?_
 refine hS.callC 14 #[vi c] (ar_New c _  ) ?_
 rintro _ wd ⟨b'1, F2, rfl, hN, hF⟩
 refine ⟨pt b'1 0, rfl, ?_⟩
 replace hS := (hS.to (hS.mem.newA hN hF)).put (d := 25) (v := pt b'1 0) (by decide)
 clear hF
 refine hS.opsC 5 [0, 0, fx 0 (vi ((capN c : Nat) : Int)), 0, 0] [1, 2, 3, 4] fun _ => seg [(11, pt b'1 0), (12, vi ((capN c : Nat) : Int))] [(0, none)] [.p ((vi (imin (imax c 0) 1048576) : Value) = vi ((capN c : Nat) : Int))] ⟨(vint (capN_mm c)), trivial⟩ fun ac wd hS => ?_
 refine list_nil_seq ?_
 refine wp_seq ?_
 refine wp_region_seq ?_
 refine hS.opsC 1 [0] [1, 2, 3, 4, 11, 12] fun _ => seg [(29, pt b'1 0)] [(0, none)] [] trivial fun ac wd hS => ?_
 refine hS.call0 19 #[pt b'1 0] 30 (ar_Cap b'1 F2 (AM.new c) _ (hS.mem.res 0) ) fun ac wd hS => ?_
 refine hS.opsC 3 [0, 0, 0] [1, 2, 3, 4, 11, 12] fun _ => seg [(33, vb (((((AM.new c).cap : Nat) : Int) : Int) != ((capN c : Nat) : Int)))] [(0, none)] [] trivial fun ac wd hS => ?_
 rcases Bool.eq_false_or_eq_true (((((AM.new c).cap : Nat) : Int) : Int) != ((capN c : Nat) : Int)) with hg3o | hg3o
 ·
  have hg3 := nrm hg3o
  replace hS := hS.fix 33 (vb true) (congrArg Value.bool hg3o)
  refine hS.opsC 4 [2, 2, 2, 70] [1, 2, 3, 4, 11, 12] fun _ => seg [(37, vb true)] [(0, none)] [.t true, .t true, .t true, .t true] trivial fun ac wd hS => ?_
  refine list_nil_seq ?_
  refine hS.condT ?_
  refine hS.regS [0] [] fun _ => seg [(10, vb false)] [(0, none)] [] trivial fun ac wd hS => ?_
  refine wp_ret ?_
  refine pop_then_ret ?_
  refine St.retC 0 hS (vb false) [] trivial fun hw => ?_
  refine ⟨retd (vbool ?_), hw.fr0⟩
  all_goals (first | rfl | exact great4 _ _ | exact Bool.noConfusion ((great3 c p a k).symm.trans (by assumption)) | exact absurd hg3o (by simp [AM.new]))
 ·
  have hg3 := nrm hg3o
  replace hS := hS.fix 33 (vb false) (congrArg Value.bool hg3o)
  refine hS.opsC 1 [1] [1, 2, 3, 4, 11, 12, 33] fun _ => seg [(34, pt b'1 0)] [(0, none)] [.t false] trivial fun ac wd hS => ?_
  refine hS.callG false 20 #[pt b'1 0] (ar_Committed b'1 F2 (AM.new c) _ (hS.mem.res 0) ) ?_
  rintro _ wd ⟨rfl, hF⟩
  refine ⟨vi ((countTo (AM.new c).com (AM.new c).cap : Nat) : Int), rfl, ?_⟩
  replace hS := (hS.to (hS.mem.keep0 hF)).put (d := 35) (v := vi ((countTo (AM.new c).com (AM.new c).cap : Nat) : Int)) (by decide)
  clear hF
  refine hS.opsC 2 [1, 60] [1, 2, 3, 4, 11, 12] fun _ => seg [(37, vb ((((countTo (AM.new c).com (AM.new c).cap : Nat) : Int) : Int) != 0))] [(0, none)] [.t false, .t false] trivial fun ac wd hS => ?_
  refine list_nil_seq ?_
  refine hS.condK ((((countTo (AM.new c).com (AM.new c).cap : Nat) : Int) : Int) != 0) false (by exact great5 c) ?_
  show Code.wp _ _ _ _ _
  refine wp_skip ?_
  refine pop_then ?_
  refine wp_region_seq ?_
  refine hS.opsC 2 [0, 0] [1, 2, 3, 4, 11, 12] fun _ => seg [(38, pt b'1 0), (39, vi p)] [(0, none)] [] trivial fun ac wd hS => ?_
  refine hS.callC 15 #[pt b'1 0, vi p, vi 1] (ar_Commit b'1 F2 (AM.new c) p 1 _ (hS.mem.res 0) ) ?_
  rintro _ wd ⟨F4, rfl, hA, hF⟩
  refine ⟨vi (comE (AM.new c) p 1), rfl, ?_⟩
  replace hS := (hS.to (hS.mem.stepA 0 rfl hA hF)).put (d := 40) (v := vi (comE (AM.new c) p 1)) (by decide)
  clear hF
  refine hS.opsC 1 [0] [1, 2, 3, 4, 11, 12] fun _ => seg [(13, vi (comE (AM.new c) p 1))] [(0, none)] [] trivial fun ac wd hS => ?_
  refine list_nil_seq ?_
  refine wp_seq ?_
  refine hS.regS [0, 0, 0, 0, 0, 3, 3, 3, 80, 0, 0, 3, 3, 3, 3, 3, 83, 80] [1, 2, 3, 4, 11, 12, 13] fun _ => seg [(58, vb ((!((((comE (AM.new c) p 1) : Int) == 0) == ((decide ((0 : Int) ≤ p)) && (decide ((p : Int) < ((capN c : Nat) : Int)))))) || ((((comE (AM.new c) p 1) : Int) != 0) && (((comE (AM.new c) p 1) : Int) != 3))))] [(0, none)] [] trivial fun ac wd hS => ?_
  refine hS.condK ((!((((comE (AM.new c) p 1) : Int) == 0) == ((decide ((0 : Int) ≤ p)) && (decide ((p : Int) < ((capN c : Nat) : Int)))))) || ((((comE (AM.new c) p 1) : Int) != 0) && (((comE (AM.new c) p 1) : Int) != 3))) false (by exact great1 c p) ?_
  show Code.wp _ _ _ _ _
  refine wp_skip ?_
  refine pop_then ?_
  refine wp_region_seq ?_
  refine hS.opsC 3 [0, 0, 0] [1, 2, 3, 4, 11, 12, 13] fun _ => seg [(60, pt b'1 0), (61, vi a), (62, vi n)] [(0, none)] [] trivial fun ac wd hS => ?_
  refine hS.call0 17 #[pt b'1 0, vi a, vi n] 63 (ar_Bytes b'1 F4 (comM (AM.new c) p 1) a n _ (hS.mem.res 0) ) fun ac wd hS => ?_
  refine hS.opsC 5 [0, 0, 0, 0, 0] [1, 2, 3, 4, 11, 12, 13] fun _ => seg [(15, vi (chkE (comM (AM.new c) p 1) a n))] [(0, none)] [] trivial fun ac wd hS => ?_
  refine list_nil_seq ?_
  refine wp_region_seq ?_
  refine hS.opsC 3 [0, 0, 0] [1, 2, 3, 4, 11, 12, 13, 15] fun _ => seg [(67, pt b'1 0), (68, vi a), (69, vi k)] [(0, none)] [] trivial fun ac wd hS => ?_
  refine hS.call0 21 #[pt b'1 0, vi a, vi k] 70 (ar_Load b'1 F4 (comM (AM.new c) p 1) a k _ (hS.mem.res 0) ) fun ac wd hS => ?_
  refine hS.opsC 5 [0, 0, 0, 0, 0] [1, 2, 3, 4, 11, 12, 13, 15] fun _ => seg [(17, vi (ldE (comM (AM.new c) p 1) a k))] [(0, none)] [] trivial fun ac wd hS => ?_
  refine list_nil_seq ?_
  refine hS.regS [0, 0, 0, 3, 3, 80, 0, 3, 3, 80, 0, 3, 3, 23, 3, 80, 0, 3, 3, 23, 23, 3, 23, 3, 80, 0] [1, 2, 3, 4, 11, 12, 13, 15, 17] fun _ => seg [(18, vb (((((((comE (AM.new c) p 1) : Int) == 0) && (decide ((1 : Int) ≤ n))) && (decide ((n : Int) ≤ 4096))) && (decide (((p * 4096) : Int) ≤ a))) && (decide ((a : Int) ≤ (((p + 1) * 4096) - n)))))] [(0, none)] [.p (((((((((comE (AM.new c) p 1) : Int) == 0) && (decide ((1 : Int) ≤ n))) && (decide ((n : Int) ≤ 4096))) && (decide (((p * 4096) : Int) ≤ a))) = true) ∧ True) → AllP [fit .i64 (((p + 1) * 4096) - n)]), .p (((((((((comE (AM.new c) p 1) : Int) == 0) && (decide ((1 : Int) ≤ n))) && (decide ((n : Int) ≤ 4096))) && (decide (((p * 4096) : Int) ≤ a))) = true) ∧ True) → AllP [fit .i64 ((p + 1) * 4096)]), .p (((((((((comE (AM.new c) p 1) : Int) == 0) && (decide ((1 : Int) ≤ n))) && (decide ((n : Int) ≤ 4096))) && (decide (((p * 4096) : Int) ≤ a))) = true) ∧ True) → AllP [fit .i64 (p + 1)]), .p ((((((((comE (AM.new c) p 1) : Int) == 0) && (decide ((1 : Int) ≤ n))) && (decide ((n : Int) ≤ 4096))) = true) ∧ True) → AllP [fit .i64 (p * 4096)])] ⟨(fun ⟨hc0, _⟩ => by replace hc0 := nrm hc0; exact ⟨fit_i64 (by omega), trivial⟩), (fun ⟨hc0, _⟩ => by replace hc0 := nrm hc0; exact ⟨fit_i64 (by omega), trivial⟩), (fun ⟨hc0, _⟩ => by replace hc0 := nrm hc0; exact ⟨fit_i64 (by omega), trivial⟩), (fun ⟨hc0, _⟩ => by replace hc0 := nrm hc0; exact ⟨fit_i64 (by omega), trivial⟩), trivial⟩ fun ac wd hS => ?_
  refine hS.regS [0, 0, 0, 3, 3, 80, 0, 3, 3, 23, 3, 80, 0] [1, 2, 4, 11, 13, 15, 17, 18] fun _ => seg [(19, vb ((((n : Int) == 0) && (decide ((0 : Int) ≤ a))) && (decide ((a : Int) ≤ (((capN c : Nat) : Int) * 4096)))))] [(0, none)] [.p ((((((n : Int) == 0) && (decide ((0 : Int) ≤ a))) = true) ∧ True) → AllP [fit .i64 (((capN c : Nat) : Int) * 4096)])] ⟨(fun ⟨hc0, _⟩ => by replace hc0 := nrm hc0; exact ⟨fit_i64 (by omega), trivial⟩), trivial⟩ fun ac wd hS => ?_
  refine wp_seq ?_
  refine hS.regS [0, 0, 0, 0, 3, 80, 0, 0, 3, 3, 3, 3, 3, 83, 80] [1, 2, 4, 11, 13, 17] fun _ => seg [(124, vb ((!((((chkE (comM (AM.new c) p 1) a n) : Int) == 0) == ((((((((comE (AM.new c) p 1) : Int) == 0) && (decide ((1 : Int) ≤ n))) && (decide ((n : Int) ≤ 4096))) && (decide (((p * 4096) : Int) ≤ a))) && (decide ((a : Int) ≤ (((p + 1) * 4096) - n)))) || ((((n : Int) == 0) && (decide ((0 : Int) ≤ a))) && (decide ((a : Int) ≤ (((capN c : Nat) : Int) * 4096))))))) || ((((chkE (comM (AM.new c) p 1) a n) : Int) != 0) && (((chkE (comM (AM.new c) p 1) a n) : Int) != 3))))] [(0, none)] [] trivial fun ac wd hS => ?_
  refine hS.condK ((!((((chkE (comM (AM.new c) p 1) a n) : Int) == 0) == ((((((((comE (AM.new c) p 1) : Int) == 0) && (decide ((1 : Int) ≤ n))) && (decide ((n : Int) ≤ 4096))) && (decide (((p * 4096) : Int) ≤ a))) && (decide ((a : Int) ≤ (((p + 1) * 4096) - n)))) || ((((n : Int) == 0) && (decide ((0 : Int) ≤ a))) && (decide ((a : Int) ≤ (((capN c : Nat) : Int) * 4096))))))) || ((((chkE (comM (AM.new c) p 1) a n) : Int) != 0) && (((chkE (comM (AM.new c) p 1) a n) : Int) != 3))) false (by exact great2 c p a n) ?_
  show Code.wp _ _ _ _ _
  refine wp_skip ?_
  refine pop_then ?_
  refine hS.regS [0, 0, 0, 3, 3, 80, 0, 3, 3, 80, 0, 3, 3, 80, 0] [1, 2, 4, 11, 13, 17] fun _ => seg [(20, vb (((((k : Int) == 1) || ((k : Int) == 2)) || ((k : Int) == 4)) || ((k : Int) == 8)))] [(0, none)] [] trivial fun ac wd hS => ?_
  refine hS.regS [0, 0, 3, 3, 80, 0, 3, 3, 23, 3, 80, 0, 3, 3, 23, 23, 3, 23, 3, 80, 0] [1, 11, 17, 20] fun _ => seg [(21, vb ((((((((k : Int) == 1) || ((k : Int) == 2)) || ((k : Int) == 4)) || ((k : Int) == 8)) && (((comE (AM.new c) p 1) : Int) == 0)) && (decide (((p * 4096) : Int) ≤ a))) && (decide ((a : Int) ≤ (((p + 1) * 4096) - k)))))] [(0, none)] [.p ((((((((((k : Int) == 1) || ((k : Int) == 2)) || ((k : Int) == 4)) || ((k : Int) == 8)) && (((comE (AM.new c) p 1) : Int) == 0)) && (decide (((p * 4096) : Int) ≤ a))) = true) ∧ True) → AllP [fit .i64 (((p + 1) * 4096) - k)]), .p ((((((((((k : Int) == 1) || ((k : Int) == 2)) || ((k : Int) == 4)) || ((k : Int) == 8)) && (((comE (AM.new c) p 1) : Int) == 0)) && (decide (((p * 4096) : Int) ≤ a))) = true) ∧ True) → AllP [fit .i64 ((p + 1) * 4096)]), .p ((((((((((k : Int) == 1) || ((k : Int) == 2)) || ((k : Int) == 4)) || ((k : Int) == 8)) && (((comE (AM.new c) p 1) : Int) == 0)) && (decide (((p * 4096) : Int) ≤ a))) = true) ∧ True) → AllP [fit .i64 (p + 1)]), .p (((((((((k : Int) == 1) || ((k : Int) == 2)) || ((k : Int) == 4)) || ((k : Int) == 8)) && (((comE (AM.new c) p 1) : Int) == 0)) = true) ∧ True) → AllP [fit .i64 (p * 4096)])] ⟨(fun ⟨hc0, _⟩ => by replace hc0 := nrm hc0; exact ⟨fit_i64 (by omega), trivial⟩), (fun ⟨hc0, _⟩ => by replace hc0 := nrm hc0; exact ⟨fit_i64 (by omega), trivial⟩), (fun ⟨hc0, _⟩ => by replace hc0 := nrm hc0; exact ⟨fit_i64 (by omega), trivial⟩), (fun ⟨hc0, _⟩ => by replace hc0 := nrm hc0; exact ⟨fit_i64 (by omega), trivial⟩), trivial⟩ fun ac wd hS => ?_
  refine wp_region_seq ?_
  refine hS.opsC 12 [0, 0, 0, 0, 0, 3, 3, 3, 3, 3, 80, 0] [1, 11] fun _ => seg [(170, vb (((((ldE (comM (AM.new c) p 1) a k) : Int) == 0) == ((((((((k : Int) == 1) || ((k : Int) == 2)) || ((k : Int) == 4)) || ((k : Int) == 8)) && (((comE (AM.new c) p 1) : Int) == 0)) && (decide (((p * 4096) : Int) ≤ a))) && (decide ((a : Int) ≤ (((p + 1) * 4096) - k))))) && ((((ldE (comM (AM.new c) p 1) a k) : Int) == 2) == (!(((((k : Int) == 1) || ((k : Int) == 2)) || ((k : Int) == 4)) || ((k : Int) == 8))))))] [(0, none)] [] trivial fun ac wd hS => ?_
  rcases Bool.eq_false_or_eq_true (((((ldE (comM (AM.new c) p 1) a k) : Int) == 0) == ((((((((k : Int) == 1) || ((k : Int) == 2)) || ((k : Int) == 4)) || ((k : Int) == 8)) && (((comE (AM.new c) p 1) : Int) == 0)) && (decide (((p * 4096) : Int) ≤ a))) && (decide ((a : Int) ≤ (((p + 1) * 4096) - k))))) && ((((ldE (comM (AM.new c) p 1) a k) : Int) == 2) == (!(((((k : Int) == 1) || ((k : Int) == 2)) || ((k : Int) == 4)) || ((k : Int) == 8))))) with hg5o | hg5o
  ·
   have hg5 := nrm hg5o
   replace hS := hS.fix 170 (vb true) (congrArg Value.bool hg5o)
   refine hS.opsC 2 [1, 1] [170] fun _ => seg [(171, pt b'1 0), (172, vi p)] [(0, none)] [.t true, .t true] trivial fun ac wd hS => ?_
   refine hS.callG true 15 #[pt b'1 0, vi p, vi 0] (ar_Commit b'1 F4 (comM (AM.new c) p 1) p 0 _ (hS.mem.res 0) ) ?_
   rintro _ wd ⟨F6, rfl, hA, hF⟩
   refine ⟨vi (comE (comM (AM.new c) p 1) p 0), rfl, ?_⟩
   replace hS := (hS.to (hS.mem.stepA 0 rfl hA hF)).put (d := 173) (v := vi (comE (comM (AM.new c) p 1) p 0)) (by decide)
   clear hF
   refine hS.opsC 3 [1, 70, 0] [] fun _ => seg [(10, vb (((comE (comM (AM.new c) p 1) p 0) : Int) == 2))] [(0, none)] [.t true, .t true] trivial fun ac wd hS => ?_
   refine list_nil_seq ?_
   refine wp_ret ?_
   refine St.retC 0 hS (vb (((comE (comM (AM.new c) p 1) p 0) : Int) == 2)) [] trivial fun hw => ?_
   refine ⟨retd (vbool ?_), hw.fr0⟩
   all_goals (first | rfl | exact great4 _ _ | exact Bool.noConfusion ((great3 c p a k).symm.trans (by assumption)) | exact absurd hg3o (by simp [AM.new]))
  ·
   have hg5 := nrm hg5o
   replace hS := hS.fix 170 (vb false) (congrArg Value.bool hg5o)
   refine hS.opsC 6 [2, 2, 2, 2, 60, 0] [] fun _ => seg [(10, vb false)] [(0, none)] [.t false, .t false, .t false, .t false, .t false] trivial fun ac wd hS => ?_
   refine list_nil_seq ?_
   refine wp_ret ?_
   refine St.retC 0 hS (vb false) [] trivial fun hw => ?_
   refine ⟨retd (vbool ?_), hw.fr0⟩
   all_goals (first | rfl | exact great4 _ _ | exact Bool.noConfusion ((great3 c p a k).symm.trans (by assumption)) | exact absurd hg3o (by simp [AM.new]))

end Go.Proofs.YtlnecfdbmoilbaaDoor.K
