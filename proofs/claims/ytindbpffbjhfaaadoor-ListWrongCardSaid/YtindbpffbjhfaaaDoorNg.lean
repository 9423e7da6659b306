/-
  Walks, printed by w2.py.
-/
import Derived.Test.YtindbpffbjhfaaaDoorNf
import Derived.Test.YtindbpffbjhfaaaDoorProg
namespace Go.Proofs.YtindbpffbjhfaaaDoor.K
set_option linter.unusedVariables false
set_option linter.unusedSimpArgs false

set_option maxRecDepth 100000 in
set_option maxHeartbeats 1000000 in
theorem law07_ListWrong_4096 (w : World) (hh0 : HE.holds w 1 (.fn 0 64 dbT)) :
    Calls Tryd.prog 3 #[vi 0, vi 4096] w fun e w' => e = .returned (vb true) ∧ Fr w w' no no := by
 have e1 : lsaE (comM (AM.new 3) 0 2) [] 4096 = 0 := lw_two.1
 have e2 : lsaE (lsaM (comM (AM.new 3) 0 2) 64 19 0 [] 4096) [4096] 5000 = 0 := lw_two.2.1
 have c0 : ChainL (comM (AM.new 3) 0 2) 64 19 0 [] := lw_zero.ch
 have c1 : ChainL (lsaM (comM (AM.new 3) 0 2) 64 19 0 [] 4096) 64 19 0 [4096] := lw_two.2.2.1.ch
 have c2 : ChainL (lsaM (lsaM (comM (AM.new 3) 0 2) 64 19 0 [] 4096) 64 19 0 [4096] 5000) 64 19 0 [4096, 5000] := lw_two.2.2.2.ch
 have d2 : ChainL (lsaM (lsaM (comM (AM.new 3) 0 2) 64 19 0 [] 4096) 64 19 0 [4096] 5000) 64 19 1 [] := lw_two.2.2.2.ch1
 have p0 : ∀ a, a ∈ ([] : List Int) → 0 < a ∧ a ≤ 4611686018427387904 := lw_zero.ps
 have p1 : ∀ a, a ∈ ([4096] : List Int) → 0 < a ∧ a ≤ 4611686018427387904 := lw_two.2.2.1.ps
 have p2 : ∀ a, a ∈ ([4096, 5000] : List Int) → 0 < a ∧ a ≤ 4611686018427387904 := lw_two.2.2.2.ps
 have w1 := lw_one (at_ := 4096) (by decide)
 have e3 : lsrE [4096, 5000] 4096 = 0 := w1.1
 have w2 : LW (lsrM (lsaM (lsaM (comM (AM.new 3) 0 2) 64 19 0 [] 4096) 64 19 0 [4096] 5000) 64 19 0 [4096, 5000] 4096) [5000] := w1.2
 have x0 : ChainL (lsrM (lsaM (lsaM (comM (AM.new 3) 0 2) 64 19 0 [] 4096) 64 19 0 [4096] 5000) 64 19 0 [4096, 5000] 4096) 64 19 0 [5000] := w2.ch
 have p3 : ∀ a, a ∈ ([5000] : List Int) → 0 < a ∧ a ≤ 4611686018427387904 := w2.ps
 have f0 : lsaE (lsrM (lsaM (lsaM (comM (AM.new 3) 0 2) 64 19 0 [] 4096) 64 19 0 [4096] 5000) 64 19 0 [4096, 5000] 4096) [5000] 0 = 2 := lsa_low (by decide)
 have x1 : ChainL (lsaM (lsrM (lsaM (lsaM (comM (AM.new 3) 0 2) 64 19 0 [] 4096) 64 19 0 [4096] 5000) 64 19 0 [4096, 5000] 4096) 64 19 0 [5000] 0) 64 19 0 [5000] := by rw [lsa_keep (by rw [f0]; decide)]; exact x0
 have f1 : lsaE (lsaM (lsrM (lsaM (lsaM (comM (AM.new 3) 0 2) 64 19 0 [] 4096) 64 19 0 [4096] 5000) 64 19 0 [4096, 5000] 4096) 64 19 0 [5000] 0) [5000] (-1) = 2 := lsa_low (by decide)
 have x2 : ChainL (lsaM (lsaM (lsrM (lsaM (lsaM (comM (AM.new 3) 0 2) 64 19 0 [] 4096) 64 19 0 [4096] 5000) 64 19 0 [4096, 5000] 4096) 64 19 0 [5000] 0) 64 19 0 [5000] (-1)) 64 19 0 [5000] := by rw [lsa_keep (by rw [f1]; decide)]; exact x1
 have f2 : lsaE (lsaM (lsaM (lsrM (lsaM (lsaM (comM (AM.new 3) 0 2) 64 19 0 [] 4096) 64 19 0 [4096] 5000) 64 19 0 [4096, 5000] 4096) 64 19 0 [5000] 0) 64 19 0 [5000] (-1)) [5000] 8177 = 3 := by rw [lsa_keep (by rw [f1]; decide), lsa_keep (by rw [f0]; decide)]; exact lw_far w2
 refine enter (args := [vi 0, vi 4096]) (D := no) (A := []) Tryd.func3 rfl 101 rfl [(1, .fn 0 64 dbT)] (WS.startL ⟨⟨rfl, hh0⟩, trivial⟩) fun ac hS => ?_
 refine hS.regS [0] [0, 1] fun _ => seg [] [(0, none)] [] trivial fun ac wd hS => ?_
 refine wp_seq ?_
 refine wp_region_seq ?_
 refine hS.call0 14 #[] 11 (law07_awake  _ (hS.mem.get 0 1 (.fn 0 64 dbT)) ) fun ac wd hS => ?_
 refine hS.opsC 1 [0] [0, 1] fun _ => seg [(12, vb false)] [(0, none)] [] trivial fun ac wd hS => ?_
 refine list_nil_seq ?_
 refine hS.condF ?_
 refine wp_skip ?_
 refine pop_then ?_
 refine wp_region_seq ?_
 refine hS.callC 15 #[vi 2] (law07_open2  _  ) ?_
 rintro _ wd ⟨b'1, F2, rfl, hN, hF⟩
 refine ⟨.tuple #[pt b'1 0, .agg #[pt b'1 0, vi 64, vi 19], vb true], rfl, ?_⟩
 replace hS := (hS.to (hS.mem.newA hN hF)).put (d := 14) (v := .tuple #[pt b'1 0, .agg #[pt b'1 0, vi 64, vi 19], vb true]) (by decide)
 clear hF
 refine hS.opsC 8 [0, 0, 0, 0, 0, 0, 100, 0] [0, 1] fun ν3 => seg [(6, pt (ν3 0) 0), (7, vb true)] [(0, none), (1, some ((ν3 0), .cells [pt b'1 0, vi 64, vi 19] 27))] [.e (ν3 0), .e (ν3 0), .e (ν3 0)] trivial fun ac wd hS => ?_
 refine list_nil_seq ?_
 refine wp_seq ?_
 refine wp_region_seq ?_
 refine hS.opsC 3 [0, 0, 0] [0, 1, 6] fun _ => seg [(20, vb false)] [(0, none), (1, none)] [] trivial fun ac wd hS => ?_
 refine hS.opsC 1 [101] [0, 1, 6, 20] fun _ => seg [(21, .agg #[pt b'1 0, vi 64, vi 19])] [(0, none), (1, none)] [.t false, .e (ν3 0), .e (ν3 0), .e (ν3 0)] trivial fun ac wd hS => ?_
 refine hS.callG false 16 #[.agg #[pt b'1 0, vi 64, vi 19], vi 0, vi 4096] (ls_Add b'1 F2 (comM (AM.new 3) 0 2) 64 19 0 4096 ([]) _ (hS.mem.res 0) (by first | assumption | omega | (simp_all; done) | (simp_all; omega)) (by first | assumption | omega | (simp_all; done) | (simp_all; omega)) (by with_reducible assumption) (by with_reducible assumption) (by first | assumption | omega | (simp_all; done) | (simp_all; omega))) ?_
 rintro _ wd ⟨F3, rfl, hA, hF⟩
 refine ⟨vi (lsaE (comM (AM.new 3) 0 2) ([]) 4096), rfl, ?_⟩
 replace hS := (hS.to (hS.mem.stepA 0 rfl hA hF)).put (d := 22) (v := vi (lsaE (comM (AM.new 3) 0 2) ([]) 4096)) (by decide)
 clear hF
 replace hS := hS.fix 22 (vi 0) (show (vi (lsaE (comM (AM.new 3) 0 2) ([]) 4096) : Value) = vi 0 from (vint (by first | with_reducible assumption | decide)))
 refine hS.opsC 3 [1, 60, 0] [0, 1, 6] fun _ => seg [(25, vb false)] [(0, none), (1, none)] [.t false, .t false] trivial fun ac wd hS => ?_
 refine hS.opsC 1 [101] [0, 1, 6, 25] fun _ => seg [(26, .agg #[pt b'1 0, vi 64, vi 19])] [(0, none), (1, none)] [.t false, .e (ν3 0), .e (ν3 0), .e (ν3 0)] trivial fun ac wd hS => ?_
 refine hS.callG false 16 #[.agg #[pt b'1 0, vi 64, vi 19], vi 0, vi 5000] (ls_Add b'1 F3 (lsaM (comM (AM.new 3) 0 2) 64 19 0 ([]) 4096) 64 19 0 5000 ([4096]) _ (hS.mem.res 0) (by first | assumption | omega | (simp_all; done) | (simp_all; omega)) (by first | assumption | omega | (simp_all; done) | (simp_all; omega)) (by with_reducible assumption) (by with_reducible assumption) (by first | assumption | omega | (simp_all; done) | (simp_all; omega))) ?_
 rintro _ wd ⟨F4, rfl, hA, hF⟩
 refine ⟨vi (lsaE (lsaM (comM (AM.new 3) 0 2) 64 19 0 ([]) 4096) ([4096]) 5000), rfl, ?_⟩
 replace hS := (hS.to (hS.mem.stepA 0 rfl hA hF)).put (d := 27) (v := vi (lsaE (lsaM (comM (AM.new 3) 0 2) 64 19 0 ([]) 4096) ([4096]) 5000)) (by decide)
 clear hF
 replace hS := hS.fix 27 (vi 0) (show (vi (lsaE (lsaM (comM (AM.new 3) 0 2) 64 19 0 ([]) 4096) ([4096]) 5000) : Value) = vi 0 from (vint (by first | with_reducible assumption | decide)))
 refine hS.opsC 2 [1, 60] [0, 1, 6] fun _ => seg [(29, vb false)] [(0, none), (1, none)] [.t false, .t false] trivial fun ac wd hS => ?_
 refine list_nil_seq ?_
 refine hS.condF ?_
 refine wp_skip ?_
 refine pop_then ?_
 refine hS.regS [0, 0, 0, 2, 2, 70, 0] [0, 1, 6] fun _ => seg [(8, vb true)] [(0, none), (1, none)] [.t true, .t true, .t true] trivial fun ac wd hS => ?_
 refine wp_seq ?_
 refine wp_region_seq ?_
 refine hS.opsC 3 [100, 0, 0] [0, 1, 6, 8] fun _ => seg [(36, .agg #[pt b'1 0, vi 64, vi 19]), (37, vi 0), (38, vi 4096)] [(0, none), (1, none)] [.e (ν3 0), .e (ν3 0), .e (ν3 0)] trivial fun ac wd hS => ?_
 refine hS.call0 17 #[.agg #[pt b'1 0, vi 64, vi 19], vi 0, vi 4096] 39 (ls_Has b'1 F4 (lsaM (lsaM (comM (AM.new 3) 0 2) 64 19 0 ([]) 4096) 64 19 0 ([4096]) 5000) 64 19 0 4096 ([4096, 5000]) _ (hS.mem.res 0) (by first | assumption | omega | (simp_all; done) | (simp_all; omega)) (by first | assumption | omega | (simp_all; done) | (simp_all; omega)) (by with_reducible assumption) (by with_reducible assumption)) fun ac wd hS => ?_
 replace hS := hS.fix 39 (vb true) (show (vb (hasL ([4096, 5000]) 4096) : Value) = vb true from (vbool (by first | with_reducible assumption | decide)))
 refine hS.opsC 6 [0, 0, 1, 1, 70, 0] [0, 1, 6, 8] fun _ => seg [(45, vb false)] [(0, none), (1, none)] [.t true, .t true, .t true] trivial fun ac wd hS => ?_
 refine list_nil_seq ?_
 refine hS.condF ?_
 refine wp_skip ?_
 refine pop_then ?_
 refine wp_seq ?_
 refine wp_region_seq ?_
 refine hS.opsC 3 [100, 0, 0] [0, 6, 8] fun _ => seg [(46, .agg #[pt b'1 0, vi 64, vi 19]), (47, vi 0), (48, vi 4096)] [(0, none), (1, none)] [.e (ν3 0), .e (ν3 0), .e (ν3 0)] trivial fun ac wd hS => ?_
 refine hS.callC 18 #[.agg #[pt b'1 0, vi 64, vi 19], vi 0, vi 4096] (ls_Remove b'1 F4 (lsaM (lsaM (comM (AM.new 3) 0 2) 64 19 0 ([]) 4096) 64 19 0 ([4096]) 5000) 64 19 0 4096 ([4096, 5000]) _ (hS.mem.res 0) (by first | assumption | omega | (simp_all; done) | (simp_all; omega)) (by first | assumption | omega | (simp_all; done) | (simp_all; omega)) (by with_reducible assumption) (by with_reducible assumption)) ?_
 rintro _ wd ⟨F5, rfl, hA, hF⟩
 refine ⟨vi (lsrE ([4096, 5000]) 4096), rfl, ?_⟩
 replace hS := (hS.to (hS.mem.stepA 0 rfl hA hF)).put (d := 49) (v := vi (lsrE ([4096, 5000]) 4096)) (by decide)
 clear hF
 replace hS := hS.fix 49 (vi 0) (show (vi (lsrE ([4096, 5000]) 4096) : Value) = vi 0 from (vint (by first | with_reducible assumption | decide)))
 refine hS.opsC 1 [0] [0, 6, 8] fun _ => seg [(9, vi 0)] [(0, none), (1, none)] [] trivial fun ac wd hS => ?_
 refine list_nil_seq ?_
 refine hS.regS [0, 0, 0, 1, 1, 60] [0, 6, 9] fun _ => seg [(55, vb false)] [(0, none), (1, none)] [.t false, .t false, .t false] trivial fun ac wd hS => ?_
 refine hS.condF ?_
 refine wp_skip ?_
 refine pop_then ?_
 refine wp_region_seq ?_
 refine hS.opsC 1 [100] [6] fun _ => seg [(77, .agg #[pt b'1 0, vi 64, vi 19])] [(0, none), (1, none)] [.e (ν3 0), .e (ν3 0), .e (ν3 0)] trivial fun ac wd hS => ?_
 refine hS.callC 20 #[.agg #[pt b'1 0, vi 64, vi 19], vi 0] (ls_All_some b'1 F5 (lsrM (lsaM (lsaM (comM (AM.new 3) 0 2) 64 19 0 ([]) 4096) 64 19 0 ([4096]) 5000) 64 19 0 ([4096, 5000]) 4096) 64 19 0 ([5000]) _ (hS.mem.res 0) (by first | assumption | omega | (simp_all; done) | (simp_all; omega)) (by first | assumption | omega | (simp_all; done) | (simp_all; omega)) (by with_reducible assumption) (by with_reducible assumption) (by decide) (by decide)) ?_
 rintro _ wd ⟨g26, c27, rfl, hog0, hoh0, hF⟩
 have ho8 : w.heap.size ≤ g26 := Nat.le_trans hS.mem.fr.size hog0
 refine ⟨sc g26 0 1 c27, rfl, ?_⟩
 replace hS := (hS.to (hS.mem.outs hF [(g26, .fn 0 1 (ints ([5000]) 0))] ⟨⟨rfl, hoh0, .inr hog0⟩, trivial⟩)).put (d := 78) (v := sc g26 0 1 c27) (by decide)
 clear hF
 refine hS.opsC 3 [0, 0, 0] [6] fun _ => seg [(81, vb true)] [(0, none), (1, none)] [] trivial fun ac wd hS => ?_
 refine hS.opsC 1 [101] [6, 81] fun _ => seg [(82, .agg #[pt b'1 0, vi 64, vi 19])] [(0, none), (1, none)] [.t true, .e (ν3 0), .e (ν3 0), .e (ν3 0)] trivial fun ac wd hS => ?_
 refine hS.callG true 16 #[.agg #[pt b'1 0, vi 64, vi 19], vi 0, vi 0] (ls_Add b'1 F5 (lsrM (lsaM (lsaM (comM (AM.new 3) 0 2) 64 19 0 ([]) 4096) 64 19 0 ([4096]) 5000) 64 19 0 ([4096, 5000]) 4096) 64 19 0 0 ([5000]) _ (hS.mem.res 0) (by first | assumption | omega | (simp_all; done) | (simp_all; omega)) (by first | assumption | omega | (simp_all; done) | (simp_all; omega)) (by with_reducible assumption) (by with_reducible assumption) (by first | assumption | omega | (simp_all; done) | (simp_all; omega))) ?_
 rintro _ wd ⟨F9, rfl, hA, hF⟩
 refine ⟨vi (lsaE (lsrM (lsaM (lsaM (comM (AM.new 3) 0 2) 64 19 0 ([]) 4096) 64 19 0 ([4096]) 5000) 64 19 0 ([4096, 5000]) 4096) ([5000]) 0), rfl, ?_⟩
 replace hS := (hS.to (hS.mem.stepA 0 rfl hA hF)).put (d := 83) (v := vi (lsaE (lsrM (lsaM (lsaM (comM (AM.new 3) 0 2) 64 19 0 ([]) 4096) 64 19 0 ([4096]) 5000) 64 19 0 ([4096, 5000]) 4096) ([5000]) 0)) (by decide)
 clear hF
 replace hS := hS.fix 83 (vi 2) (show (vi (lsaE (lsrM (lsaM (lsaM (comM (AM.new 3) 0 2) 64 19 0 ([]) 4096) 64 19 0 ([4096]) 5000) 64 19 0 ([4096, 5000]) 4096) ([5000]) 0) : Value) = vi 2 from (vint (by first | with_reducible assumption | decide)))
 refine hS.opsC 3 [1, 70, 0] [6] fun _ => seg [(86, vb true)] [(0, none), (1, none)] [.t true, .t true] trivial fun ac wd hS => ?_
 refine hS.opsC 1 [101] [6, 86] fun _ => seg [(87, .agg #[pt b'1 0, vi 64, vi 19])] [(0, none), (1, none)] [.t true, .e (ν3 0), .e (ν3 0), .e (ν3 0)] trivial fun ac wd hS => ?_
 refine hS.callG true 16 #[.agg #[pt b'1 0, vi 64, vi 19], vi 0, vi (-1)] (ls_Add b'1 F9 (lsaM (lsrM (lsaM (lsaM (comM (AM.new 3) 0 2) 64 19 0 ([]) 4096) 64 19 0 ([4096]) 5000) 64 19 0 ([4096, 5000]) 4096) 64 19 0 ([5000]) 0) 64 19 0 (-1) ([5000]) _ (hS.mem.res 0) (by first | assumption | omega | (simp_all; done) | (simp_all; omega)) (by first | assumption | omega | (simp_all; done) | (simp_all; omega)) (by with_reducible assumption) (by with_reducible assumption) (by first | assumption | omega | (simp_all; done) | (simp_all; omega))) ?_
 rintro _ wd ⟨F10, rfl, hA, hF⟩
 refine ⟨vi (lsaE (lsaM (lsrM (lsaM (lsaM (comM (AM.new 3) 0 2) 64 19 0 ([]) 4096) 64 19 0 ([4096]) 5000) 64 19 0 ([4096, 5000]) 4096) 64 19 0 ([5000]) 0) ([5000]) (-1)), rfl, ?_⟩
 replace hS := (hS.to (hS.mem.stepA 0 rfl hA hF)).put (d := 88) (v := vi (lsaE (lsaM (lsrM (lsaM (lsaM (comM (AM.new 3) 0 2) 64 19 0 ([]) 4096) 64 19 0 ([4096]) 5000) 64 19 0 ([4096, 5000]) 4096) 64 19 0 ([5000]) 0) ([5000]) (-1))) (by decide)
 clear hF
 replace hS := hS.fix 88 (vi 2) (show (vi (lsaE (lsaM (lsrM (lsaM (lsaM (comM (AM.new 3) 0 2) 64 19 0 ([]) 4096) 64 19 0 ([4096]) 5000) 64 19 0 ([4096, 5000]) 4096) 64 19 0 ([5000]) 0) ([5000]) (-1)) : Value) = vi 2 from (vint (by first | with_reducible assumption | decide)))
 refine hS.opsC 3 [1, 70, 0] [6] fun _ => seg [(91, vb true)] [(0, none), (1, none)] [.t true, .t true] trivial fun ac wd hS => ?_
 refine hS.opsC 1 [101] [6, 91] fun _ => seg [(92, .agg #[pt b'1 0, vi 64, vi 19])] [(0, none), (1, none)] [.t true, .e (ν3 0), .e (ν3 0), .e (ν3 0)] trivial fun ac wd hS => ?_
 refine hS.callG true 16 #[.agg #[pt b'1 0, vi 64, vi 19], vi 0, vi 8177] (ls_Add b'1 F10 (lsaM (lsaM (lsrM (lsaM (lsaM (comM (AM.new 3) 0 2) 64 19 0 ([]) 4096) 64 19 0 ([4096]) 5000) 64 19 0 ([4096, 5000]) 4096) 64 19 0 ([5000]) 0) 64 19 0 ([5000]) (-1)) 64 19 0 8177 ([5000]) _ (hS.mem.res 0) (by first | assumption | omega | (simp_all; done) | (simp_all; omega)) (by first | assumption | omega | (simp_all; done) | (simp_all; omega)) (by with_reducible assumption) (by with_reducible assumption) (by first | assumption | omega | (simp_all; done) | (simp_all; omega))) ?_
 rintro _ wd ⟨F11, rfl, hA, hF⟩
 refine ⟨vi (lsaE (lsaM (lsaM (lsrM (lsaM (lsaM (comM (AM.new 3) 0 2) 64 19 0 ([]) 4096) 64 19 0 ([4096]) 5000) 64 19 0 ([4096, 5000]) 4096) 64 19 0 ([5000]) 0) 64 19 0 ([5000]) (-1)) ([5000]) 8177), rfl, ?_⟩
 replace hS := (hS.to (hS.mem.stepA 0 rfl hA hF)).put (d := 93) (v := vi (lsaE (lsaM (lsaM (lsrM (lsaM (lsaM (comM (AM.new 3) 0 2) 64 19 0 ([]) 4096) 64 19 0 ([4096]) 5000) 64 19 0 ([4096, 5000]) 4096) 64 19 0 ([5000]) 0) 64 19 0 ([5000]) (-1)) ([5000]) 8177)) (by decide)
 clear hF
 replace hS := hS.fix 93 (vi 3) (show (vi (lsaE (lsaM (lsaM (lsrM (lsaM (lsaM (comM (AM.new 3) 0 2) 64 19 0 ([]) 4096) 64 19 0 ([4096]) 5000) 64 19 0 ([4096, 5000]) 4096) 64 19 0 ([5000]) 0) 64 19 0 ([5000]) (-1)) ([5000]) 8177) : Value) = vi 3 from (vint (by first | with_reducible assumption | decide)))
 refine hS.opsC 3 [1, 70, 0] [6] fun _ => seg [(96, vb true)] [(0, none), (1, none)] [.t true, .t true] trivial fun ac wd hS => ?_
 refine hS.opsC 1 [101] [96] fun _ => seg [(97, .agg #[pt b'1 0, vi 64, vi 19])] [(0, none)] [.t true, .e (ν3 0), .e (ν3 0), .e (ν3 0)] trivial fun ac wd hS => ?_
 refine hS.callG true 16 #[.agg #[pt b'1 0, vi 64, vi 19], vi 2, vi 0] (ls_Add_no b'1 F11 (lsaM (lsaM (lsaM (lsrM (lsaM (lsaM (comM (AM.new 3) 0 2) 64 19 0 ([]) 4096) 64 19 0 ([4096]) 5000) 64 19 0 ([4096, 5000]) 4096) 64 19 0 ([5000]) 0) 64 19 0 ([5000]) (-1)) 64 19 0 ([5000]) 8177) 64 19 2 0 _ (hS.mem.res 0) (by first | assumption | omega | (simp_all; done) | (simp_all; omega)) (by first | decide | (unfold lchE; rw [if_pos (by omega)]; decide))) ?_
 rintro _ wd ⟨F12, rfl, hA, hF⟩
 refine ⟨vi (lchE 19 2), rfl, ?_⟩
 replace hS := (hS.to (hS.mem.stepA 0 rfl hA hF)).put (d := 98) (v := vi (lchE 19 2)) (by decide)
 clear hF
 replace hS := hS.fix 98 (vi 3) (show (vi (lchE 19 2) : Value) = vi 3 from (vint (by first | with_reducible assumption | decide)))
 refine hS.opsC 3 [1, 70, 0] [] fun _ => seg [(4, vb true)] [(0, none)] [.t true, .t true] trivial fun ac wd hS => ?_
 refine list_nil_seq ?_
 refine wp_ret ?_
 refine St.retC 0 hS (vb true) [] trivial fun hw => ?_
 refine ⟨retd rfl, hw.fr0⟩

set_option maxRecDepth 100000 in
set_option maxHeartbeats 1000000 in
theorem law07_ListWrong_5000 (w : World) (hh0 : HE.holds w 1 (.fn 0 64 dbT)) :
    Calls Tryd.prog 3 #[vi 0, vi 5000] w fun e w' => e = .returned (vb true) ∧ Fr w w' no no := by
 have e1 : lsaE (comM (AM.new 3) 0 2) [] 4096 = 0 := lw_two.1
 have e2 : lsaE (lsaM (comM (AM.new 3) 0 2) 64 19 0 [] 4096) [4096] 5000 = 0 := lw_two.2.1
 have c0 : ChainL (comM (AM.new 3) 0 2) 64 19 0 [] := lw_zero.ch
 have c1 : ChainL (lsaM (comM (AM.new 3) 0 2) 64 19 0 [] 4096) 64 19 0 [4096] := lw_two.2.2.1.ch
 have c2 : ChainL (lsaM (lsaM (comM (AM.new 3) 0 2) 64 19 0 [] 4096) 64 19 0 [4096] 5000) 64 19 0 [4096, 5000] := lw_two.2.2.2.ch
 have d2 : ChainL (lsaM (lsaM (comM (AM.new 3) 0 2) 64 19 0 [] 4096) 64 19 0 [4096] 5000) 64 19 1 [] := lw_two.2.2.2.ch1
 have p0 : ∀ a, a ∈ ([] : List Int) → 0 < a ∧ a ≤ 4611686018427387904 := lw_zero.ps
 have p1 : ∀ a, a ∈ ([4096] : List Int) → 0 < a ∧ a ≤ 4611686018427387904 := lw_two.2.2.1.ps
 have p2 : ∀ a, a ∈ ([4096, 5000] : List Int) → 0 < a ∧ a ≤ 4611686018427387904 := lw_two.2.2.2.ps
 have w1 := lw_one (at_ := 5000) (by decide)
 have e3 : lsrE [4096, 5000] 5000 = 0 := w1.1
 have w2 : LW (lsrM (lsaM (lsaM (comM (AM.new 3) 0 2) 64 19 0 [] 4096) 64 19 0 [4096] 5000) 64 19 0 [4096, 5000] 5000) [4096] := w1.2
 have x0 : ChainL (lsrM (lsaM (lsaM (comM (AM.new 3) 0 2) 64 19 0 [] 4096) 64 19 0 [4096] 5000) 64 19 0 [4096, 5000] 5000) 64 19 0 [4096] := w2.ch
 have p3 : ∀ a, a ∈ ([4096] : List Int) → 0 < a ∧ a ≤ 4611686018427387904 := w2.ps
 have f0 : lsaE (lsrM (lsaM (lsaM (comM (AM.new 3) 0 2) 64 19 0 [] 4096) 64 19 0 [4096] 5000) 64 19 0 [4096, 5000] 5000) [4096] 0 = 2 := lsa_low (by decide)
 have x1 : ChainL (lsaM (lsrM (lsaM (lsaM (comM (AM.new 3) 0 2) 64 19 0 [] 4096) 64 19 0 [4096] 5000) 64 19 0 [4096, 5000] 5000) 64 19 0 [4096] 0) 64 19 0 [4096] := by rw [lsa_keep (by rw [f0]; decide)]; exact x0
 have f1 : lsaE (lsaM (lsrM (lsaM (lsaM (comM (AM.new 3) 0 2) 64 19 0 [] 4096) 64 19 0 [4096] 5000) 64 19 0 [4096, 5000] 5000) 64 19 0 [4096] 0) [4096] (-1) = 2 := lsa_low (by decide)
 have x2 : ChainL (lsaM (lsaM (lsrM (lsaM (lsaM (comM (AM.new 3) 0 2) 64 19 0 [] 4096) 64 19 0 [4096] 5000) 64 19 0 [4096, 5000] 5000) 64 19 0 [4096] 0) 64 19 0 [4096] (-1)) 64 19 0 [4096] := by rw [lsa_keep (by rw [f1]; decide)]; exact x1
 have f2 : lsaE (lsaM (lsaM (lsrM (lsaM (lsaM (comM (AM.new 3) 0 2) 64 19 0 [] 4096) 64 19 0 [4096] 5000) 64 19 0 [4096, 5000] 5000) 64 19 0 [4096] 0) 64 19 0 [4096] (-1)) [4096] 8177 = 3 := by rw [lsa_keep (by rw [f1]; decide), lsa_keep (by rw [f0]; decide)]; exact lw_far w2
 refine enter (args := [vi 0, vi 5000]) (D := no) (A := []) Tryd.func3 rfl 101 rfl [(1, .fn 0 64 dbT)] (WS.startL ⟨⟨rfl, hh0⟩, trivial⟩) fun ac hS => ?_
 refine hS.regS [0] [0, 1] fun _ => seg [] [(0, none)] [] trivial fun ac wd hS => ?_
 refine wp_seq ?_
 refine wp_region_seq ?_
 refine hS.call0 14 #[] 11 (law07_awake  _ (hS.mem.get 0 1 (.fn 0 64 dbT)) ) fun ac wd hS => ?_
 refine hS.opsC 1 [0] [0, 1] fun _ => seg [(12, vb false)] [(0, none)] [] trivial fun ac wd hS => ?_
 refine list_nil_seq ?_
 refine hS.condF ?_
 refine wp_skip ?_
 refine pop_then ?_
 refine wp_region_seq ?_
 refine hS.callC 15 #[vi 2] (law07_open2  _  ) ?_
 rintro _ wd ⟨b'1, F2, rfl, hN, hF⟩
 refine ⟨.tuple #[pt b'1 0, .agg #[pt b'1 0, vi 64, vi 19], vb true], rfl, ?_⟩
 replace hS := (hS.to (hS.mem.newA hN hF)).put (d := 14) (v := .tuple #[pt b'1 0, .agg #[pt b'1 0, vi 64, vi 19], vb true]) (by decide)
 clear hF
 refine hS.opsC 8 [0, 0, 0, 0, 0, 0, 100, 0] [0, 1] fun ν3 => seg [(6, pt (ν3 0) 0), (7, vb true)] [(0, none), (1, some ((ν3 0), .cells [pt b'1 0, vi 64, vi 19] 27))] [.e (ν3 0), .e (ν3 0), .e (ν3 0)] trivial fun ac wd hS => ?_
 refine list_nil_seq ?_
 refine wp_seq ?_
 refine wp_region_seq ?_
 refine hS.opsC 3 [0, 0, 0] [0, 1, 6] fun _ => seg [(20, vb false)] [(0, none), (1, none)] [] trivial fun ac wd hS => ?_
 refine hS.opsC 1 [101] [0, 1, 6, 20] fun _ => seg [(21, .agg #[pt b'1 0, vi 64, vi 19])] [(0, none), (1, none)] [.t false, .e (ν3 0), .e (ν3 0), .e (ν3 0)] trivial fun ac wd hS => ?_
 refine hS.callG false 16 #[.agg #[pt b'1 0, vi 64, vi 19], vi 0, vi 4096] (ls_Add b'1 F2 (comM (AM.new 3) 0 2) 64 19 0 4096 ([]) _ (hS.mem.res 0) (by first | assumption | omega | (simp_all; done) | (simp_all; omega)) (by first | assumption | omega | (simp_all; done) | (simp_all; omega)) (by with_reducible assumption) (by with_reducible assumption) (by first | assumption | omega | (simp_all; done) | (simp_all; omega))) ?_
 rintro _ wd ⟨F3, rfl, hA, hF⟩
 refine ⟨vi (lsaE (comM (AM.new 3) 0 2) ([]) 4096), rfl, ?_⟩
 replace hS := (hS.to (hS.mem.stepA 0 rfl hA hF)).put (d := 22) (v := vi (lsaE (comM (AM.new 3) 0 2) ([]) 4096)) (by decide)
 clear hF
 replace hS := hS.fix 22 (vi 0) (show (vi (lsaE (comM (AM.new 3) 0 2) ([]) 4096) : Value) = vi 0 from (vint (by first | with_reducible assumption | decide)))
 refine hS.opsC 3 [1, 60, 0] [0, 1, 6] fun _ => seg [(25, vb false)] [(0, none), (1, none)] [.t false, .t false] trivial fun ac wd hS => ?_
 refine hS.opsC 1 [101] [0, 1, 6, 25] fun _ => seg [(26, .agg #[pt b'1 0, vi 64, vi 19])] [(0, none), (1, none)] [.t false, .e (ν3 0), .e (ν3 0), .e (ν3 0)] trivial fun ac wd hS => ?_
 refine hS.callG false 16 #[.agg #[pt b'1 0, vi 64, vi 19], vi 0, vi 5000] (ls_Add b'1 F3 (lsaM (comM (AM.new 3) 0 2) 64 19 0 ([]) 4096) 64 19 0 5000 ([4096]) _ (hS.mem.res 0) (by first | assumption | omega | (simp_all; done) | (simp_all; omega)) (by first | assumption | omega | (simp_all; done) | (simp_all; omega)) (by with_reducible assumption) (by with_reducible assumption) (by first | assumption | omega | (simp_all; done) | (simp_all; omega))) ?_
 rintro _ wd ⟨F4, rfl, hA, hF⟩
 refine ⟨vi (lsaE (lsaM (comM (AM.new 3) 0 2) 64 19 0 ([]) 4096) ([4096]) 5000), rfl, ?_⟩
 replace hS := (hS.to (hS.mem.stepA 0 rfl hA hF)).put (d := 27) (v := vi (lsaE (lsaM (comM (AM.new 3) 0 2) 64 19 0 ([]) 4096) ([4096]) 5000)) (by decide)
 clear hF
 replace hS := hS.fix 27 (vi 0) (show (vi (lsaE (lsaM (comM (AM.new 3) 0 2) 64 19 0 ([]) 4096) ([4096]) 5000) : Value) = vi 0 from (vint (by first | with_reducible assumption | decide)))
 refine hS.opsC 2 [1, 60] [0, 1, 6] fun _ => seg [(29, vb false)] [(0, none), (1, none)] [.t false, .t false] trivial fun ac wd hS => ?_
 refine list_nil_seq ?_
 refine hS.condF ?_
 refine wp_skip ?_
 refine pop_then ?_
 refine hS.regS [0, 0, 0, 1, 1, 60, 0] [0, 1, 6] fun _ => seg [(8, vb true)] [(0, none), (1, none)] [.t false, .t false, .t false] trivial fun ac wd hS => ?_
 refine wp_seq ?_
 refine wp_region_seq ?_
 refine hS.opsC 3 [100, 0, 0] [0, 1, 6, 8] fun _ => seg [(36, .agg #[pt b'1 0, vi 64, vi 19]), (37, vi 0), (38, vi 5000)] [(0, none), (1, none)] [.e (ν3 0), .e (ν3 0), .e (ν3 0)] trivial fun ac wd hS => ?_
 refine hS.call0 17 #[.agg #[pt b'1 0, vi 64, vi 19], vi 0, vi 5000] 39 (ls_Has b'1 F4 (lsaM (lsaM (comM (AM.new 3) 0 2) 64 19 0 ([]) 4096) 64 19 0 ([4096]) 5000) 64 19 0 5000 ([4096, 5000]) _ (hS.mem.res 0) (by first | assumption | omega | (simp_all; done) | (simp_all; omega)) (by first | assumption | omega | (simp_all; done) | (simp_all; omega)) (by with_reducible assumption) (by with_reducible assumption)) fun ac wd hS => ?_
 replace hS := hS.fix 39 (vb true) (show (vb (hasL ([4096, 5000]) 5000) : Value) = vb true from (vbool (by first | with_reducible assumption | decide)))
 refine hS.opsC 6 [0, 0, 1, 1, 70, 0] [0, 1, 6, 8] fun _ => seg [(45, vb false)] [(0, none), (1, none)] [.t true, .t true, .t true] trivial fun ac wd hS => ?_
 refine list_nil_seq ?_
 refine hS.condF ?_
 refine wp_skip ?_
 refine pop_then ?_
 refine wp_seq ?_
 refine wp_region_seq ?_
 refine hS.opsC 3 [100, 0, 0] [0, 6, 8] fun _ => seg [(46, .agg #[pt b'1 0, vi 64, vi 19]), (47, vi 0), (48, vi 5000)] [(0, none), (1, none)] [.e (ν3 0), .e (ν3 0), .e (ν3 0)] trivial fun ac wd hS => ?_
 refine hS.callC 18 #[.agg #[pt b'1 0, vi 64, vi 19], vi 0, vi 5000] (ls_Remove b'1 F4 (lsaM (lsaM (comM (AM.new 3) 0 2) 64 19 0 ([]) 4096) 64 19 0 ([4096]) 5000) 64 19 0 5000 ([4096, 5000]) _ (hS.mem.res 0) (by first | assumption | omega | (simp_all; done) | (simp_all; omega)) (by first | assumption | omega | (simp_all; done) | (simp_all; omega)) (by with_reducible assumption) (by with_reducible assumption)) ?_
 rintro _ wd ⟨F5, rfl, hA, hF⟩
 refine ⟨vi (lsrE ([4096, 5000]) 5000), rfl, ?_⟩
 replace hS := (hS.to (hS.mem.stepA 0 rfl hA hF)).put (d := 49) (v := vi (lsrE ([4096, 5000]) 5000)) (by decide)
 clear hF
 replace hS := hS.fix 49 (vi 0) (show (vi (lsrE ([4096, 5000]) 5000) : Value) = vi 0 from (vint (by first | with_reducible assumption | decide)))
 refine hS.opsC 1 [0] [0, 6, 8] fun _ => seg [(9, vi 0)] [(0, none), (1, none)] [] trivial fun ac wd hS => ?_
 refine list_nil_seq ?_
 refine hS.regS [0, 0, 0, 1, 1, 60] [0, 6, 9] fun _ => seg [(55, vb false)] [(0, none), (1, none)] [.t false, .t false, .t false] trivial fun ac wd hS => ?_
 refine hS.condF ?_
 refine wp_skip ?_
 refine pop_then ?_
 refine wp_region_seq ?_
 refine hS.opsC 1 [100] [6] fun _ => seg [(77, .agg #[pt b'1 0, vi 64, vi 19])] [(0, none), (1, none)] [.e (ν3 0), .e (ν3 0), .e (ν3 0)] trivial fun ac wd hS => ?_
 refine hS.callC 20 #[.agg #[pt b'1 0, vi 64, vi 19], vi 0] (ls_All_some b'1 F5 (lsrM (lsaM (lsaM (comM (AM.new 3) 0 2) 64 19 0 ([]) 4096) 64 19 0 ([4096]) 5000) 64 19 0 ([4096, 5000]) 5000) 64 19 0 ([4096]) _ (hS.mem.res 0) (by first | assumption | omega | (simp_all; done) | (simp_all; omega)) (by first | assumption | omega | (simp_all; done) | (simp_all; omega)) (by with_reducible assumption) (by with_reducible assumption) (by decide) (by decide)) ?_
 rintro _ wd ⟨g26, c27, rfl, hog0, hoh0, hF⟩
 have ho8 : w.heap.size ≤ g26 := Nat.le_trans hS.mem.fr.size hog0
 refine ⟨sc g26 0 1 c27, rfl, ?_⟩
 replace hS := (hS.to (hS.mem.outs hF [(g26, .fn 0 1 (ints ([4096]) 0))] ⟨⟨rfl, hoh0, .inr hog0⟩, trivial⟩)).put (d := 78) (v := sc g26 0 1 c27) (by decide)
 clear hF
 refine hS.opsC 3 [0, 0, 0] [6] fun _ => seg [(81, vb true)] [(0, none), (1, none)] [] trivial fun ac wd hS => ?_
 refine hS.opsC 1 [101] [6, 81] fun _ => seg [(82, .agg #[pt b'1 0, vi 64, vi 19])] [(0, none), (1, none)] [.t true, .e (ν3 0), .e (ν3 0), .e (ν3 0)] trivial fun ac wd hS => ?_
 refine hS.callG true 16 #[.agg #[pt b'1 0, vi 64, vi 19], vi 0, vi 0] (ls_Add b'1 F5 (lsrM (lsaM (lsaM (comM (AM.new 3) 0 2) 64 19 0 ([]) 4096) 64 19 0 ([4096]) 5000) 64 19 0 ([4096, 5000]) 5000) 64 19 0 0 ([4096]) _ (hS.mem.res 0) (by first | assumption | omega | (simp_all; done) | (simp_all; omega)) (by first | assumption | omega | (simp_all; done) | (simp_all; omega)) (by with_reducible assumption) (by with_reducible assumption) (by first | assumption | omega | (simp_all; done) | (simp_all; omega))) ?_
 rintro _ wd ⟨F9, rfl, hA, hF⟩
 refine ⟨vi (lsaE (lsrM (lsaM (lsaM (comM (AM.new 3) 0 2) 64 19 0 ([]) 4096) 64 19 0 ([4096]) 5000) 64 19 0 ([4096, 5000]) 5000) ([4096]) 0), rfl, ?_⟩
 replace hS := (hS.to (hS.mem.stepA 0 rfl hA hF)).put (d := 83) (v := vi (lsaE (lsrM (lsaM (lsaM (comM (AM.new 3) 0 2) 64 19 0 ([]) 4096) 64 19 0 ([4096]) 5000) 64 19 0 ([4096, 5000]) 5000) ([4096]) 0)) (by decide)
 clear hF
 replace hS := hS.fix 83 (vi 2) (show (vi (lsaE (lsrM (lsaM (lsaM (comM (AM.new 3) 0 2) 64 19 0 ([]) 4096) 64 19 0 ([4096]) 5000) 64 19 0 ([4096, 5000]) 5000) ([4096]) 0) : Value) = vi 2 from (vint (by first | with_reducible assumption | decide)))
 refine hS.opsC 3 [1, 70, 0] [6] fun _ => seg [(86, vb true)] [(0, none), (1, none)] [.t true, .t true] trivial fun ac wd hS => ?_
 refine hS.opsC 1 [101] [6, 86] fun _ => seg [(87, .agg #[pt b'1 0, vi 64, vi 19])] [(0, none), (1, none)] [.t true, .e (ν3 0), .e (ν3 0), .e (ν3 0)] trivial fun ac wd hS => ?_
 refine hS.callG true 16 #[.agg #[pt b'1 0, vi 64, vi 19], vi 0, vi (-1)] (ls_Add b'1 F9 (lsaM (lsrM (lsaM (lsaM (comM (AM.new 3) 0 2) 64 19 0 ([]) 4096) 64 19 0 ([4096]) 5000) 64 19 0 ([4096, 5000]) 5000) 64 19 0 ([4096]) 0) 64 19 0 (-1) ([4096]) _ (hS.mem.res 0) (by first | assumption | omega | (simp_all; done) | (simp_all; omega)) (by first | assumption | omega | (simp_all; done) | (simp_all; omega)) (by with_reducible assumption) (by with_reducible assumption) (by first | assumption | omega | (simp_all; done) | (simp_all; omega))) ?_
 rintro _ wd ⟨F10, rfl, hA, hF⟩
 refine ⟨vi (lsaE (lsaM (lsrM (lsaM (lsaM (comM (AM.new 3) 0 2) 64 19 0 ([]) 4096) 64 19 0 ([4096]) 5000) 64 19 0 ([4096, 5000]) 5000) 64 19 0 ([4096]) 0) ([4096]) (-1)), rfl, ?_⟩
 replace hS := (hS.to (hS.mem.stepA 0 rfl hA hF)).put (d := 88) (v := vi (lsaE (lsaM (lsrM (lsaM (lsaM (comM (AM.new 3) 0 2) 64 19 0 ([]) 4096) 64 19 0 ([4096]) 5000) 64 19 0 ([4096, 5000]) 5000) 64 19 0 ([4096]) 0) ([4096]) (-1))) (by decide)
 clear hF
 replace hS := hS.fix 88 (vi 2) (show (vi (lsaE (lsaM (lsrM (lsaM (lsaM (comM (AM.new 3) 0 2) 64 19 0 ([]) 4096) 64 19 0 ([4096]) 5000) 64 19 0 ([4096, 5000]) 5000) 64 19 0 ([4096]) 0) ([4096]) (-1)) : Value) = vi 2 from (vint (by first | with_reducible assumption | decide)))
 refine hS.opsC 3 [1, 70, 0] [6] fun _ => seg [(91, vb true)] [(0, none), (1, none)] [.t true, .t true] trivial fun ac wd hS => ?_
 refine hS.opsC 1 [101] [6, 91] fun _ => seg [(92, .agg #[pt b'1 0, vi 64, vi 19])] [(0, none), (1, none)] [.t true, .e (ν3 0), .e (ν3 0), .e (ν3 0)] trivial fun ac wd hS => ?_
 refine hS.callG true 16 #[.agg #[pt b'1 0, vi 64, vi 19], vi 0, vi 8177] (ls_Add b'1 F10 (lsaM (lsaM (lsrM (lsaM (lsaM (comM (AM.new 3) 0 2) 64 19 0 ([]) 4096) 64 19 0 ([4096]) 5000) 64 19 0 ([4096, 5000]) 5000) 64 19 0 ([4096]) 0) 64 19 0 ([4096]) (-1)) 64 19 0 8177 ([4096]) _ (hS.mem.res 0) (by first | assumption | omega | (simp_all; done) | (simp_all; omega)) (by first | assumption | omega | (simp_all; done) | (simp_all; omega)) (by with_reducible assumption) (by with_reducible assumption) (by first | assumption | omega | (simp_all; done) | (simp_all; omega))) ?_
 rintro _ wd ⟨F11, rfl, hA, hF⟩
 refine ⟨vi (lsaE (lsaM (lsaM (lsrM (lsaM (lsaM (comM (AM.new 3) 0 2) 64 19 0 ([]) 4096) 64 19 0 ([4096]) 5000) 64 19 0 ([4096, 5000]) 5000) 64 19 0 ([4096]) 0) 64 19 0 ([4096]) (-1)) ([4096]) 8177), rfl, ?_⟩
 replace hS := (hS.to (hS.mem.stepA 0 rfl hA hF)).put (d := 93) (v := vi (lsaE (lsaM (lsaM (lsrM (lsaM (lsaM (comM (AM.new 3) 0 2) 64 19 0 ([]) 4096) 64 19 0 ([4096]) 5000) 64 19 0 ([4096, 5000]) 5000) 64 19 0 ([4096]) 0) 64 19 0 ([4096]) (-1)) ([4096]) 8177)) (by decide)
 clear hF
 replace hS := hS.fix 93 (vi 3) (show (vi (lsaE (lsaM (lsaM (lsrM (lsaM (lsaM (comM (AM.new 3) 0 2) 64 19 0 ([]) 4096) 64 19 0 ([4096]) 5000) 64 19 0 ([4096, 5000]) 5000) 64 19 0 ([4096]) 0) 64 19 0 ([4096]) (-1)) ([4096]) 8177) : Value) = vi 3 from (vint (by first | with_reducible assumption | decide)))
 refine hS.opsC 3 [1, 70, 0] [6] fun _ => seg [(96, vb true)] [(0, none), (1, none)] [.t true, .t true] trivial fun ac wd hS => ?_
 refine hS.opsC 1 [101] [96] fun _ => seg [(97, .agg #[pt b'1 0, vi 64, vi 19])] [(0, none)] [.t true, .e (ν3 0), .e (ν3 0), .e (ν3 0)] trivial fun ac wd hS => ?_
 refine hS.callG true 16 #[.agg #[pt b'1 0, vi 64, vi 19], vi 2, vi 0] (ls_Add_no b'1 F11 (lsaM (lsaM (lsaM (lsrM (lsaM (lsaM (comM (AM.new 3) 0 2) 64 19 0 ([]) 4096) 64 19 0 ([4096]) 5000) 64 19 0 ([4096, 5000]) 5000) 64 19 0 ([4096]) 0) 64 19 0 ([4096]) (-1)) 64 19 0 ([4096]) 8177) 64 19 2 0 _ (hS.mem.res 0) (by first | assumption | omega | (simp_all; done) | (simp_all; omega)) (by first | decide | (unfold lchE; rw [if_pos (by omega)]; decide))) ?_
 rintro _ wd ⟨F12, rfl, hA, hF⟩
 refine ⟨vi (lchE 19 2), rfl, ?_⟩
 replace hS := (hS.to (hS.mem.stepA 0 rfl hA hF)).put (d := 98) (v := vi (lchE 19 2)) (by decide)
 clear hF
 replace hS := hS.fix 98 (vi 3) (show (vi (lchE 19 2) : Value) = vi 3 from (vint (by first | with_reducible assumption | decide)))
 refine hS.opsC 3 [1, 70, 0] [] fun _ => seg [(4, vb true)] [(0, none)] [.t true, .t true] trivial fun ac wd hS => ?_
 refine list_nil_seq ?_
 refine wp_ret ?_
 refine St.retC 0 hS (vb true) [] trivial fun hw => ?_
 refine ⟨retd rfl, hw.fr0⟩

set_option maxRecDepth 100000 in
set_option maxHeartbeats 1000000 in
theorem law07_ListWrong_o (at_ : Int) (w : World) (hh0 : HE.holds w 1 (.fn 0 64 dbT)) (hat : at_ ≠ 4096 ∧ at_ ≠ 5000) :
    Calls Tryd.prog 3 #[vi 0, vi at_] w fun e w' => e = .returned (vb true) ∧ Fr w w' no no := by
 have e1 : lsaE (comM (AM.new 3) 0 2) [] 4096 = 0 := lw_two.1
 have e2 : lsaE (lsaM (comM (AM.new 3) 0 2) 64 19 0 [] 4096) [4096] 5000 = 0 := lw_two.2.1
 have c0 : ChainL (comM (AM.new 3) 0 2) 64 19 0 [] := lw_zero.ch
 have c1 : ChainL (lsaM (comM (AM.new 3) 0 2) 64 19 0 [] 4096) 64 19 0 [4096] := lw_two.2.2.1.ch
 have c2 : ChainL (lsaM (lsaM (comM (AM.new 3) 0 2) 64 19 0 [] 4096) 64 19 0 [4096] 5000) 64 19 0 [4096, 5000] := lw_two.2.2.2.ch
 have d2 : ChainL (lsaM (lsaM (comM (AM.new 3) 0 2) 64 19 0 [] 4096) 64 19 0 [4096] 5000) 64 19 1 [] := lw_two.2.2.2.ch1
 have p0 : ∀ a, a ∈ ([] : List Int) → 0 < a ∧ a ≤ 4611686018427387904 := lw_zero.ps
 have p1 : ∀ a, a ∈ ([4096] : List Int) → 0 < a ∧ a ≤ 4611686018427387904 := lw_two.2.2.1.ps
 have p2 : ∀ a, a ∈ ([4096, 5000] : List Int) → 0 < a ∧ a ≤ 4611686018427387904 := lw_two.2.2.2.ps
 have e3 : lsrE [4096, 5000] at_ = 8 := lsr_two hat
 have h3 : hasL [4096, 5000] at_ = false := by rw [has_two, beq_false_of_ne hat.1, beq_false_of_ne hat.2]; rfl
 have c3 : ChainL (lsrM (lsaM (lsaM (comM (AM.new 3) 0 2) 64 19 0 [] 4096) 64 19 0 [4096] 5000) 64 19 0 [4096, 5000] at_) 64 19 0 [4096, 5000] := by rw [lsr_keep (by rw [e3]; decide)]; exact c2
 have d3 : ChainL (lsrM (lsaM (lsaM (comM (AM.new 3) 0 2) 64 19 0 [] 4096) 64 19 0 [4096] 5000) 64 19 0 [4096, 5000] at_) 64 19 1 [] := by rw [lsr_keep (by rw [e3]; decide)]; exact d2
 refine enter (args := [vi 0, vi at_]) (D := no) (A := []) Tryd.func3 rfl 101 rfl [(1, .fn 0 64 dbT)] (WS.startL ⟨⟨rfl, hh0⟩, trivial⟩) fun ac hS => ?_
 refine hS.regS [0] [0, 1] fun _ => seg [] [(0, none)] [] trivial fun ac wd hS => ?_
 refine wp_seq ?_
 refine wp_region_seq ?_
 refine hS.call0 14 #[] 11 (law07_awake  _ (hS.mem.get 0 1 (.fn 0 64 dbT)) ) fun ac wd hS => ?_
 refine hS.opsC 1 [0] [0, 1] fun _ => seg [(12, vb false)] [(0, none)] [] trivial fun ac wd hS => ?_
 refine list_nil_seq ?_
 refine hS.condF ?_
 refine wp_skip ?_
 refine pop_then ?_
 refine wp_region_seq ?_
 refine hS.callC 15 #[vi 2] (law07_open2  _  ) ?_
 rintro _ wd ⟨b'1, F2, rfl, hN, hF⟩
 refine ⟨.tuple #[pt b'1 0, .agg #[pt b'1 0, vi 64, vi 19], vb true], rfl, ?_⟩
 replace hS := (hS.to (hS.mem.newA hN hF)).put (d := 14) (v := .tuple #[pt b'1 0, .agg #[pt b'1 0, vi 64, vi 19], vb true]) (by decide)
 clear hF
 refine hS.opsC 8 [0, 0, 0, 0, 0, 0, 100, 0] [0, 1] fun ν3 => seg [(6, pt (ν3 0) 0), (7, vb true)] [(0, none), (1, some ((ν3 0), .cells [pt b'1 0, vi 64, vi 19] 27))] [.e (ν3 0), .e (ν3 0), .e (ν3 0)] trivial fun ac wd hS => ?_
 refine list_nil_seq ?_
 refine wp_seq ?_
 refine wp_region_seq ?_
 refine hS.opsC 3 [0, 0, 0] [0, 1, 6] fun _ => seg [(20, vb false)] [(0, none), (1, none)] [] trivial fun ac wd hS => ?_
 refine hS.opsC 1 [101] [0, 1, 6, 20] fun _ => seg [(21, .agg #[pt b'1 0, vi 64, vi 19])] [(0, none), (1, none)] [.t false, .e (ν3 0), .e (ν3 0), .e (ν3 0)] trivial fun ac wd hS => ?_
 refine hS.callG false 16 #[.agg #[pt b'1 0, vi 64, vi 19], vi 0, vi 4096] (ls_Add b'1 F2 (comM (AM.new 3) 0 2) 64 19 0 4096 ([]) _ (hS.mem.res 0) (by first | assumption | omega | (simp_all; done) | (simp_all; omega)) (by first | assumption | omega | (simp_all; done) | (simp_all; omega)) (by with_reducible assumption) (by with_reducible assumption) (by first | assumption | omega | (simp_all; done) | (simp_all; omega))) ?_
 rintro _ wd ⟨F3, rfl, hA, hF⟩
 refine ⟨vi (lsaE (comM (AM.new 3) 0 2) ([]) 4096), rfl, ?_⟩
 replace hS := (hS.to (hS.mem.stepA 0 rfl hA hF)).put (d := 22) (v := vi (lsaE (comM (AM.new 3) 0 2) ([]) 4096)) (by decide)
 clear hF
 replace hS := hS.fix 22 (vi 0) (show (vi (lsaE (comM (AM.new 3) 0 2) ([]) 4096) : Value) = vi 0 from (vint (by first | with_reducible assumption | decide)))
 refine hS.opsC 3 [1, 60, 0] [0, 1, 6] fun _ => seg [(25, vb false)] [(0, none), (1, none)] [.t false, .t false] trivial fun ac wd hS => ?_
 refine hS.opsC 1 [101] [0, 1, 6, 25] fun _ => seg [(26, .agg #[pt b'1 0, vi 64, vi 19])] [(0, none), (1, none)] [.t false, .e (ν3 0), .e (ν3 0), .e (ν3 0)] trivial fun ac wd hS => ?_
 refine hS.callG false 16 #[.agg #[pt b'1 0, vi 64, vi 19], vi 0, vi 5000] (ls_Add b'1 F3 (lsaM (comM (AM.new 3) 0 2) 64 19 0 ([]) 4096) 64 19 0 5000 ([4096]) _ (hS.mem.res 0) (by first | assumption | omega | (simp_all; done) | (simp_all; omega)) (by first | assumption | omega | (simp_all; done) | (simp_all; omega)) (by with_reducible assumption) (by with_reducible assumption) (by first | assumption | omega | (simp_all; done) | (simp_all; omega))) ?_
 rintro _ wd ⟨F4, rfl, hA, hF⟩
 refine ⟨vi (lsaE (lsaM (comM (AM.new 3) 0 2) 64 19 0 ([]) 4096) ([4096]) 5000), rfl, ?_⟩
 replace hS := (hS.to (hS.mem.stepA 0 rfl hA hF)).put (d := 27) (v := vi (lsaE (lsaM (comM (AM.new 3) 0 2) 64 19 0 ([]) 4096) ([4096]) 5000)) (by decide)
 clear hF
 replace hS := hS.fix 27 (vi 0) (show (vi (lsaE (lsaM (comM (AM.new 3) 0 2) 64 19 0 ([]) 4096) ([4096]) 5000) : Value) = vi 0 from (vint (by first | with_reducible assumption | decide)))
 refine hS.opsC 2 [1, 60] [0, 1, 6] fun _ => seg [(29, vb false)] [(0, none), (1, none)] [.t false, .t false] trivial fun ac wd hS => ?_
 refine list_nil_seq ?_
 refine hS.condF ?_
 refine wp_skip ?_
 refine pop_then ?_
 refine hS.regS [0, fx 0 (vb false), 0, 1, fx 1 (vb false), 60, 0] [0, 1, 6] fun _ => seg [(8, vb false)] [(0, none), (1, none)] [.t false, .t false, .p ((vb ((at_ : Int) == 5000) : Value) = vb false), .t false, .p ((vb ((at_ : Int) == 4096) : Value) = vb false)] ⟨(congrArg Value.bool (by exact beq_false_of_ne hat.2)), (congrArg Value.bool (by exact beq_false_of_ne hat.1)), trivial⟩ fun ac wd hS => ?_
 refine wp_seq ?_
 refine wp_region_seq ?_
 refine hS.opsC 3 [100, 0, 0] [0, 1, 6, 8] fun _ => seg [(36, .agg #[pt b'1 0, vi 64, vi 19]), (37, vi 0), (38, vi at_)] [(0, none), (1, none)] [.e (ν3 0), .e (ν3 0), .e (ν3 0)] trivial fun ac wd hS => ?_
 refine hS.call0 17 #[.agg #[pt b'1 0, vi 64, vi 19], vi 0, vi at_] 39 (ls_Has b'1 F4 (lsaM (lsaM (comM (AM.new 3) 0 2) 64 19 0 ([]) 4096) 64 19 0 ([4096]) 5000) 64 19 0 at_ ([4096, 5000]) _ (hS.mem.res 0) (by first | assumption | omega | (simp_all; done) | (simp_all; omega)) (by first | assumption | omega | (simp_all; done) | (simp_all; omega)) (by with_reducible assumption) (by with_reducible assumption)) fun ac wd hS => ?_
 replace hS := hS.fix 39 (vb false) (show (vb (hasL ([4096, 5000]) at_) : Value) = vb false from (vbool (by first | with_reducible assumption | decide)))
 refine hS.opsC 6 [0, 0, 2, 2, 60, 0] [0, 1, 6, 8] fun _ => seg [(45, vb false)] [(0, none), (1, none)] [.t false, .t false, .t false] trivial fun ac wd hS => ?_
 refine list_nil_seq ?_
 refine hS.condF ?_
 refine wp_skip ?_
 refine pop_then ?_
 refine wp_seq ?_
 refine wp_region_seq ?_
 refine hS.opsC 3 [100, 0, 0] [0, 6, 8] fun _ => seg [(46, .agg #[pt b'1 0, vi 64, vi 19]), (47, vi 0), (48, vi at_)] [(0, none), (1, none)] [.e (ν3 0), .e (ν3 0), .e (ν3 0)] trivial fun ac wd hS => ?_
 refine hS.callC 18 #[.agg #[pt b'1 0, vi 64, vi 19], vi 0, vi at_] (ls_Remove b'1 F4 (lsaM (lsaM (comM (AM.new 3) 0 2) 64 19 0 ([]) 4096) 64 19 0 ([4096]) 5000) 64 19 0 at_ ([4096, 5000]) _ (hS.mem.res 0) (by first | assumption | omega | (simp_all; done) | (simp_all; omega)) (by first | assumption | omega | (simp_all; done) | (simp_all; omega)) (by with_reducible assumption) (by with_reducible assumption)) ?_
 rintro _ wd ⟨F5, rfl, hA, hF⟩
 refine ⟨vi (lsrE ([4096, 5000]) at_), rfl, ?_⟩
 replace hS := (hS.to (hS.mem.stepA 0 rfl hA hF)).put (d := 49) (v := vi (lsrE ([4096, 5000]) at_)) (by decide)
 clear hF
 replace hS := hS.fix 49 (vi 8) (show (vi (lsrE ([4096, 5000]) at_) : Value) = vi 8 from (vint (by first | with_reducible assumption | decide)))
 refine hS.opsC 1 [0] [0, 6, 8] fun _ => seg [(9, vi 8)] [(0, none), (1, none)] [] trivial fun ac wd hS => ?_
 refine list_nil_seq ?_
 refine hS.regS [0, 0, 0, 2, 2, 70] [0, 6, 9] fun _ => seg [(55, vb true)] [(0, none), (1, none)] [.t true, .t true, .t true] trivial fun ac wd hS => ?_
 refine hS.condT ?_
 refine hS.regS [0] [0, 6, 9] fun _ => seg [(10, vi 8)] [(0, none), (1, none)] [] trivial fun ac wd hS => ?_
 refine wp_seq ?_
 refine hS.regS [0, 0, 0, 1, 1, 60] [6, 9, 10] fun _ => seg [(61, vb false)] [(0, none), (1, none)] [.t false, .t false, .t false] trivial fun ac wd hS => ?_
 refine hS.condF ?_
 refine wp_skip ?_
 refine pop_then ?_
 refine wp_region_seq ?_
 refine hS.opsC 4 [0, 0, 0, 0] [6] fun _ => seg [(65, vb true)] [(0, none), (1, none)] [] trivial fun ac wd hS => ?_
 refine hS.opsC 1 [101] [6, 65] fun _ => seg [(66, .agg #[pt b'1 0, vi 64, vi 19])] [(0, none), (1, none)] [.t true, .e (ν3 0), .e (ν3 0), .e (ν3 0)] trivial fun ac wd hS => ?_
 refine hS.callG true 20 #[.agg #[pt b'1 0, vi 64, vi 19], vi 0] (ls_All_some b'1 F5 (lsrM (lsaM (lsaM (comM (AM.new 3) 0 2) 64 19 0 ([]) 4096) 64 19 0 ([4096]) 5000) 64 19 0 ([4096, 5000]) at_) 64 19 0 ([4096, 5000]) _ (hS.mem.res 0) (by first | assumption | omega | (simp_all; done) | (simp_all; omega)) (by first | assumption | omega | (simp_all; done) | (simp_all; omega)) (by with_reducible assumption) (by with_reducible assumption) (by decide) (by decide)) ?_
 rintro _ wd ⟨g26, c27, rfl, hog0, hoh0, hF⟩
 have ho8 : w.heap.size ≤ g26 := Nat.le_trans hS.mem.fr.size hog0
 refine ⟨sc g26 0 (([4096, 5000]).length) c27, rfl, ?_⟩
 replace hS := (hS.to (hS.mem.outs hF [(g26, .fn 0 (0 + ([4096, 5000]).length) (ints ([4096, 5000]) 0))] ⟨⟨rfl, hoh0, .inr hog0⟩, trivial⟩)).put (d := 67) (v := sc g26 0 (([4096, 5000]).length) c27) (by decide)
 clear hF
 refine hS.opsC 1 [1] [6, 65, 67] fun ν19 => seg [(68, sc (ν19 0) 0 2 2)] [(0, none), (1, none), (2, none), (3, some ((ν19 0), .cells [vi 4096, vi 5000] 3))] [.t true] trivial fun ac wd hS => ?_
 refine hS.callG true 19 #[sc g26 0 (([4096, 5000]).length) c27, sc (ν19 0) 0 2 2] (slices_EqualI g26 0 c27 ([4096, 5000]) (ν19 0) 0 2 ([4096, 5000]) _ (hS.mem.get 2 g26 (.fn 0 (0 + ([4096, 5000]).length) (ints ([4096, 5000]) 0))) (HE.of_cells (hS.mem.get 3 (ν19 0) (.cells [vi 4096, vi 5000] 3)) (fun o_ ho => by have ho : o_ < 2 := ho; rcases (by omega : o_ = 0 ∨ o_ = 1) with rfl | rfl <;> rfl)) (by decide)) ?_
 rintro _ wd ⟨rfl, hF⟩
 refine ⟨vb (([4096, 5000]) == ([4096, 5000])), rfl, ?_⟩
 replace hS := (hS.to (hS.mem.keep0 hF)).put (d := 69) (v := vb (([4096, 5000]) == ([4096, 5000]))) (by decide)
 clear hF
 replace hS := hS.fix 69 (vb true) (show (vb (([4096, 5000]) == ([4096, 5000])) : Value) = vb true from (vbool (by first | with_reducible assumption | decide)))
 refine hS.opsC 2 [70, 0] [6] fun _ => seg [(71, vb true)] [(0, none), (1, none)] [.t true] trivial fun ac wd hS => ?_
 refine hS.opsC 1 [101] [71] fun _ => seg [(72, .agg #[pt b'1 0, vi 64, vi 19])] [(0, none)] [.t true, .e (ν3 0), .e (ν3 0), .e (ν3 0)] trivial fun ac wd hS => ?_
 refine hS.callG true 20 #[.agg #[pt b'1 0, vi 64, vi 19], vi 1] (ls_All_none b'1 F5 (lsrM (lsaM (lsaM (comM (AM.new 3) 0 2) 64 19 0 ([]) 4096) 64 19 0 ([4096]) 5000) 64 19 0 ([4096, 5000]) at_) 64 19 1 ([]) _ (hS.mem.res 0) (by first | assumption | omega | (simp_all; done) | (simp_all; omega)) (by first | assumption | omega | (simp_all; done) | (simp_all; omega)) (by with_reducible assumption) (by with_reducible assumption) (by decide) (by rfl)) ?_
 rintro _ wd ⟨rfl, hF⟩
 refine ⟨vnil, rfl, ?_⟩
 replace hS := (hS.to (hS.mem.keep0 hF)).put (d := 73) (v := vnil) (by decide)
 clear hF
 refine hS.opsC 4 [1, 1, 70, 0] [] fun _ => seg [(4, vb true)] [(0, none)] [.t true, .t true, .t true] trivial fun ac wd hS => ?_
 refine list_nil_seq ?_
 refine wp_ret ?_
 refine pop_then_ret ?_
 refine St.retC 0 hS (vb true) [] trivial fun hw => ?_
 refine ⟨retd rfl, hw.fr0⟩

set_option maxRecDepth 100000 in
set_option maxHeartbeats 1000000 in
theorem law07_ListWrong_1 (at_ : Int) (w : World) (hh0 : HE.holds w 1 (.fn 0 64 dbT)) :
    Calls Tryd.prog 3 #[vi 1, vi at_] w fun e w' => e = .returned (vb true) ∧ Fr w w' no no := by
 have e1 : lsaE (comM (AM.new 3) 0 2) [] 4096 = 0 := lw_two.1
 have e2 : lsaE (lsaM (comM (AM.new 3) 0 2) 64 19 0 [] 4096) [4096] 5000 = 0 := lw_two.2.1
 have c0 : ChainL (comM (AM.new 3) 0 2) 64 19 0 [] := lw_zero.ch
 have c1 : ChainL (lsaM (comM (AM.new 3) 0 2) 64 19 0 [] 4096) 64 19 0 [4096] := lw_two.2.2.1.ch
 have c2 : ChainL (lsaM (lsaM (comM (AM.new 3) 0 2) 64 19 0 [] 4096) 64 19 0 [4096] 5000) 64 19 0 [4096, 5000] := lw_two.2.2.2.ch
 have d2 : ChainL (lsaM (lsaM (comM (AM.new 3) 0 2) 64 19 0 [] 4096) 64 19 0 [4096] 5000) 64 19 1 [] := lw_two.2.2.2.ch1
 have p0 : ∀ a, a ∈ ([] : List Int) → 0 < a ∧ a ≤ 4611686018427387904 := lw_zero.ps
 have p1 : ∀ a, a ∈ ([4096] : List Int) → 0 < a ∧ a ≤ 4611686018427387904 := lw_two.2.2.1.ps
 have p2 : ∀ a, a ∈ ([4096, 5000] : List Int) → 0 < a ∧ a ≤ 4611686018427387904 := lw_two.2.2.2.ps
 have e3 : lsrE [] at_ = 8 := lsr_nil at_
 have h3 : hasL [] at_ = false := has_nil at_
 have c3 : ChainL (lsrM (lsaM (lsaM (comM (AM.new 3) 0 2) 64 19 0 [] 4096) 64 19 0 [4096] 5000) 64 19 1 [] at_) 64 19 0 [4096, 5000] := by rw [lsr_keep (by rw [e3]; decide)]; exact c2
 have d3 : ChainL (lsrM (lsaM (lsaM (comM (AM.new 3) 0 2) 64 19 0 [] 4096) 64 19 0 [4096] 5000) 64 19 1 [] at_) 64 19 1 [] := by rw [lsr_keep (by rw [e3]; decide)]; exact d2
 refine enter (args := [vi 1, vi at_]) (D := no) (A := []) Tryd.func3 rfl 101 rfl [(1, .fn 0 64 dbT)] (WS.startL ⟨⟨rfl, hh0⟩, trivial⟩) fun ac hS => ?_
 refine hS.regS [0] [0, 1] fun _ => seg [] [(0, none)] [] trivial fun ac wd hS => ?_
 refine wp_seq ?_
 refine wp_region_seq ?_
 refine hS.call0 14 #[] 11 (law07_awake  _ (hS.mem.get 0 1 (.fn 0 64 dbT)) ) fun ac wd hS => ?_
 refine hS.opsC 1 [0] [0, 1] fun _ => seg [(12, vb false)] [(0, none)] [] trivial fun ac wd hS => ?_
 refine list_nil_seq ?_
 refine hS.condF ?_
 refine wp_skip ?_
 refine pop_then ?_
 refine wp_region_seq ?_
 refine hS.callC 15 #[vi 2] (law07_open2  _  ) ?_
 rintro _ wd ⟨b'1, F2, rfl, hN, hF⟩
 refine ⟨.tuple #[pt b'1 0, .agg #[pt b'1 0, vi 64, vi 19], vb true], rfl, ?_⟩
 replace hS := (hS.to (hS.mem.newA hN hF)).put (d := 14) (v := .tuple #[pt b'1 0, .agg #[pt b'1 0, vi 64, vi 19], vb true]) (by decide)
 clear hF
 refine hS.opsC 8 [0, 0, 0, 0, 0, 0, 100, 0] [0, 1] fun ν3 => seg [(6, pt (ν3 0) 0), (7, vb true)] [(0, none), (1, some ((ν3 0), .cells [pt b'1 0, vi 64, vi 19] 27))] [.e (ν3 0), .e (ν3 0), .e (ν3 0)] trivial fun ac wd hS => ?_
 refine list_nil_seq ?_
 refine wp_seq ?_
 refine wp_region_seq ?_
 refine hS.opsC 3 [0, 0, 0] [0, 1, 6] fun _ => seg [(20, vb false)] [(0, none), (1, none)] [] trivial fun ac wd hS => ?_
 refine hS.opsC 1 [101] [0, 1, 6, 20] fun _ => seg [(21, .agg #[pt b'1 0, vi 64, vi 19])] [(0, none), (1, none)] [.t false, .e (ν3 0), .e (ν3 0), .e (ν3 0)] trivial fun ac wd hS => ?_
 refine hS.callG false 16 #[.agg #[pt b'1 0, vi 64, vi 19], vi 0, vi 4096] (ls_Add b'1 F2 (comM (AM.new 3) 0 2) 64 19 0 4096 ([]) _ (hS.mem.res 0) (by first | assumption | omega | (simp_all; done) | (simp_all; omega)) (by first | assumption | omega | (simp_all; done) | (simp_all; omega)) (by with_reducible assumption) (by with_reducible assumption) (by first | assumption | omega | (simp_all; done) | (simp_all; omega))) ?_
 rintro _ wd ⟨F3, rfl, hA, hF⟩
 refine ⟨vi (lsaE (comM (AM.new 3) 0 2) ([]) 4096), rfl, ?_⟩
 replace hS := (hS.to (hS.mem.stepA 0 rfl hA hF)).put (d := 22) (v := vi (lsaE (comM (AM.new 3) 0 2) ([]) 4096)) (by decide)
 clear hF
 replace hS := hS.fix 22 (vi 0) (show (vi (lsaE (comM (AM.new 3) 0 2) ([]) 4096) : Value) = vi 0 from (vint (by first | with_reducible assumption | decide)))
 refine hS.opsC 3 [1, 60, 0] [0, 1, 6] fun _ => seg [(25, vb false)] [(0, none), (1, none)] [.t false, .t false] trivial fun ac wd hS => ?_
 refine hS.opsC 1 [101] [0, 1, 6, 25] fun _ => seg [(26, .agg #[pt b'1 0, vi 64, vi 19])] [(0, none), (1, none)] [.t false, .e (ν3 0), .e (ν3 0), .e (ν3 0)] trivial fun ac wd hS => ?_
 refine hS.callG false 16 #[.agg #[pt b'1 0, vi 64, vi 19], vi 0, vi 5000] (ls_Add b'1 F3 (lsaM (comM (AM.new 3) 0 2) 64 19 0 ([]) 4096) 64 19 0 5000 ([4096]) _ (hS.mem.res 0) (by first | assumption | omega | (simp_all; done) | (simp_all; omega)) (by first | assumption | omega | (simp_all; done) | (simp_all; omega)) (by with_reducible assumption) (by with_reducible assumption) (by first | assumption | omega | (simp_all; done) | (simp_all; omega))) ?_
 rintro _ wd ⟨F4, rfl, hA, hF⟩
 refine ⟨vi (lsaE (lsaM (comM (AM.new 3) 0 2) 64 19 0 ([]) 4096) ([4096]) 5000), rfl, ?_⟩
 replace hS := (hS.to (hS.mem.stepA 0 rfl hA hF)).put (d := 27) (v := vi (lsaE (lsaM (comM (AM.new 3) 0 2) 64 19 0 ([]) 4096) ([4096]) 5000)) (by decide)
 clear hF
 replace hS := hS.fix 27 (vi 0) (show (vi (lsaE (lsaM (comM (AM.new 3) 0 2) 64 19 0 ([]) 4096) ([4096]) 5000) : Value) = vi 0 from (vint (by first | with_reducible assumption | decide)))
 refine hS.opsC 2 [1, 60] [0, 1, 6] fun _ => seg [(29, vb false)] [(0, none), (1, none)] [.t false, .t false] trivial fun ac wd hS => ?_
 refine list_nil_seq ?_
 refine hS.condF ?_
 refine wp_skip ?_
 refine pop_then ?_
 refine hS.regS [0, 0, 0, 3, 3, 80, 0] [0, 1, 6] fun _ => seg [(8, vb (((at_ : Int) == 4096) || ((at_ : Int) == 5000)))] [(0, none), (1, none)] [] trivial fun ac wd hS => ?_
 refine wp_seq ?_
 refine wp_region_seq ?_
 refine hS.opsC 3 [100, 0, 0] [0, 1, 6, 8] fun _ => seg [(36, .agg #[pt b'1 0, vi 64, vi 19]), (37, vi 1), (38, vi at_)] [(0, none), (1, none)] [.e (ν3 0), .e (ν3 0), .e (ν3 0)] trivial fun ac wd hS => ?_
 refine hS.call0 17 #[.agg #[pt b'1 0, vi 64, vi 19], vi 1, vi at_] 39 (ls_Has b'1 F4 (lsaM (lsaM (comM (AM.new 3) 0 2) 64 19 0 ([]) 4096) 64 19 0 ([4096]) 5000) 64 19 1 at_ ([]) _ (hS.mem.res 0) (by first | assumption | omega | (simp_all; done) | (simp_all; omega)) (by first | assumption | omega | (simp_all; done) | (simp_all; omega)) (by with_reducible assumption) (by with_reducible assumption)) fun ac wd hS => ?_
 replace hS := hS.fix 39 (vb false) (show (vb (hasL ([]) at_) : Value) = vb false from (vbool (by first | with_reducible assumption | decide)))
 refine hS.opsC 6 [0, 0, 3, 3, 80, 0] [0, 1, 6, 8] fun _ => seg [(45, vb (!(false == ((((at_ : Int) == 4096) || ((at_ : Int) == 5000)) && false))))] [(0, none), (1, none)] [] trivial fun ac wd hS => ?_
 refine list_nil_seq ?_
 refine hS.condK (!(false == ((((at_ : Int) == 4096) || ((at_ : Int) == 5000)) && false))) false (by simp) ?_
 show Code.wp _ _ _ _ _
 refine wp_skip ?_
 refine pop_then ?_
 refine wp_seq ?_
 refine wp_region_seq ?_
 refine hS.opsC 3 [100, 0, 0] [0, 6, 8] fun _ => seg [(46, .agg #[pt b'1 0, vi 64, vi 19]), (47, vi 1), (48, vi at_)] [(0, none), (1, none)] [.e (ν3 0), .e (ν3 0), .e (ν3 0)] trivial fun ac wd hS => ?_
 refine hS.callC 18 #[.agg #[pt b'1 0, vi 64, vi 19], vi 1, vi at_] (ls_Remove b'1 F4 (lsaM (lsaM (comM (AM.new 3) 0 2) 64 19 0 ([]) 4096) 64 19 0 ([4096]) 5000) 64 19 1 at_ ([]) _ (hS.mem.res 0) (by first | assumption | omega | (simp_all; done) | (simp_all; omega)) (by first | assumption | omega | (simp_all; done) | (simp_all; omega)) (by with_reducible assumption) (by with_reducible assumption)) ?_
 rintro _ wd ⟨F5, rfl, hA, hF⟩
 refine ⟨vi (lsrE ([]) at_), rfl, ?_⟩
 replace hS := (hS.to (hS.mem.stepA 0 rfl hA hF)).put (d := 49) (v := vi (lsrE ([]) at_)) (by decide)
 clear hF
 replace hS := hS.fix 49 (vi 8) (show (vi (lsrE ([]) at_) : Value) = vi 8 from (vint (by first | with_reducible assumption | decide)))
 refine hS.opsC 1 [0] [0, 6, 8] fun _ => seg [(9, vi 8)] [(0, none), (1, none)] [] trivial fun ac wd hS => ?_
 refine list_nil_seq ?_
 refine hS.regS [0, 0, 0, 3, 3, 80] [0, 6, 9] fun _ => seg [(55, vb ((!(((at_ : Int) == 4096) || ((at_ : Int) == 5000))) || true))] [(0, none), (1, none)] [] trivial fun ac wd hS => ?_
 refine hS.condK ((!(((at_ : Int) == 4096) || ((at_ : Int) == 5000))) || true) true (by simp) ?_
 show Code.wp _ _ _ _ _
 refine hS.regS [0] [0, 6, 9] fun _ => seg [(10, vi 8)] [(0, none), (1, none)] [] trivial fun ac wd hS => ?_
 refine wp_seq ?_
 refine hS.regS [0, 0, 0, 1, 1, 60] [6, 9, 10] fun _ => seg [(61, vb false)] [(0, none), (1, none)] [.t false, .t false, .t false] trivial fun ac wd hS => ?_
 refine hS.condF ?_
 refine wp_skip ?_
 refine pop_then ?_
 refine wp_region_seq ?_
 refine hS.opsC 4 [0, 0, 0, 0] [6] fun _ => seg [(65, vb true)] [(0, none), (1, none)] [] trivial fun ac wd hS => ?_
 refine hS.opsC 1 [101] [6, 65] fun _ => seg [(66, .agg #[pt b'1 0, vi 64, vi 19])] [(0, none), (1, none)] [.t true, .e (ν3 0), .e (ν3 0), .e (ν3 0)] trivial fun ac wd hS => ?_
 refine hS.callG true 20 #[.agg #[pt b'1 0, vi 64, vi 19], vi 0] (ls_All_some b'1 F5 (lsrM (lsaM (lsaM (comM (AM.new 3) 0 2) 64 19 0 ([]) 4096) 64 19 0 ([4096]) 5000) 64 19 1 ([]) at_) 64 19 0 ([4096, 5000]) _ (hS.mem.res 0) (by first | assumption | omega | (simp_all; done) | (simp_all; omega)) (by first | assumption | omega | (simp_all; done) | (simp_all; omega)) (by with_reducible assumption) (by with_reducible assumption) (by decide) (by decide)) ?_
 rintro _ wd ⟨g26, c27, rfl, hog0, hoh0, hF⟩
 have ho8 : w.heap.size ≤ g26 := Nat.le_trans hS.mem.fr.size hog0
 refine ⟨sc g26 0 (([4096, 5000]).length) c27, rfl, ?_⟩
 replace hS := (hS.to (hS.mem.outs hF [(g26, .fn 0 (0 + ([4096, 5000]).length) (ints ([4096, 5000]) 0))] ⟨⟨rfl, hoh0, .inr hog0⟩, trivial⟩)).put (d := 67) (v := sc g26 0 (([4096, 5000]).length) c27) (by decide)
 clear hF
 refine hS.opsC 1 [1] [6, 65, 67] fun ν19 => seg [(68, sc (ν19 0) 0 2 2)] [(0, none), (1, none), (2, none), (3, some ((ν19 0), .cells [vi 4096, vi 5000] 3))] [.t true] trivial fun ac wd hS => ?_
 refine hS.callG true 19 #[sc g26 0 (([4096, 5000]).length) c27, sc (ν19 0) 0 2 2] (slices_EqualI g26 0 c27 ([4096, 5000]) (ν19 0) 0 2 ([4096, 5000]) _ (hS.mem.get 2 g26 (.fn 0 (0 + ([4096, 5000]).length) (ints ([4096, 5000]) 0))) (HE.of_cells (hS.mem.get 3 (ν19 0) (.cells [vi 4096, vi 5000] 3)) (fun o_ ho => by have ho : o_ < 2 := ho; rcases (by omega : o_ = 0 ∨ o_ = 1) with rfl | rfl <;> rfl)) (by decide)) ?_
 rintro _ wd ⟨rfl, hF⟩
 refine ⟨vb (([4096, 5000]) == ([4096, 5000])), rfl, ?_⟩
 replace hS := (hS.to (hS.mem.keep0 hF)).put (d := 69) (v := vb (([4096, 5000]) == ([4096, 5000]))) (by decide)
 clear hF
 replace hS := hS.fix 69 (vb true) (show (vb (([4096, 5000]) == ([4096, 5000])) : Value) = vb true from (vbool (by first | with_reducible assumption | decide)))
 refine hS.opsC 2 [70, 0] [6] fun _ => seg [(71, vb true)] [(0, none), (1, none)] [.t true] trivial fun ac wd hS => ?_
 refine hS.opsC 1 [101] [71] fun _ => seg [(72, .agg #[pt b'1 0, vi 64, vi 19])] [(0, none)] [.t true, .e (ν3 0), .e (ν3 0), .e (ν3 0)] trivial fun ac wd hS => ?_
 refine hS.callG true 20 #[.agg #[pt b'1 0, vi 64, vi 19], vi 1] (ls_All_none b'1 F5 (lsrM (lsaM (lsaM (comM (AM.new 3) 0 2) 64 19 0 ([]) 4096) 64 19 0 ([4096]) 5000) 64 19 1 ([]) at_) 64 19 1 ([]) _ (hS.mem.res 0) (by first | assumption | omega | (simp_all; done) | (simp_all; omega)) (by first | assumption | omega | (simp_all; done) | (simp_all; omega)) (by with_reducible assumption) (by with_reducible assumption) (by decide) (by rfl)) ?_
 rintro _ wd ⟨rfl, hF⟩
 refine ⟨vnil, rfl, ?_⟩
 replace hS := (hS.to (hS.mem.keep0 hF)).put (d := 73) (v := vnil) (by decide)
 clear hF
 refine hS.opsC 4 [1, 1, 70, 0] [] fun _ => seg [(4, vb true)] [(0, none)] [.t true, .t true, .t true] trivial fun ac wd hS => ?_
 refine list_nil_seq ?_
 refine wp_ret ?_
 refine pop_then_ret ?_
 refine St.retC 0 hS (vb true) [] trivial fun hw => ?_
 refine ⟨retd rfl, hw.fr0⟩

set_option maxRecDepth 100000 in
set_option maxHeartbeats 1000000 in
theorem law07_ListWrong_x (k : Int) (at_ : Int) (w : World) (hh0 : HE.holds w 1 (.fn 0 64 dbT)) (hkk : k < 0 ∨ 1 < k) :
    Calls Tryd.prog 3 #[vi k, vi at_] w fun e w' => e = .returned (vb true) ∧ Fr w w' no no := by
 have e1 : lsaE (comM (AM.new 3) 0 2) [] 4096 = 0 := lw_two.1
 have e2 : lsaE (lsaM (comM (AM.new 3) 0 2) 64 19 0 [] 4096) [4096] 5000 = 0 := lw_two.2.1
 have c0 : ChainL (comM (AM.new 3) 0 2) 64 19 0 [] := lw_zero.ch
 have c1 : ChainL (lsaM (comM (AM.new 3) 0 2) 64 19 0 [] 4096) 64 19 0 [4096] := lw_two.2.2.1.ch
 have c2 : ChainL (lsaM (lsaM (comM (AM.new 3) 0 2) 64 19 0 [] 4096) 64 19 0 [4096] 5000) 64 19 0 [4096, 5000] := lw_two.2.2.2.ch
 have d2 : ChainL (lsaM (lsaM (comM (AM.new 3) 0 2) 64 19 0 [] 4096) 64 19 0 [4096] 5000) 64 19 1 [] := lw_two.2.2.2.ch1
 have p0 : ∀ a, a ∈ ([] : List Int) → 0 < a ∧ a ≤ 4611686018427387904 := lw_zero.ps
 have p1 : ∀ a, a ∈ ([4096] : List Int) → 0 < a ∧ a ≤ 4611686018427387904 := lw_two.2.2.1.ps
 have p2 : ∀ a, a ∈ ([4096, 5000] : List Int) → 0 < a ∧ a ≤ 4611686018427387904 := lw_two.2.2.2.ps
 have h9 : lchE 19 k = 3 := (lch_no (by omega)).symm
 have hk0 : (k == 0) = false := beq_false_of_ne (by omega)
 refine enter (args := [vi k, vi at_]) (D := no) (A := []) Tryd.func3 rfl 101 rfl [(1, .fn 0 64 dbT)] (WS.startL ⟨⟨rfl, hh0⟩, trivial⟩) fun ac hS => ?_
 refine hS.regS [0] [0, 1] fun _ => seg [] [(0, none)] [] trivial fun ac wd hS => ?_
 refine wp_seq ?_
 refine wp_region_seq ?_
 refine hS.call0 14 #[] 11 (law07_awake  _ (hS.mem.get 0 1 (.fn 0 64 dbT)) ) fun ac wd hS => ?_
 refine hS.opsC 1 [0] [0, 1] fun _ => seg [(12, vb false)] [(0, none)] [] trivial fun ac wd hS => ?_
 refine list_nil_seq ?_
 refine hS.condF ?_
 refine wp_skip ?_
 refine pop_then ?_
 refine wp_region_seq ?_
 refine hS.callC 15 #[vi 2] (law07_open2  _  ) ?_
 rintro _ wd ⟨b'1, F2, rfl, hN, hF⟩
 refine ⟨.tuple #[pt b'1 0, .agg #[pt b'1 0, vi 64, vi 19], vb true], rfl, ?_⟩
 replace hS := (hS.to (hS.mem.newA hN hF)).put (d := 14) (v := .tuple #[pt b'1 0, .agg #[pt b'1 0, vi 64, vi 19], vb true]) (by decide)
 clear hF
 refine hS.opsC 8 [0, 0, 0, 0, 0, 0, 100, 0] [0, 1] fun ν3 => seg [(6, pt (ν3 0) 0), (7, vb true)] [(0, none), (1, some ((ν3 0), .cells [pt b'1 0, vi 64, vi 19] 27))] [.e (ν3 0), .e (ν3 0), .e (ν3 0)] trivial fun ac wd hS => ?_
 refine list_nil_seq ?_
 refine wp_seq ?_
 refine wp_region_seq ?_
 refine hS.opsC 3 [0, 0, 0] [0, 1, 6] fun _ => seg [(20, vb false)] [(0, none), (1, none)] [] trivial fun ac wd hS => ?_
 refine hS.opsC 1 [101] [0, 1, 6, 20] fun _ => seg [(21, .agg #[pt b'1 0, vi 64, vi 19])] [(0, none), (1, none)] [.t false, .e (ν3 0), .e (ν3 0), .e (ν3 0)] trivial fun ac wd hS => ?_
 refine hS.callG false 16 #[.agg #[pt b'1 0, vi 64, vi 19], vi 0, vi 4096] (ls_Add b'1 F2 (comM (AM.new 3) 0 2) 64 19 0 4096 ([]) _ (hS.mem.res 0) (by first | assumption | omega | (simp_all; done) | (simp_all; omega)) (by first | assumption | omega | (simp_all; done) | (simp_all; omega)) (by with_reducible assumption) (by with_reducible assumption) (by first | assumption | omega | (simp_all; done) | (simp_all; omega))) ?_
 rintro _ wd ⟨F3, rfl, hA, hF⟩
 refine ⟨vi (lsaE (comM (AM.new 3) 0 2) ([]) 4096), rfl, ?_⟩
 replace hS := (hS.to (hS.mem.stepA 0 rfl hA hF)).put (d := 22) (v := vi (lsaE (comM (AM.new 3) 0 2) ([]) 4096)) (by decide)
 clear hF
 replace hS := hS.fix 22 (vi 0) (show (vi (lsaE (comM (AM.new 3) 0 2) ([]) 4096) : Value) = vi 0 from (vint (by first | with_reducible assumption | decide)))
 refine hS.opsC 3 [1, 60, 0] [0, 1, 6] fun _ => seg [(25, vb false)] [(0, none), (1, none)] [.t false, .t false] trivial fun ac wd hS => ?_
 refine hS.opsC 1 [101] [0, 1, 6, 25] fun _ => seg [(26, .agg #[pt b'1 0, vi 64, vi 19])] [(0, none), (1, none)] [.t false, .e (ν3 0), .e (ν3 0), .e (ν3 0)] trivial fun ac wd hS => ?_
 refine hS.callG false 16 #[.agg #[pt b'1 0, vi 64, vi 19], vi 0, vi 5000] (ls_Add b'1 F3 (lsaM (comM (AM.new 3) 0 2) 64 19 0 ([]) 4096) 64 19 0 5000 ([4096]) _ (hS.mem.res 0) (by first | assumption | omega | (simp_all; done) | (simp_all; omega)) (by first | assumption | omega | (simp_all; done) | (simp_all; omega)) (by with_reducible assumption) (by with_reducible assumption) (by first | assumption | omega | (simp_all; done) | (simp_all; omega))) ?_
 rintro _ wd ⟨F4, rfl, hA, hF⟩
 refine ⟨vi (lsaE (lsaM (comM (AM.new 3) 0 2) 64 19 0 ([]) 4096) ([4096]) 5000), rfl, ?_⟩
 replace hS := (hS.to (hS.mem.stepA 0 rfl hA hF)).put (d := 27) (v := vi (lsaE (lsaM (comM (AM.new 3) 0 2) 64 19 0 ([]) 4096) ([4096]) 5000)) (by decide)
 clear hF
 replace hS := hS.fix 27 (vi 0) (show (vi (lsaE (lsaM (comM (AM.new 3) 0 2) 64 19 0 ([]) 4096) ([4096]) 5000) : Value) = vi 0 from (vint (by first | with_reducible assumption | decide)))
 refine hS.opsC 2 [1, 60] [0, 1, 6] fun _ => seg [(29, vb false)] [(0, none), (1, none)] [.t false, .t false] trivial fun ac wd hS => ?_
 refine list_nil_seq ?_
 refine hS.condF ?_
 refine wp_skip ?_
 refine pop_then ?_
 refine hS.regS [0, 0, 0, 3, 3, 80, 0] [0, 1, 6] fun _ => seg [(8, vb (((at_ : Int) == 4096) || ((at_ : Int) == 5000)))] [(0, none), (1, none)] [] trivial fun ac wd hS => ?_
 refine wp_seq ?_
 refine wp_region_seq ?_
 refine hS.opsC 3 [100, 0, 0] [0, 1, 6, 8] fun _ => seg [(36, .agg #[pt b'1 0, vi 64, vi 19]), (37, vi k), (38, vi at_)] [(0, none), (1, none)] [.e (ν3 0), .e (ν3 0), .e (ν3 0)] trivial fun ac wd hS => ?_
 refine hS.call0 17 #[.agg #[pt b'1 0, vi 64, vi 19], vi k, vi at_] 39 (ls_Has_no b'1 64 19 k at_ _  (by first | assumption | omega | (simp_all; done) | (simp_all; omega)) (by first | decide | (unfold lchE; rw [if_pos (by omega)]; decide))) fun ac wd hS => ?_
 refine hS.opsC 6 [0, 0, 3, fx 3 (vb false), 80, 0] [0, 1, 6, 8] fun _ => seg [(45, vb (!(false == ((((at_ : Int) == 4096) || ((at_ : Int) == 5000)) && false))))] [(0, none), (1, none)] [.p ((((((at_ : Int) == 4096) || ((at_ : Int) == 5000)) = true) ∧ True) → AllP [(vb ((k : Int) == 0) : Value) = vb false])] ⟨(fun ⟨hc0, _⟩ => by replace hc0 := nrm hc0; exact ⟨(congrArg Value.bool (by exact hk0)), trivial⟩), trivial⟩ fun ac wd hS => ?_
 refine list_nil_seq ?_
 refine hS.condK (!(false == ((((at_ : Int) == 4096) || ((at_ : Int) == 5000)) && false))) false (by simp) ?_
 show Code.wp _ _ _ _ _
 refine wp_skip ?_
 refine pop_then ?_
 refine wp_seq ?_
 refine wp_region_seq ?_
 refine hS.opsC 3 [100, 0, 0] [0, 6, 8] fun _ => seg [(46, .agg #[pt b'1 0, vi 64, vi 19]), (47, vi k), (48, vi at_)] [(0, none), (1, none)] [.e (ν3 0), .e (ν3 0), .e (ν3 0)] trivial fun ac wd hS => ?_
 refine hS.callC 18 #[.agg #[pt b'1 0, vi 64, vi 19], vi k, vi at_] (ls_Remove_no b'1 F4 (lsaM (lsaM (comM (AM.new 3) 0 2) 64 19 0 ([]) 4096) 64 19 0 ([4096]) 5000) 64 19 k at_ _ (hS.mem.res 0) (by first | assumption | omega | (simp_all; done) | (simp_all; omega)) (by first | decide | (unfold lchE; rw [if_pos (by omega)]; decide))) ?_
 rintro _ wd ⟨F5, rfl, hA, hF⟩
 refine ⟨vi (lchE 19 k), rfl, ?_⟩
 replace hS := (hS.to (hS.mem.stepA 0 rfl hA hF)).put (d := 49) (v := vi (lchE 19 k)) (by decide)
 clear hF
 replace hS := hS.fix 49 (vi 3) (show (vi (lchE 19 k) : Value) = vi 3 from (vint (by first | with_reducible assumption | decide)))
 refine hS.opsC 1 [0] [0, 6, 8] fun _ => seg [(9, vi 3)] [(0, none), (1, none)] [] trivial fun ac wd hS => ?_
 refine list_nil_seq ?_
 refine hS.regS [0, 0, 0, 3, fx 3 (vb true), 80] [0, 6, 9] fun _ => seg [(55, vb ((!(((at_ : Int) == 4096) || ((at_ : Int) == 5000))) || true))] [(0, none), (1, none)] [.p ((((!(((at_ : Int) == 4096) || ((at_ : Int) == 5000))) = false) ∧ True) → AllP [(vb ((k : Int) != 0) : Value) = vb true])] ⟨(fun ⟨hc0, _⟩ => by replace hc0 := nrm hc0; exact ⟨(congrArg Value.bool (by (rw [bne, hk0]; rfl))), trivial⟩), trivial⟩ fun ac wd hS => ?_
 refine hS.condK ((!(((at_ : Int) == 4096) || ((at_ : Int) == 5000))) || true) true (by simp) ?_
 show Code.wp _ _ _ _ _
 refine hS.regS [0] [0, 6, 9] fun _ => seg [(10, vi 8)] [(0, none), (1, none)] [] trivial fun ac wd hS => ?_
 refine wp_seq ?_
 refine hS.regS [0, 0, 0, 3, 3, 80] [6, 9, 10] fun _ => seg [(61, vb ((decide ((k : Int) < 0)) || (decide ((1 : Int) < k))))] [(0, none), (1, none)] [] trivial fun ac wd hS => ?_
 refine hS.condK ((decide ((k : Int) < 0)) || (decide ((1 : Int) < k))) true (by (simp; omega)) ?_
 show Code.wp _ _ _ _ _
 refine hS.regC [0] [6, 9] fun _ => seg [(10, vi 3)] [(0, none), (1, none)] [] trivial fun ac wd hS => ?_
 refine pop_then ?_
 refine wp_region_seq ?_
 refine hS.opsC 4 [0, 0, 0, 0] [6] fun _ => seg [(65, vb true)] [(0, none), (1, none)] [] trivial fun ac wd hS => ?_
 refine hS.opsC 1 [101] [6, 65] fun _ => seg [(66, .agg #[pt b'1 0, vi 64, vi 19])] [(0, none), (1, none)] [.t true, .e (ν3 0), .e (ν3 0), .e (ν3 0)] trivial fun ac wd hS => ?_
 refine hS.callG true 20 #[.agg #[pt b'1 0, vi 64, vi 19], vi 0] (ls_All_some b'1 F5 (lsaM (lsaM (comM (AM.new 3) 0 2) 64 19 0 ([]) 4096) 64 19 0 ([4096]) 5000) 64 19 0 ([4096, 5000]) _ (hS.mem.res 0) (by first | assumption | omega | (simp_all; done) | (simp_all; omega)) (by first | assumption | omega | (simp_all; done) | (simp_all; omega)) (by with_reducible assumption) (by with_reducible assumption) (by decide) (by decide)) ?_
 rintro _ wd ⟨g26, c27, rfl, hog0, hoh0, hF⟩
 have ho8 : w.heap.size ≤ g26 := Nat.le_trans hS.mem.fr.size hog0
 refine ⟨sc g26 0 (([4096, 5000]).length) c27, rfl, ?_⟩
 replace hS := (hS.to (hS.mem.outs hF [(g26, .fn 0 (0 + ([4096, 5000]).length) (ints ([4096, 5000]) 0))] ⟨⟨rfl, hoh0, .inr hog0⟩, trivial⟩)).put (d := 67) (v := sc g26 0 (([4096, 5000]).length) c27) (by decide)
 clear hF
 refine hS.opsC 1 [1] [6, 65, 67] fun ν20 => seg [(68, sc (ν20 0) 0 2 2)] [(0, none), (1, none), (2, none), (3, some ((ν20 0), .cells [vi 4096, vi 5000] 3))] [.t true] trivial fun ac wd hS => ?_
 refine hS.callG true 19 #[sc g26 0 (([4096, 5000]).length) c27, sc (ν20 0) 0 2 2] (slices_EqualI g26 0 c27 ([4096, 5000]) (ν20 0) 0 2 ([4096, 5000]) _ (hS.mem.get 2 g26 (.fn 0 (0 + ([4096, 5000]).length) (ints ([4096, 5000]) 0))) (HE.of_cells (hS.mem.get 3 (ν20 0) (.cells [vi 4096, vi 5000] 3)) (fun o_ ho => by have ho : o_ < 2 := ho; rcases (by omega : o_ = 0 ∨ o_ = 1) with rfl | rfl <;> rfl)) (by decide)) ?_
 rintro _ wd ⟨rfl, hF⟩
 refine ⟨vb (([4096, 5000]) == ([4096, 5000])), rfl, ?_⟩
 replace hS := (hS.to (hS.mem.keep0 hF)).put (d := 69) (v := vb (([4096, 5000]) == ([4096, 5000]))) (by decide)
 clear hF
 replace hS := hS.fix 69 (vb true) (show (vb (([4096, 5000]) == ([4096, 5000])) : Value) = vb true from (vbool (by first | with_reducible assumption | decide)))
 refine hS.opsC 2 [70, 0] [6] fun _ => seg [(71, vb true)] [(0, none), (1, none)] [.t true] trivial fun ac wd hS => ?_
 refine hS.opsC 1 [101] [71] fun _ => seg [(72, .agg #[pt b'1 0, vi 64, vi 19])] [(0, none)] [.t true, .e (ν3 0), .e (ν3 0), .e (ν3 0)] trivial fun ac wd hS => ?_
 refine hS.callG true 20 #[.agg #[pt b'1 0, vi 64, vi 19], vi 1] (ls_All_none b'1 F5 (lsaM (lsaM (comM (AM.new 3) 0 2) 64 19 0 ([]) 4096) 64 19 0 ([4096]) 5000) 64 19 1 ([]) _ (hS.mem.res 0) (by first | assumption | omega | (simp_all; done) | (simp_all; omega)) (by first | assumption | omega | (simp_all; done) | (simp_all; omega)) (by with_reducible assumption) (by with_reducible assumption) (by decide) (by rfl)) ?_
 rintro _ wd ⟨rfl, hF⟩
 refine ⟨vnil, rfl, ?_⟩
 replace hS := (hS.to (hS.mem.keep0 hF)).put (d := 73) (v := vnil) (by decide)
 clear hF
 refine hS.opsC 4 [1, 1, 70, 0] [] fun _ => seg [(4, vb true)] [(0, none)] [.t true, .t true, .t true] trivial fun ac wd hS => ?_
 refine list_nil_seq ?_
 refine wp_ret ?_
 refine pop_then_ret ?_
 refine St.retC 0 hS (vb true) [] trivial fun hw => ?_
 refine ⟨retd rfl, hw.fr0⟩

theorem law07_ListWrong (k : Int) (at_ : Int) (w : World) (hh0 : HE.holds w 1 (.fn 0 64 dbT)) :
    Calls Tryd.prog 3 #[vi k, vi at_] w fun e w' => e = .returned (vb true) ∧ Fr w w' no no := by
 by_cases h0 : k = 0
 · subst h0
   by_cases h1 : at_ = 4096
   · subst h1; exact law07_ListWrong_4096 w hh0
   · by_cases h2 : at_ = 5000
     · subst h2; exact law07_ListWrong_5000 w hh0
     · exact law07_ListWrong_o at_ w hh0 ⟨h1, h2⟩
 · by_cases h1 : k = 1
   · subst h1; exact law07_ListWrong_1 at_ w hh0
   · exact law07_ListWrong_x k at_ w hh0 (by omega)

end Go.Proofs.YtindbpffbjhfaaaDoor.K
