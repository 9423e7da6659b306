/-
  Walks, printed by w2.py.
-/
import Derived.Test.YtdjhdcaanmkblaaDoorPh
import Derived.Test.YtdjhdcaanmkblaaDoorVu
import Derived.Test.YtdjhdcaanmkblaaDoorOz
import Derived.Test.YtdjhdcaanmkblaaDoorProg
namespace Go.Proofs.YtdjhdcaanmkblaaDoor.K
set_option linter.unusedVariables false
set_option linter.unusedSimpArgs false

set_option maxRecDepth 100000 in
set_option maxHeartbeats 1000000 in
theorem law04_ViewPlays_a (pa : Int) (pz : Int) (ao9 : Option Addr) (c9 : Nat) (g9 : Nat) (o9 : Nat) (l : List (Int × Int × Int × Int × Int × ByteArray)) (w : World) (hh0 : HE.holds w 0 (.fn 0 64 dbT)) (hh1 : HE.holds w g9 (.fn o9 (o9 + l.length * 6) (a3V (gtD l) o9))) (hv9 : (l.length = 0 ∨ ao9 = some ⟨g9, o9, none⟩)) (hAl : ∀ i, i < l.length → rg_a3V (gtD l i)) (hv : thr (comM (AM.new 4) 0 4) pa pz = false) :
    Calls Tryd.prog 4 #[vi pa, vi pz, .slice ao9 l.length c9] w fun e w' => e = .returned (vb true) ∧ Fr w w' no no := by
 refine enter (args := [vi pa, vi pz, .slice ao9 l.length c9]) (D := no) (A := []) Tryd.func4 rfl 124 rfl [(0, .fn 0 64 dbT), (g9, .fn o9 (o9 + l.length * 6) (a3V (gtD l) o9))] (WS.startL ⟨⟨rfl, hh0⟩, ⟨rfl, hh1⟩, trivial⟩) fun ac hS => ?_
 refine hS.regS [0] [0, 1, 2] fun _ => seg [] [(0, none), (1, none)] [] trivial fun ac wd hS => ?_
 refine wp_seq ?_
 refine wp_region_seq ?_
 refine hS.call0 20 #[] 14 (law04_awake  _ (hS.mem.get 0 0 (.fn 0 64 dbT)) ) fun ac wd hS => ?_
 refine hS.opsC 1 [0] [0, 1, 2] fun _ => seg [(15, vb false)] [(0, none), (1, none)] [] trivial fun ac wd hS => ?_
 refine list_nil_seq ?_
 refine hS.condF ?_
 refine wp_skip ?_
 refine pop_then ?_
 refine wp_seq ?_
 refine wp_region_seq ?_
 refine hS.opsC 1 [0] [0, 1, 2] fun _ => seg [(16, .slice ao9 l.length c9)] [(0, none), (1, none)] [] trivial fun ac wd hS => ?_
 refine hS.callC 8 #[.slice ao9 l.length c9] (law03_LightR ao9 c9 g9 o9 l _ (hS.mem.get 1 g9 (.fn o9 (o9 + l.length * 6) (a3V (gtD l) o9))) hv9) ?_
 rintro _ wd ⟨r21, rfl, hL2, hF⟩
 refine ⟨vb r21, rfl, ?_⟩
 replace hS := (hS.to (hS.mem.keep0 hF)).put (d := 17) (v := vb r21) (by decide)
 clear hF
 refine hS.opsC 1 [0] [0, 1, 2] fun _ => seg [(18, vb (!r21))] [(0, none), (1, none)] [] trivial fun ac wd hS => ?_
 refine list_nil_seq ?_
 refine hS.condC (!r21) (fun hb3o hb3 => ?_) (fun hb3o hb3 => ?_)
 ·
  refine hS.regS [0] [] fun _ => seg [(6, vb true)] [(0, none)] [] trivial fun ac wd hS => ?_
  refine wp_ret ?_
  refine pop_then_ret ?_
  refine St.retC 0 hS (vb true) [] trivial fun hw => ?_
  refine ⟨retd rfl, hw.fr0⟩
 ·
  refine wp_skip ?_
  refine pop_then ?_
  refine wp_region_seq ?_
  refine hS.callC 9 #[vi 4] (ar_New 4 _  ) ?_
  rintro _ wd ⟨b'4, F5, rfl, hN, hF⟩
  refine ⟨pt b'4 0, rfl, ?_⟩
  replace hS := (hS.to (hS.mem.newA hN hF)).put (d := 19) (v := pt b'4 0) (by decide)
  clear hF
  refine hS.callC 10 #[vi 4] (ref03_New 4 _  ) ?_
  rintro _ wd ⟨g26, rfl, hog0, hoh0, hF⟩
  have ho7 : w.heap.size ≤ g26 := Nat.le_trans hS.mem.fr.size hog0
  refine ⟨.agg #[sc g26 0 4 4, vi (-1)], rfl, ?_⟩
  replace hS := (hS.to (hS.mem.outs hF [(g26, .fn 0 4 (strs (fun _ => ⟨#[]⟩) 0))] ⟨⟨rfl, hoh0, .inr hog0⟩, trivial⟩)).put (d := 20) (v := .agg #[sc g26 0 4 4, vi (-1)]) (by decide)
  clear hF
  refine hS.opsC 3 [0, 0, 300] [0, 1, 2] fun ν6 => seg [(7, pt b'4 0), (8, pt (ν6 0) 0)] [(0, none), (1, none), (2, none), (3, some ((ν6 0), .cells [sc g26 0 4 4, vi (-1)] 30))] [.e (ν6 0), .e (ν6 0)] trivial fun ac wd hS => ?_
  refine list_nil_seq ?_
  refine wp_seq ?_
  replace hS := hS.to (hS.mem.tellF (b := g26) (lo := 0) (hi := 4) (f := (strs (fun _ => ⟨#[]⟩) 0)) 2 4 (strs (pgS (AM.new 4)) 0) rfl (fun x_ _ _ => rfl))
  refine wp_region_seq ?_
  refine hS.opsC 1 [0] [0, 1, 2, 7, 8] fun _ => seg [(21, pt b'4 0)] [(0, none), (1, none), (2, none), (3, none)] [] trivial fun ac wd hS => ?_
  refine hS.callC 21 #[pt b'4 0, vi 0, vi 4] (ar_Commit b'4 F5 (AM.new 4) 0 4 _ (hS.mem.res 0) ) ?_
  rintro _ wd ⟨F8, rfl, hA, hF⟩
  refine ⟨vi (comE (AM.new 4) 0 4), rfl, ?_⟩
  replace hS := (hS.to (hS.mem.stepA 0 rfl hA hF)).put (d := 22) (v := vi (comE (AM.new 4) 0 4)) (by decide)
  clear hF
  refine hS.opsC 1 [0] [0, 1, 2, 7, 8] fun _ => seg [(23, vb (((comE (AM.new 4) 0 4) : Int) != 0))] [(0, none), (1, none), (2, none), (3, none)] [] trivial fun ac wd hS => ?_
  refine list_nil_seq ?_
  refine hS.condK (((comE (AM.new 4) 0 4) : Int) != 0) false (by decide +kernel) ?_
  show Code.wp _ _ _ _ _
  refine wp_skip ?_
  refine pop_then ?_
  refine wp_region_seq ?_
  refine hS.opsC 1 [300] [0, 1, 2, 7, 8] fun _ => seg [(25, .agg #[sc g26 0 4 4, vi (-1)])] [(0, none), (1, none), (2, none), (3, none)] [.e (ν6 0), .e (ν6 0)] trivial fun ac wd hS => ?_
  refine hS.callC 22 #[.agg #[sc g26 0 4 4, vi (-1)], vi 0, vi 4] (ref03_CommitM g26 0 4 4 (-1) 0 4 (AM.new 4) _ (hS.mem.get 2 g26 (.fn 0 4 (strs (pgS (AM.new 4)) 0))) (by first | rfl | decide | omega) (by first | rfl | decide | omega) (by first | rfl | decide | omega) (by first | rfl | decide | omega)) ?_
  rintro _ wd ⟨g29, u210, cp211, rfl, hog0, hoh0, hF⟩
  have ho12 : w.heap.size ≤ g29 := by rcases hog0 with hx | hx; rw [hx]; exact ho7; exact Nat.le_trans hS.mem.fr.size hx
  refine ⟨.tuple #[.agg #[sc g29 u210 4 cp211, vi (rfA (comM (AM.new 4) 0 4))], vi (comE (AM.new 4) 0 4)], rfl, ?_⟩
  replace hS := (hS.to (hS.mem.outs hF [(g29, .fn u210 (u210 + 4) (strs (pgS (comM (AM.new 4) 0 4)) u210))] ⟨⟨rfl, hoh0, hog0.imp (fun e => ⟨2, .fn 0 4 (strs (pgS (AM.new 4)) 0), by rw [e]; rfl, rfl⟩) id⟩, trivial⟩)).put (d := 26) (v := .tuple #[.agg #[sc g29 u210 4 cp211, vi (rfA (comM (AM.new 4) 0 4))], vi (comE (AM.new 4) 0 4)]) (by decide)
  clear hF
  refine hS.opsC 4 [0, 0, 0, 300] [0, 1, 2, 7, 8] fun _ => seg [] [(0, none), (1, none), (3, some ((ν6 0), .cells [sc g29 u210 4 cp211, vi (rfA (comM (AM.new 4) 0 4))] 30)), (4, none)] [.e (ν6 0), .e (ν6 0)] trivial fun ac wd hS => ?_
  refine list_nil_seq ?_
  obtain ⟨M, M_e⟩ : ∃ q_ : AM, q_ = (comM (AM.new 4) 0 4) := ⟨_, rfl⟩
  replace hS := hS.to (hS.mem.arTell (b := b'4) (F := F8) (m := (comM (AM.new 4) 0 4)) (m' := M) 0 M_e.symm)
  have hmc : M.cap = 4 := by rw [M_e]; decide +kernel
  rw [← M_e] at hv
  replace hS := hS.to (hS.mem.tellF (b := g29) (lo := u210) (hi := (u210 + 4)) (f := (strs (pgS (comM (AM.new 4) 0 4)) u210)) 3 (u210 + 4) (strs (pgS M) u210) rfl (fun x_ _ _ => by rw [M_e]))
  clear M_e
  refine wp_region_seq ?_
  refine hS.opsC 3 [0, 0, 0] [0, 1, 2, 7, 8] fun _ => seg [(30, pt b'4 0), (31, vi pa), (32, vi pz)] [(0, none), (1, none), (2, none), (3, none)] [] trivial fun ac wd hS => ?_
  refine hS.call0 23 #[pt b'4 0, vi pa, vi pz] 33 (vw_Of_x b'4 F8 M pa pz _ (hS.mem.res 0) (by exact hv)) fun ac wd hS => ?_
  refine hS.opsC 6 [0, 0, 0, 0, 400, 0] [0, 1, 2, 7, 8] fun ν12 => seg [(9, pt (ν12 0) 0), (10, vi 3)] [(0, none), (1, none), (2, none), (3, none), (4, some ((ν12 0), .cells [pnil, vi 0, vi 0] 55))] [.e (ν12 0), .e (ν12 0), .e (ν12 0)] trivial fun ac wd hS => ?_
  refine list_nil_seq ?_
  refine wp_seq ?_
  refine hS.regS [0, 0] [0, 1, 2, 7, 8, 9, 10] fun _ => seg [(37, vb true)] [(0, none), (1, none), (2, none), (3, none), (4, none)] [] trivial fun ac wd hS => ?_
  refine hS.condT ?_
  refine wp_region_seq ?_
  refine hS.opsC 3 [0, 0, 0] [0, 1, 8, 9] fun _ => seg [(40, vb true)] [(0, none), (2, none), (3, none), (4, none)] [] trivial fun ac wd hS => ?_
  refine hS.opsC 3 [101, 1, 1] [9, 40] fun _ => seg [(41, .agg #[sc g29 u210 4 cp211, vi (rfA (comM (AM.new 4) 0 4))]), (42, vi pa), (43, vi pz)] [(0, none), (2, none), (3, none)] [.t true, .t true, .t true, .e (ν6 0), .e (ν6 0)] trivial fun ac wd hS => ?_
  refine hS.callG true 24 #[.agg #[sc g29 u210 4 cp211, vi (rfA (comM (AM.new 4) 0 4))], vi pa, vi pz] (ref03_ThereM g29 u210 4 cp211 (rfA (comM (AM.new 4) 0 4)) pa pz M _ (hS.mem.get 1 g29 (.fn u210 (u210 + 4) (strs (pgS M) u210))) (by first | rfl | decide | omega) (by first | rfl | decide | omega)) ?_
  rintro _ wd ⟨rfl, hF⟩
  refine ⟨vb (thr M pa pz), rfl, ?_⟩
  replace hS := (hS.to (hS.mem.keep0 hF)).put (d := 44) (v := vb (thr M pa pz)) (by decide)
  clear hF
  refine hS.opsC 3 [1, 70, 0] [9] fun _ => seg [(47, vb (!(thr M pa pz)))] [(0, none), (2, none)] [.t true, .t true] trivial fun ac wd hS => ?_
  have hg13o : (!(thr M pa pz)) = true := by (rw [hv]; rfl)
  replace hS := hS.fix 47 (vb true) (congrArg Value.bool hg13o)
  refine hS.opsC 1 [101] [47] fun _ => seg [(48, .agg #[pnil, vi 0, vi 0])] [(0, none)] [.t true, .e (ν12 0), .e (ν12 0), .e (ν12 0)] trivial fun ac wd hS => ?_
  refine hS.callG true 25 #[.agg #[pnil, vi 0, vi 0]] (vnil_Size  _  ) ?_
  rintro _ wd ⟨rfl, hF⟩
  refine ⟨vi 0, rfl, ?_⟩
  replace hS := (hS.to (hS.mem.keep0 hF)).put (d := 49) (v := vi 0) (by decide)
  clear hF
  refine hS.opsC 3 [1, 70, 0] [] fun _ => seg [(6, vb true)] [(0, none)] [.t true, .t true] trivial fun ac wd hS => ?_
  refine list_nil_seq ?_
  refine wp_ret ?_
  refine pop_then_ret ?_
  refine St.retC 0 hS (vb true) [] trivial fun hw => ?_
  refine ⟨retd rfl, hw.fr0⟩

set_option maxRecDepth 100000 in
set_option maxHeartbeats 1000000 in
theorem law04_ViewPlays_b (pa : Int) (pz : Int) (ao9 : Option Addr) (c9 : Nat) (g9 : Nat) (o9 : Nat) (l : List (Int × Int × Int × Int × Int × ByteArray)) (w : World) (hh0 : HE.holds w 0 (.fn 0 64 dbT)) (hh1 : HE.holds w g9 (.fn o9 (o9 + l.length * 6) (a3V (gtD l) o9))) (hv9 : (l.length = 0 ∨ ao9 = some ⟨g9, o9, none⟩)) (hAl : ∀ i, i < l.length → rg_a3V (gtD l i)) (hv : thr (comM (AM.new 4) 0 4) pa pz = true) :
    Calls Tryd.prog 4 #[vi pa, vi pz, .slice ao9 l.length c9] w fun e w' => e = .returned (vb true) ∧ Fr w w' no no := by
 refine enter (args := [vi pa, vi pz, .slice ao9 l.length c9]) (D := no) (A := []) Tryd.func4 rfl 124 rfl [(0, .fn 0 64 dbT), (g9, .fn o9 (o9 + l.length * 6) (a3V (gtD l) o9))] (WS.startL ⟨⟨rfl, hh0⟩, ⟨rfl, hh1⟩, trivial⟩) fun ac hS => ?_
 refine hS.regS [0] [0, 1, 2] fun _ => seg [] [(0, none), (1, none)] [] trivial fun ac wd hS => ?_
 refine wp_seq ?_
 refine wp_region_seq ?_
 refine hS.call0 20 #[] 14 (law04_awake  _ (hS.mem.get 0 0 (.fn 0 64 dbT)) ) fun ac wd hS => ?_
 refine hS.opsC 1 [0] [0, 1, 2] fun _ => seg [(15, vb false)] [(0, none), (1, none)] [] trivial fun ac wd hS => ?_
 refine list_nil_seq ?_
 refine hS.condF ?_
 refine wp_skip ?_
 refine pop_then ?_
 refine wp_seq ?_
 refine wp_region_seq ?_
 refine hS.opsC 1 [0] [0, 1, 2] fun _ => seg [(16, .slice ao9 l.length c9)] [(0, none), (1, none)] [] trivial fun ac wd hS => ?_
 refine hS.callC 8 #[.slice ao9 l.length c9] (law03_LightR ao9 c9 g9 o9 l _ (hS.mem.get 1 g9 (.fn o9 (o9 + l.length * 6) (a3V (gtD l) o9))) hv9) ?_
 rintro _ wd ⟨r21, rfl, hL2, hF⟩
 refine ⟨vb r21, rfl, ?_⟩
 replace hS := (hS.to (hS.mem.keep0 hF)).put (d := 17) (v := vb r21) (by decide)
 clear hF
 have hLg0 := hL2
 refine hS.opsC 1 [0] [0, 1, 2] fun _ => seg [(18, vb (!r21))] [(0, none), (1, none)] [] trivial fun ac wd hS => ?_
 refine list_nil_seq ?_
 refine hS.condC (!r21) (fun hb3o hb3 => ?_) (fun hb3o hb3 => ?_)
 ·
  refine hS.regS [0] [] fun _ => seg [(6, vb true)] [(0, none)] [] trivial fun ac wd hS => ?_
  refine wp_ret ?_
  refine pop_then_ret ?_
  refine St.retC 0 hS (vb true) [] trivial fun hw => ?_
  refine ⟨retd rfl, hw.fr0⟩
 ·
  have hLg := hLg0 (by first | exact hb3 | exact (hb3).1 | (have h9_ := hb3; simp at h9_; exact h9_))
  refine wp_skip ?_
  refine pop_then ?_
  refine wp_region_seq ?_
  refine hS.callC 9 #[vi 4] (ar_New 4 _  ) ?_
  rintro _ wd ⟨b'4, F5, rfl, hN, hF⟩
  refine ⟨pt b'4 0, rfl, ?_⟩
  replace hS := (hS.to (hS.mem.newA hN hF)).put (d := 19) (v := pt b'4 0) (by decide)
  clear hF
  refine hS.callC 10 #[vi 4] (ref03_New 4 _  ) ?_
  rintro _ wd ⟨g26, rfl, hog0, hoh0, hF⟩
  have ho7 : w.heap.size ≤ g26 := Nat.le_trans hS.mem.fr.size hog0
  refine ⟨.agg #[sc g26 0 4 4, vi (-1)], rfl, ?_⟩
  replace hS := (hS.to (hS.mem.outs hF [(g26, .fn 0 4 (strs (fun _ => ⟨#[]⟩) 0))] ⟨⟨rfl, hoh0, .inr hog0⟩, trivial⟩)).put (d := 20) (v := .agg #[sc g26 0 4 4, vi (-1)]) (by decide)
  clear hF
  refine hS.opsC 3 [0, 0, 300] [0, 1, 2] fun ν6 => seg [(7, pt b'4 0), (8, pt (ν6 0) 0)] [(0, none), (1, none), (2, none), (3, some ((ν6 0), .cells [sc g26 0 4 4, vi (-1)] 30))] [.e (ν6 0), .e (ν6 0)] trivial fun ac wd hS => ?_
  refine list_nil_seq ?_
  refine wp_seq ?_
  replace hS := hS.to (hS.mem.tellF (b := g26) (lo := 0) (hi := 4) (f := (strs (fun _ => ⟨#[]⟩) 0)) 2 4 (strs (pgS (AM.new 4)) 0) rfl (fun x_ _ _ => rfl))
  refine wp_region_seq ?_
  refine hS.opsC 1 [0] [0, 1, 2, 7, 8] fun _ => seg [(21, pt b'4 0)] [(0, none), (1, none), (2, none), (3, none)] [] trivial fun ac wd hS => ?_
  refine hS.callC 21 #[pt b'4 0, vi 0, vi 4] (ar_Commit b'4 F5 (AM.new 4) 0 4 _ (hS.mem.res 0) ) ?_
  rintro _ wd ⟨F8, rfl, hA, hF⟩
  refine ⟨vi (comE (AM.new 4) 0 4), rfl, ?_⟩
  replace hS := (hS.to (hS.mem.stepA 0 rfl hA hF)).put (d := 22) (v := vi (comE (AM.new 4) 0 4)) (by decide)
  clear hF
  refine hS.opsC 1 [0] [0, 1, 2, 7, 8] fun _ => seg [(23, vb (((comE (AM.new 4) 0 4) : Int) != 0))] [(0, none), (1, none), (2, none), (3, none)] [] trivial fun ac wd hS => ?_
  refine list_nil_seq ?_
  refine hS.condK (((comE (AM.new 4) 0 4) : Int) != 0) false (by decide +kernel) ?_
  show Code.wp _ _ _ _ _
  refine wp_skip ?_
  refine pop_then ?_
  refine wp_region_seq ?_
  refine hS.opsC 1 [300] [0, 1, 2, 7, 8] fun _ => seg [(25, .agg #[sc g26 0 4 4, vi (-1)])] [(0, none), (1, none), (2, none), (3, none)] [.e (ν6 0), .e (ν6 0)] trivial fun ac wd hS => ?_
  refine hS.callC 22 #[.agg #[sc g26 0 4 4, vi (-1)], vi 0, vi 4] (ref03_CommitM g26 0 4 4 (-1) 0 4 (AM.new 4) _ (hS.mem.get 2 g26 (.fn 0 4 (strs (pgS (AM.new 4)) 0))) (by first | rfl | decide | omega) (by first | rfl | decide | omega) (by first | rfl | decide | omega) (by first | rfl | decide | omega)) ?_
  rintro _ wd ⟨g29, u210, cp211, rfl, hog0, hoh0, hF⟩
  have ho12 : w.heap.size ≤ g29 := by rcases hog0 with hx | hx; rw [hx]; exact ho7; exact Nat.le_trans hS.mem.fr.size hx
  refine ⟨.tuple #[.agg #[sc g29 u210 4 cp211, vi (rfA (comM (AM.new 4) 0 4))], vi (comE (AM.new 4) 0 4)], rfl, ?_⟩
  replace hS := (hS.to (hS.mem.outs hF [(g29, .fn u210 (u210 + 4) (strs (pgS (comM (AM.new 4) 0 4)) u210))] ⟨⟨rfl, hoh0, hog0.imp (fun e => ⟨2, .fn 0 4 (strs (pgS (AM.new 4)) 0), by rw [e]; rfl, rfl⟩) id⟩, trivial⟩)).put (d := 26) (v := .tuple #[.agg #[sc g29 u210 4 cp211, vi (rfA (comM (AM.new 4) 0 4))], vi (comE (AM.new 4) 0 4)]) (by decide)
  clear hF
  refine hS.opsC 4 [0, 0, 0, 300] [0, 1, 2, 7, 8] fun _ => seg [] [(0, none), (1, none), (3, some ((ν6 0), .cells [sc g29 u210 4 cp211, vi (rfA (comM (AM.new 4) 0 4))] 30)), (4, none)] [.e (ν6 0), .e (ν6 0)] trivial fun ac wd hS => ?_
  refine list_nil_seq ?_
  obtain ⟨M, M_e⟩ : ∃ q_ : AM, q_ = (comM (AM.new 4) 0 4) := ⟨_, rfl⟩
  replace hS := hS.to (hS.mem.arTell (b := b'4) (F := F8) (m := (comM (AM.new 4) 0 4)) (m' := M) 0 M_e.symm)
  have hmc : M.cap = 4 := by rw [M_e]; decide +kernel
  rw [← M_e] at hv
  replace hS := hS.to (hS.mem.tellF (b := g29) (lo := u210) (hi := (u210 + 4)) (f := (strs (pgS (comM (AM.new 4) 0 4)) u210)) 3 (u210 + 4) (strs (pgS M) u210) rfl (fun x_ _ _ => by rw [M_e]))
  clear M_e
  refine wp_region_seq ?_
  refine hS.opsC 3 [0, 0, 0] [0, 1, 2, 7, 8] fun _ => seg [(30, pt b'4 0), (31, vi pa), (32, vi pz)] [(0, none), (1, none), (2, none), (3, none)] [] trivial fun ac wd hS => ?_
  refine hS.call0 23 #[pt b'4 0, vi pa, vi pz] 33 (vw_Of b'4 F8 M pa pz _ (hS.mem.res 0) (by exact hv)) fun ac wd hS => ?_
  refine hS.opsC 6 [0, 0, 0, 0, 400, 0] [0, 1, 2, 7, 8] fun ν12 => seg [(9, pt (ν12 0) 0), (10, vi 0)] [(0, none), (1, none), (2, none), (3, none), (4, some ((ν12 0), .cells [pt b'4 0, vi pa, vi pz] 55))] [.e (ν12 0), .e (ν12 0), .e (ν12 0)] trivial fun ac wd hS => ?_
  refine list_nil_seq ?_
  refine wp_seq ?_
  refine hS.regS [0, 0] [0, 1, 2, 7, 8, 9, 10] fun _ => seg [(37, vb false)] [(0, none), (1, none), (2, none), (3, none), (4, none)] [] trivial fun ac wd hS => ?_
  refine hS.condF ?_
  refine wp_skip ?_
  refine pop_then ?_
  refine wp_seq ?_
  refine wp_region_seq ?_
  refine hS.opsC 3 [200, 0, 0] [0, 1, 2, 7, 8, 9] fun _ => seg [(52, .agg #[sc g29 u210 4 cp211, vi (rfA (comM (AM.new 4) 0 4))]), (53, vi pa), (54, vi pz)] [(0, none), (1, none), (2, none), (3, none), (4, none)] [.e (ν6 0), .e (ν6 0)] trivial fun ac wd hS => ?_
  refine hS.call0 24 #[.agg #[sc g29 u210 4 cp211, vi (rfA (comM (AM.new 4) 0 4))], vi pa, vi pz] 55 (ref03_ThereM g29 u210 4 cp211 (rfA (comM (AM.new 4) 0 4)) pa pz M _ (hS.mem.get 3 g29 (.fn u210 (u210 + 4) (strs (pgS M) u210))) (by first | rfl | decide | omega) (by first | rfl | decide | omega)) fun ac wd hS => ?_
  refine hS.opsC 2 [0, 0] [0, 1, 2, 7, 8, 9] fun _ => seg [(57, vb (!(thr M pa pz)))] [(0, none), (1, none), (2, none), (3, none), (4, none)] [] trivial fun ac wd hS => ?_
  have hg13o : (!(thr M pa pz)) = false := by (rw [hv]; rfl)
  replace hS := hS.fix 57 (vb false) (congrArg Value.bool hg13o)
  refine hS.opsC 1 [401] [0, 1, 2, 7, 8, 9, 57] fun _ => seg [(58, .agg #[pt b'4 0, vi pa, vi pz])] [(0, none), (1, none), (2, none), (3, none), (4, none)] [.t false, .e (ν12 0), .e (ν12 0), .e (ν12 0)] trivial fun ac wd hS => ?_
  refine hS.callG false 26 #[.agg #[pt b'4 0, vi pa, vi pz]] (vw_At b'4 pa pz _  ) ?_
  rintro _ wd ⟨rfl, hF⟩
  refine ⟨vi pa, rfl, ?_⟩
  replace hS := (hS.to (hS.mem.keep0 hF)).put (d := 59) (v := vi pa) (by decide)
  clear hF
  refine hS.opsC 4 [1, fx 1 (vb false), 60, 0] [0, 1, 2, 7, 8, 9] fun _ => seg [(63, vb false)] [(0, none), (1, none), (2, none), (3, none), (4, none)] [.t false, .t false, .p ((vb ((pa : Int) != pa) : Value) = vb false), .t false] ⟨(congrArg Value.bool (bne_self_eq_false _)), trivial⟩ fun ac wd hS => ?_
  refine hS.opsC 1 [401] [0, 1, 2, 7, 8, 9, 63] fun _ => seg [(64, .agg #[pt b'4 0, vi pa, vi pz])] [(0, none), (1, none), (2, none), (3, none), (4, none)] [.t false, .e (ν12 0), .e (ν12 0), .e (ν12 0)] trivial fun ac wd hS => ?_
  refine hS.callG false 25 #[.agg #[pt b'4 0, vi pa, vi pz]] (vw_Size b'4 pa pz _  ) ?_
  rintro _ wd ⟨rfl, hF⟩
  refine ⟨vi pz, rfl, ?_⟩
  replace hS := (hS.to (hS.mem.keep0 hF)).put (d := 65) (v := vi pz) (by decide)
  clear hF
  refine hS.opsC 3 [1, fx 1 (vb false), 60] [0, 1, 2, 7, 8, 9] fun _ => seg [(68, vb false)] [(0, none), (1, none), (2, none), (3, none), (4, none)] [.t false, .t false, .p ((vb ((pz : Int) != pz) : Value) = vb false), .t false] ⟨(congrArg Value.bool (bne_self_eq_false _)), trivial⟩ fun ac wd hS => ?_
  refine list_nil_seq ?_
  refine hS.condF ?_
  refine wp_skip ?_
  refine pop_then ?_
  obtain ⟨hi1, hi2, hi3, hi4⟩ := inB_facts (thr_in hv)
  refine hS.regS [0, 400, 200, 0, 0, 0, 0, 0, 0] [2] fun ν20 => seg [(11, pt (ν20 0) 0)] [(0, none), (1, none), (3, none), (5, some ((ν20 0), .cells [pt b'4 0, pt b'4 0, vi pa, vi pz, sc g29 u210 4 cp211, vi (rfA (comM (AM.new 4) 0 4)), vi pa, vi pz] 63))] [.e (ν6 0), .e (ν6 0), .e (ν12 0), .e (ν12 0), .e (ν12 0)] trivial fun ac wd hS => ?_
  refine wp_seq ?_
  refine hS.regS [0, 0, 0] [11] fun _ => seg [(77, .slice ao9 l.length c9), (78, vi ((l.length : Nat) : Int)), (79, vi 0)] [(0, none), (1, none), (2, none), (3, none)] [] trivial fun ac wd hS => ?_
  refine wp_block ?_
  refine St.loopC (σ := Int × (Nat → Prop) × AM × Nat × Nat × Nat × Int × Int) (fun (x : Int × (Nat → Prop) × AM × Nat × Nat × Nat × Int × Int) => match x with | (x79, Fx, mx, gx, ux, cx, ox, zx) => ⟨[(11, [], pt (ν20 0) 0), (77, [], .slice ao9 l.length c9), (78, [], vi ((l.length : Nat) : Int)), (79, [], vi x79)], [(0, .fn 0 64 dbT), (g9, .fn o9 (o9 + l.length * 6) (a3V (gtD l) o9)), (gx, .fn ux (ux + 4) (strs (pgS mx) ux)), ((ν20 0), .cells [pt b'4 0, pt b'4 0, vi ox, vi zx, sc gx ux 4 cx, vi (rfA (comM (AM.new 4) 0 4)), vi ox, vi zx] 63)], [arR b'4 Fx mx], (0 ≤ x79 ∧ x79 ≤ ((l.length : Nat) : Int)) ∧ (mx.cap = 4) ∧ (0 ≤ ox ∧ 0 ≤ zx ∧ ox + zx ≤ 4294967296) ∧ (w.heap.size ≤ gx) ∧ True, l.length - Int.toNat x79⟩) (0, F8, M, g29, u210, cp211, pa, pz) ⟨(by first | omega | assumption), (by first | omega | assumption), (by first | omega | assumption), (by first | omega | assumption), trivial⟩ hS ?_
  clear hS
  rintro ⟨x79, Fx, mx, gx, ux, cx, ox, zx⟩ ⟨i0, i1, i2, i3, -⟩ ac wd hS
  replace i0 : 0 ≤ x79 ∧ x79 ≤ ((l.length : Nat) : Int) := i0
  replace i1 : mx.cap = 4 := i1
  replace i2 : 0 ≤ ox ∧ 0 ≤ zx ∧ ox + zx ≤ 4294967296 := i2
  replace i3 : w.heap.size ≤ gx := i3
  refine hS.regS [0] [11, 77, 78, 79] fun _ => seg [(80, vb (decide ((x79 : Int) < ((l.length : Nat) : Int))))] [(0, none), (1, none), (2, none), (3, none)] [] trivial fun ac wd hS => ?_
  refine wp_seq ?_
  refine hS.condC (decide ((x79 : Int) < ((l.length : Nat) : Int))) (fun hb14o hb14 => ?_) (fun hb14o hb14 => ?_)
  ·
   refine wp_skip ?_
   refine pop_then ?_
   refine wp_seq ?_
   refine wp_block ?_
   obtain rfl : ao9 = some ⟨g9, o9, none⟩ := Or.resolve_left hv9 (by omega)
   refine hS.regS [20, fx 100 (.agg #[v8 (((gtD l) (Int.toNat x79)).1), vi (((gtD l) (Int.toNat x79)).2.1), vi (((gtD l) (Int.toNat x79)).2.2.1), vi (((gtD l) (Int.toNat x79)).2.2.2.1), vu (((gtD l) (Int.toNat x79)).2.2.2.2.1), .string (((gtD l) (Int.toNat x79)).2.2.2.2.2)]), 0, 400] [11, 77, 78, 79] fun ν23 => seg [(13, pt (ν23 0) 0)] [(0, none), (1, none), (2, none), (3, none), (4, some ((ν23 0), .cells [v8 (((gtD l) (Int.toNat x79)).1), vi (((gtD l) (Int.toNat x79)).2.1), vi (((gtD l) (Int.toNat x79)).2.2.1), vi (((gtD l) (Int.toNat x79)).2.2.2.1), vu (((gtD l) (Int.toNat x79)).2.2.2.2.1), .string (((gtD l) (Int.toNat x79)).2.2.2.2.2)] 36))] [.e (ν23 0), .e (ν23 0), .e (ν23 0), .e (ν23 0), .e (ν23 0), .e (ν23 0), .p ((.agg #[((a3V (gtD l) o9) (o9 + Int.toNat x79 * 6)), ((a3V (gtD l) o9) (o9 + Int.toNat x79 * 6 + 1)), ((a3V (gtD l) o9) (o9 + Int.toNat x79 * 6 + 2)), ((a3V (gtD l) o9) (o9 + Int.toNat x79 * 6 + 3)), ((a3V (gtD l) o9) (o9 + Int.toNat x79 * 6 + 4)), ((a3V (gtD l) o9) (o9 + Int.toNat x79 * 6 + 5))] : Value) = .agg #[v8 (((gtD l) (Int.toNat x79)).1), vi (((gtD l) (Int.toNat x79)).2.1), vi (((gtD l) (Int.toNat x79)).2.2.1), vi (((gtD l) (Int.toNat x79)).2.2.2.1), vu (((gtD l) (Int.toNat x79)).2.2.2.2.1), .string (((gtD l) (Int.toNat x79)).2.2.2.2.2)]), .e g9, .p (o9 ≤ o9 + Int.toNat x79 * 6 + 5 ∧ o9 + Int.toNat x79 * 6 + 5 < (o9 + l.length * 6)), .e g9, .p (o9 ≤ o9 + Int.toNat x79 * 6 + 4 ∧ o9 + Int.toNat x79 * 6 + 4 < (o9 + l.length * 6)), .e g9, .p (o9 ≤ o9 + Int.toNat x79 * 6 + 3 ∧ o9 + Int.toNat x79 * 6 + 3 < (o9 + l.length * 6)), .e g9, .p (o9 ≤ o9 + Int.toNat x79 * 6 + 2 ∧ o9 + Int.toNat x79 * 6 + 2 < (o9 + l.length * 6)), .e g9, .p (o9 ≤ o9 + Int.toNat x79 * 6 + 1 ∧ o9 + Int.toNat x79 * 6 + 1 < (o9 + l.length * 6)), .e g9, .p (o9 ≤ o9 + Int.toNat x79 * 6 ∧ o9 + Int.toNat x79 * 6 < (o9 + l.length * 6)), .p ((0 : Int) ≤ x79 ∧ (x79 : Int) < ((l.length : Nat) : Int))] ⟨(agg6 (a3V_0 (gtD l) o9 (Int.toNat x79)) (a3V_1 (gtD l) o9 (Int.toNat x79)) (a3V_2 (gtD l) o9 (Int.toNat x79)) (a3V_3 (gtD l) o9 (Int.toNat x79)) (a3V_4 (gtD l) o9 (Int.toNat x79)) (a3V_5 (gtD l) o9 (Int.toNat x79))), (by omega), (by omega), (by omega), (by omega), (by omega), (by omega), (by omega), trivial⟩ fun ac wd hS => ?_
   obtain ⟨kd, kd_e⟩ : ∃ q_ : Int, q_ = ((gtD l) (Int.toNat x79)).1 := ⟨_, rfl⟩
   obtain ⟨ka, ka_e⟩ : ∃ q_ : Int, q_ = ((gtD l) (Int.toNat x79)).2.1 := ⟨_, rfl⟩
   obtain ⟨kf, kf_e⟩ : ∃ q_ : Int, q_ = ((gtD l) (Int.toNat x79)).2.2.1 := ⟨_, rfl⟩
   obtain ⟨kn, kn_e⟩ : ∃ q_ : Int, q_ = ((gtD l) (Int.toNat x79)).2.2.2.1 := ⟨_, rfl⟩
   obtain ⟨kx, kx_e⟩ : ∃ q_ : Int, q_ = ((gtD l) (Int.toNat x79)).2.2.2.2.1 := ⟨_, rfl⟩
   obtain ⟨ks, ks_e⟩ : ∃ q_ : ByteArray, q_ = ((gtD l) (Int.toNat x79)).2.2.2.2.2 := ⟨_, rfl⟩
   replace hS := hS.to (hS.mem.tell 4 (b := (ν23 0)) (x := (.cells [v8 (((gtD l) (Int.toNat x79)).1), vi (((gtD l) (Int.toNat x79)).2.1), vi (((gtD l) (Int.toNat x79)).2.2.1), vi (((gtD l) (Int.toNat x79)).2.2.2.1), vu (((gtD l) (Int.toNat x79)).2.2.2.2.1), .string (((gtD l) (Int.toNat x79)).2.2.2.2.2)] 36)) (.cells [v8 kd, vi ka, vi kf, vi kn, vu kx, .string ks] 36) (hh := fun h_ => by rw [kd_e, ka_e, kf_e, kn_e, kx_e, ks_e]; exact h_))
   have hac := hAl _ (show Int.toNat x79 < l.length by omega)
   have hsz6 := hLg.2 _ (show Int.toNat x79 < l.length by omega)
   unfold rg_a3V at hac
   rw [← kd_e, ← ka_e, ← kf_e, ← kn_e, ← kx_e] at hac
   rw [← ks_e] at hsz6
   clear kd_e ka_e kf_e kn_e kx_e ks_e
   obtain ⟨hac1, hac2, hac3, hac4, hac5, _⟩ := hac
   refine St.ordBeginTS [(0, 1), (1, 1), (2, 0), (3, 1), (4, 1), (5, 1), (6, 1), (7, 1), (10, 1), (11, 1), (12, 1), (8, 0), (9, 0), (13, 0), (14, 0), (15, 1), (16, 1), (17, 1), (18, 1), (19, 1), (20, 1), (21, 1), (24, 1), (25, 1), (26, 1), (22, 0), (23, 0), (27, 0), (28, 0), (29, 1), (30, 1), (31, 1), (32, 1), (33, 1), (34, 1), (35, 1), (36, 0), (37, 0), (38, 1), (39, 1)] (.two [(0, 1), (1, 1), (2, 0), (3, 1), (4, 1), (5, 1), (6, 1), (7, 1), (10, 1), (11, 1), (12, 1)] 8 (.two [] 9 (.two [(13, 0), (14, 0), (15, 1), (16, 1), (17, 1), (18, 1), (19, 1), (20, 1), (21, 1), (24, 1), (25, 1), (26, 1)] 22 (.two [] 23 (.lin [(27, 0), (28, 0), (29, 1), (30, 1), (31, 1), (32, 1), (33, 1), (34, 1), (35, 1), (36, 0), (37, 0), (38, 1), (39, 1)]) 27 (.lin [(23, 0), (28, 0), (29, 1), (30, 1), (31, 1), (32, 1), (33, 1), (34, 1), (35, 1), (36, 0), (37, 0), (38, 1), (39, 1)])) 27 (.lin [(22, 0), (23, 0), (28, 0), (29, 1), (30, 1), (31, 1), (32, 1), (33, 1), (34, 1), (35, 1), (36, 0), (37, 0), (38, 1), (39, 1)])) 13 (.two [(9, 0), (14, 0), (15, 1), (16, 1), (17, 1), (18, 1), (19, 1), (20, 1), (21, 1), (24, 1), (25, 1), (26, 1)] 22 (.two [] 23 (.lin [(27, 0), (28, 0), (29, 1), (30, 1), (31, 1), (32, 1), (33, 1), (34, 1), (35, 1), (36, 0), (37, 0), (38, 1), (39, 1)]) 27 (.lin [(23, 0), (28, 0), (29, 1), (30, 1), (31, 1), (32, 1), (33, 1), (34, 1), (35, 1), (36, 0), (37, 0), (38, 1), (39, 1)])) 27 (.lin [(22, 0), (23, 0), (28, 0), (29, 1), (30, 1), (31, 1), (32, 1), (33, 1), (34, 1), (35, 1), (36, 0), (37, 0), (38, 1), (39, 1)]))) 13 (.two [(8, 0), (9, 0), (14, 0), (15, 1), (16, 1), (17, 1), (18, 1), (19, 1), (20, 1), (21, 1), (24, 1), (25, 1), (26, 1)] 22 (.two [] 23 (.lin [(27, 0), (28, 0), (29, 1), (30, 1), (31, 1), (32, 1), (33, 1), (34, 1), (35, 1), (36, 0), (37, 0), (38, 1), (39, 1)]) 27 (.lin [(23, 0), (28, 0), (29, 1), (30, 1), (31, 1), (32, 1), (33, 1), (34, 1), (35, 1), (36, 0), (37, 0), (38, 1), (39, 1)])) 27 (.lin [(22, 0), (23, 0), (28, 0), (29, 1), (30, 1), (31, 1), (32, 1), (33, 1), (34, 1), (35, 1), (36, 0), (37, 0), (38, 1), (39, 1)]))) [(0, .fn 0 64 dbT), (g9, .fn o9 (o9 + l.length * 6) (a3V (gtD l) o9)), (gx, .fn ux (ux + 4) (strs (pgS mx) ux)), ((ν23 0), .cells [v8 kd, vi ka, vi kf, vi kn, vu kx, .string ks] 36)] [0, 1, 2, 4] hS fun wd hS => ?_
   have hap := hS.mem.pairs (Hf := [(0, .fn 0 64 dbT), (g9, .fn o9 (o9 + l.length * 6) (a3V (gtD l) o9)), (gx, .fn ux (ux + 4) (strs (pgS mx) ux)), ((ν23 0), .cells [v8 kd, vi ka, vi kf, vi kn, vu kx, .string ks] 36)]) (l := [0, 1, 2, 4])
   refine wpT_two ?_
   refine St.ordF [0, 300] [0, 1] [11, 77, 78, 79] (rest := [(2, 0), (3, 1), (4, 1), (5, 1), (6, 1), (7, 1), (10, 1), (11, 1), (12, 1)]) hS hap <| segF [(83, pt (ν20 0) 0), (84, .agg #[v8 kd, vi ka, vi kf, vi kn, vu kx, .string ks])] [.e (ν23 0), .e (ν23 0), .e (ν23 0), .e (ν23 0), .e (ν23 0), .e (ν23 0)] trivial fun ac hS => ?_
   refine hS.ordC 2 27 #[pt (ν20 0) 0, .agg #[v8 kd, vi ka, vi kf, vi kn, vu kx, .string ks]] (law04_do b'4 Fx mx (ν20 0) kd ka kf kn kx ks ox zx gx ux 4 cx (rfA (comM (AM.new 4) 0 4)) _ (hS.mem.res 0) (hS.mem.get 3 (ν20 0) (.cells [pt b'4 0, pt b'4 0, vi ox, vi zx, sc gx ux 4 cx, vi (rfA (comM (AM.new 4) 0 4)), vi ox, vi zx] 63)) (hS.mem.get 2 gx (.fn ux (ux + 4) (strs (pgS mx) ux))) (hS.mem.nF (g := gx) (r := arR b'4 Fx mx) 2 0) (hS.mem.nF (g := (ν20 0)) (r := arR b'4 Fx mx) 3 0) (hS.mem.neq 2 3) (by exact i2) (by exact i1) (by decide) (by exact ⟨hac1, hac2, hac3, hac4, hac5, hsz6⟩)) ?_
   rintro _ wd ⟨m215, o216, z217, g218, u219, cp220, F21, rfl, hV22, hA, hWn, hM, hog0, hoh0, hnf0, hF⟩
   have ho23 : w.heap.size ≤ g218 := by rcases hog0 with hx | hx; rw [hx]; exact i3; exact Nat.le_trans hS.mem.fr.size hx
   refine ⟨vb true, rfl, ?_⟩
   replace hS := (hS.to (hS.mem.outAM 0 3 rfl hA (show _ = some ((ν20 0), .cells [pt b'4 0, pt b'4 0, vi ox, vi zx, sc gx ux 4 cx, vi (rfA (comM (AM.new 4) 0 4)), vi ox, vi zx] 63) by as_aux_lemma => kernel_rfl) rfl rfl hM hWn hF (g := g218) (z := .fn u219 (u219 + 4) (strs (pgS m215) u219)) rfl hoh0 (hog0.imp (fun e => ⟨2, .fn ux (ux + 4) (strs (pgS mx) ux), by rw [e]; rfl, rfl⟩) id) hnf0)).put (d := 85) (v := vb true) (by decide)
   clear hF
   obtain ⟨hV1, hV2, hV3, hV4⟩ := hV22
   refine hS.ordV (l := [0, 1, 2, 4]) ?_
   refine St.ordF [0, 0] [3, 4] [11, 77, 78, 79] (rest := [(5, 1), (6, 1), (7, 1), (10, 1), (11, 1), (12, 1)]) hS hap <| segF [(87, vb false)] [] trivial fun ac hS => ?_
   refine St.ordF [1, 1, 1, 1, 1, 1] [5, 6, 7, 10, 11, 12] [11, 77, 78, 79, 87] (rest := []) hS hap <| segF [(90, pt (ν20 0) 0), (95, pt (ν20 0) 4)] [.t false, .t false, .t false, .t false, .t false, .t false] trivial fun ac hS => ?_
   refine ord_nil ?_
   refine ⟨?_, ?_⟩
   ·
    refine St.ord1 8 [301] [11, 77, 78, 79, 87, 95] [0, 1, 2, 4] hS rfl fun _ => seg [(91, pt b'4 0)] [(0, none), (1, none), (2, none), (3, none), (4, none), (5, none)] [.t false, .e (ν20 0)] trivial ⟨by as_aux_lemma => kernel_rfl, fun ac wd hS => ?_⟩
    refine ord_nil ?_
    refine wpT_two ?_
    refine ord_nil ?_
    refine ⟨?_, ?_⟩
    ·
     refine hS.ordCG 9 false 15 #[pt b'4 0] (l03_Of b'4 F21 m215 _ (hS.mem.res 0) ) ?_
     rintro _ wd ⟨g224, rfl, hog0, hoh0, hF⟩
     have ho25 : w.heap.size ≤ g224 := Nat.le_trans hS.mem.fr.size hog0
     refine ⟨.agg #[sc g224 0 m215.cap m215.cap, vi (-1)], rfl, ?_⟩
     replace hS := (hS.to (hS.mem.outs hF [(g224, .fn 0 (0 + m215.cap) (strs (pgS m215) 0))] ⟨⟨rfl, hoh0, .inr hog0⟩, trivial⟩)).put (d := 92) (v := .agg #[sc g224 0 m215.cap m215.cap, vi (-1)]) (by decide)
     clear hF
     refine hS.ordV (l := [0, 1, 2, 4]) ?_
     refine ord_nil ?_
     refine wpT_two ?_
     refine St.ord1 13 [301] [11, 77, 78, 79, 87, 92] [0, 1, 2, 4] hS rfl fun _ => seg [(96, .agg #[sc g218 u219 4 cp220, vi (rfA (comM (AM.new 4) 0 4))])] [(0, none), (1, none), (2, none), (3, none), (4, none), (5, none), (6, none)] [.t false, .e (ν20 0), .e (ν20 0)] trivial ⟨by as_aux_lemma => kernel_rfl, fun ac wd hS => ?_⟩
     refine hS.ordCG 14 false 14 #[.agg #[sc g224 0 m215.cap m215.cap, vi (-1)], .agg #[sc g218 u219 4 cp220, vi (rfA (comM (AM.new 4) 0 4))]] (ref03_Same g224 0 m215.cap m215.cap (-1) g218 u219 4 cp220 (rfA (comM (AM.new 4) 0 4)) (pgS m215) (pgS m215) _ (hS.mem.get 6 g224 (.fn 0 (0 + m215.cap) (strs (pgS m215) 0))) (hS.mem.get 5 g218 (.fn u219 (u219 + 4) (strs (pgS m215) u219))) (by first | assumption | omega | (simp_all; done) | (simp_all; omega)) (by first | assumption | omega | (simp_all; done) | (simp_all; omega))) ?_
     rintro _ wd ⟨rfl, hF⟩
     refine ⟨vb (sameA (pgS m215) (pgS m215) m215.cap 4), rfl, ?_⟩
     replace hS := (hS.to (hS.mem.keep0 hF)).put (d := 97) (v := vb (sameA (pgS m215) (pgS m215) m215.cap 4)) (by decide)
     clear hF
     refine hS.ordV (l := [0, 1, 2, 4]) ?_
     refine St.ordF [1, 60, 0] [15, 16, 17] [11, 77, 78, 79] (rest := [(18, 1), (19, 1), (20, 1), (21, 1), (24, 1), (25, 1), (26, 1)]) hS hap <| segF [(100, vb (!(sameA (pgS m215) (pgS m215) m215.cap 4)))] [.t false, .t false] trivial fun ac hS => ?_
     have hk26 : (!(sameA (pgS m215) (pgS m215) m215.cap 4)) = false := by (rw [sameA_self _ (by omega)]; rfl)
     replace hS := hS.fix 100 (vb false) (congrArg Value.bool hk26)
     refine St.ordF [1, 1, 1, 1, 1, 1, 1] [18, 19, 20, 21, 24, 25, 26] [11, 77, 78, 79, 100] (rest := []) hS hap <| segF [(104, pt (ν20 0) 1), (109, pt (ν20 0) 0)] [.t false, .t false, .t false, .t false, .t false, .t false, .t false] trivial fun ac hS => ?_
     refine ord_nil ?_
     refine ⟨?_, ?_⟩
     ·
      refine St.ord1 22 [301] [11, 77, 78, 79, 100, 109] [0, 1, 2, 4] hS rfl fun _ => seg [(105, pt b'4 0)] [(0, none), (1, none), (2, none), (3, none), (4, none), (5, none), (6, none)] [.t false, .e (ν20 0)] trivial ⟨by as_aux_lemma => kernel_rfl, fun ac wd hS => ?_⟩
      refine ord_nil ?_
      refine wpT_two ?_
      refine ord_nil ?_
      refine ⟨?_, ?_⟩
      ·
       refine hS.ordCG 23 false 12 #[pt b'4 0] (ar_Committed b'4 F21 m215 _ (hS.mem.res 0) ) ?_
       rintro _ wd ⟨rfl, hF⟩
       refine ⟨vi ((countTo m215.com m215.cap : Nat) : Int), rfl, ?_⟩
       replace hS := (hS.to (hS.mem.keep0 hF)).put (d := 106) (v := vi ((countTo m215.com m215.cap : Nat) : Int)) (by decide)
       clear hF
       refine hS.ordV (l := [0, 1, 2, 4]) ?_
       refine ord_nil ?_
       refine wpT_lin ?_
       refine St.ord1 27 [301] [11, 77, 78, 79, 100, 106] [0, 1, 2, 4] hS rfl fun _ => seg [(110, pt b'4 0)] [(0, none), (1, none), (2, none), (3, none), (4, none), (5, none), (6, none)] [.t false, .e (ν20 0)] trivial ⟨by as_aux_lemma => kernel_rfl, fun ac wd hS => ?_⟩
       refine hS.ordCG 28 false 12 #[pt b'4 0] (ar_Committed b'4 F21 m215 _ (hS.mem.res 0) ) ?_
       rintro _ wd ⟨rfl, hF⟩
       refine ⟨vi ((countTo m215.com m215.cap : Nat) : Int), rfl, ?_⟩
       replace hS := (hS.to (hS.mem.keep0 hF)).put (d := 111) (v := vi ((countTo m215.com m215.cap : Nat) : Int)) (by decide)
       clear hF
       refine hS.ordV (l := [0, 1, 2, 4]) ?_
       refine St.ordF [fx 1 (vb false), 60, 0] [29, 30, 31] [11, 77, 78, 79] (rest := [(32, 1), (33, 1), (34, 1), (35, 1), (36, 0), (37, 0), (38, 1), (39, 1)]) hS hap <| segF [(114, vb false)] [.t false, .t false, .p ((vb ((((countTo m215.com m215.cap : Nat) : Int) : Int) != ((countTo m215.com m215.cap : Nat) : Int)) : Value) = vb false)] ⟨(congrArg Value.bool (bne_self_eq_false _)), trivial⟩ fun ac hS => ?_
       refine St.ordF [1, 1, 1, 1] [32, 33, 34, 35] [11, 77, 78, 79, 114] (rest := [(36, 0), (37, 0), (38, 1), (39, 1)]) hS hap <| segF [(118, pt (ν20 0) 1)] [.t false, .t false, .t false, .t false] trivial fun ac hS => ?_
       refine St.ord1 36 [301] [11, 77, 78, 79, 114] [0, 1, 2, 4] hS rfl fun _ => seg [(119, pt b'4 0)] [(0, none), (1, none), (2, none), (3, none), (4, none), (5, none), (6, none)] [.t false, .e (ν20 0)] trivial ⟨by as_aux_lemma => kernel_rfl, fun ac wd hS => ?_⟩
       refine hS.ordCG 37 false 19 #[pt b'4 0] (ar_Cap b'4 F21 m215 _ (hS.mem.res 0) ) ?_
       rintro _ wd ⟨rfl, hF⟩
       refine ⟨vi ((m215.cap : Nat) : Int), rfl, ?_⟩
       replace hS := (hS.to (hS.mem.keep0 hF)).put (d := 120) (v := vi ((m215.cap : Nat) : Int)) (by decide)
       clear hF
       refine hS.ordV (l := [0, 1, 2, 4]) ?_
       refine St.ordF [fx 1 (vb false), 60] [38, 39] [11, 77, 78, 79] (rest := []) hS hap <| segF [(122, vb false)] [.t false, .t false, .p ((vb ((((m215.cap : Nat) : Int) : Int) != 4) : Value) = vb false)] ⟨(congrArg Value.bool (by exact bne_eq_false_iff_eq.2 (by omega))), trivial⟩ fun ac hS => ?_
       refine ord_nil ?_
       refine hS.condF ?_
       refine wp_skip ?_
       refine pop_block ?_
       refine pop_then ?_
       refine hS.regC [20, 0] [11, 77, 78] fun _ => seg [(79, vi (x79 + 1))] [(0, none), (1, none), (3, none), (5, none)] [.p (fit .i64 (x79 + 1))] ⟨fit_i64 (by omega), trivial⟩ fun ac wd hS => ?_
       replace hS := hS.to (hS.mem.perm [0, 1, 3, 2] (H' := [(0, .fn 0 64 dbT), (g9, .fn o9 (o9 + l.length * 6) (a3V (gtD l) o9)), (g218, .fn u219 (u219 + 4) (strs (pgS m215) u219)), ((ν20 0), .cells [pt b'4 0, pt b'4 0, vi o216, vi z217, sc g218 u219 4 cp220, vi (rfA (comM (AM.new 4) 0 4)), vi o216, vi z217] 63)]) (by as_aux_lemma => kernel_rfl) (by decide))
       exact pop_then (hS.next ((x79 + 1), F21, m215, g218, u219, cp220, o216, z217) ⟨(by first | omega | assumption | (simp; done) | (simp; omega)), (by first | omega | assumption | (simp; done) | (simp; omega)), (by first | omega | assumption | (simp; done) | (simp; omega)), (by first | omega | assumption | (simp; done) | (simp; omega)), trivial⟩ (by dsimp only; omega))
      ·
       refine St.ord1 27 [301] [11, 77, 78, 79, 100, 105] [0, 1, 2, 4] hS rfl fun _ => seg [(110, pt b'4 0)] [(0, none), (1, none), (2, none), (3, none), (4, none), (5, none), (6, none)] [.t false, .e (ν20 0)] trivial ⟨by as_aux_lemma => kernel_rfl, fun ac wd hS => ?_⟩
       refine ord_nil ?_
       refine wpT_lin ?_
       refine hS.ordCG 23 false 12 #[pt b'4 0] (ar_Committed b'4 F21 m215 _ (hS.mem.res 0) ) ?_
       rintro _ wd ⟨rfl, hF⟩
       refine ⟨vi ((countTo m215.com m215.cap : Nat) : Int), rfl, ?_⟩
       replace hS := (hS.to (hS.mem.keep0 hF)).put (d := 106) (v := vi ((countTo m215.com m215.cap : Nat) : Int)) (by decide)
       clear hF
       refine hS.ordV (l := [0, 1, 2, 4]) ?_
       refine hS.ordCG 28 false 12 #[pt b'4 0] (ar_Committed b'4 F21 m215 _ (hS.mem.res 0) ) ?_
       rintro _ wd ⟨rfl, hF⟩
       refine ⟨vi ((countTo m215.com m215.cap : Nat) : Int), rfl, ?_⟩
       replace hS := (hS.to (hS.mem.keep0 hF)).put (d := 111) (v := vi ((countTo m215.com m215.cap : Nat) : Int)) (by decide)
       clear hF
       refine hS.ordV (l := [0, 1, 2, 4]) ?_
       refine St.ordF [fx 1 (vb false), 60, 0] [29, 30, 31] [11, 77, 78, 79] (rest := [(32, 1), (33, 1), (34, 1), (35, 1), (36, 0), (37, 0), (38, 1), (39, 1)]) hS hap <| segF [(114, vb false)] [.t false, .t false, .p ((vb ((((countTo m215.com m215.cap : Nat) : Int) : Int) != ((countTo m215.com m215.cap : Nat) : Int)) : Value) = vb false)] ⟨(congrArg Value.bool (bne_self_eq_false _)), trivial⟩ fun ac hS => ?_
       refine St.ordF [1, 1, 1, 1] [32, 33, 34, 35] [11, 77, 78, 79, 114] (rest := [(36, 0), (37, 0), (38, 1), (39, 1)]) hS hap <| segF [(118, pt (ν20 0) 1)] [.t false, .t false, .t false, .t false] trivial fun ac hS => ?_
       refine St.ord1 36 [301] [11, 77, 78, 79, 114] [0, 1, 2, 4] hS rfl fun _ => seg [(119, pt b'4 0)] [(0, none), (1, none), (2, none), (3, none), (4, none), (5, none), (6, none)] [.t false, .e (ν20 0)] trivial ⟨by as_aux_lemma => kernel_rfl, fun ac wd hS => ?_⟩
       refine hS.ordCG 37 false 19 #[pt b'4 0] (ar_Cap b'4 F21 m215 _ (hS.mem.res 0) ) ?_
       rintro _ wd ⟨rfl, hF⟩
       refine ⟨vi ((m215.cap : Nat) : Int), rfl, ?_⟩
       replace hS := (hS.to (hS.mem.keep0 hF)).put (d := 120) (v := vi ((m215.cap : Nat) : Int)) (by decide)
       clear hF
       refine hS.ordV (l := [0, 1, 2, 4]) ?_
       refine St.ordF [fx 1 (vb false), 60] [38, 39] [11, 77, 78, 79] (rest := []) hS hap <| segF [(122, vb false)] [.t false, .t false, .p ((vb ((((m215.cap : Nat) : Int) : Int) != 4) : Value) = vb false)] ⟨(congrArg Value.bool (by exact bne_eq_false_iff_eq.2 (by omega))), trivial⟩ fun ac hS => ?_
       refine ord_nil ?_
       refine hS.condF ?_
       refine wp_skip ?_
       refine pop_block ?_
       refine pop_then ?_
       refine hS.regC [20, 0] [11, 77, 78] fun _ => seg [(79, vi (x79 + 1))] [(0, none), (1, none), (3, none), (5, none)] [.p (fit .i64 (x79 + 1))] ⟨fit_i64 (by omega), trivial⟩ fun ac wd hS => ?_
       replace hS := hS.to (hS.mem.perm [0, 1, 3, 2] (H' := [(0, .fn 0 64 dbT), (g9, .fn o9 (o9 + l.length * 6) (a3V (gtD l) o9)), (g218, .fn u219 (u219 + 4) (strs (pgS m215) u219)), ((ν20 0), .cells [pt b'4 0, pt b'4 0, vi o216, vi z217, sc g218 u219 4 cp220, vi (rfA (comM (AM.new 4) 0 4)), vi o216, vi z217] 63)]) (by as_aux_lemma => kernel_rfl) (by decide))
       exact pop_then (hS.next ((x79 + 1), F21, m215, g218, u219, cp220, o216, z217) ⟨(by first | omega | assumption | (simp; done) | (simp; omega)), (by first | omega | assumption | (simp; done) | (simp; omega)), (by first | omega | assumption | (simp; done) | (simp; omega)), (by first | omega | assumption | (simp; done) | (simp; omega)), trivial⟩ (by dsimp only; omega))
     ·
      refine St.ord1 27 [301] [11, 77, 78, 79, 100, 104] [0, 1, 2, 4] hS rfl fun _ => seg [(110, pt b'4 0)] [(0, none), (1, none), (2, none), (3, none), (4, none), (5, none), (6, none)] [.t false, .e (ν20 0)] trivial ⟨by as_aux_lemma => kernel_rfl, fun ac wd hS => ?_⟩
      refine ord_nil ?_
      refine wpT_lin ?_
      refine St.ord1 22 [301] [11, 77, 78, 79, 100, 110] [0, 1, 2, 4] hS rfl fun _ => seg [(105, pt b'4 0)] [(0, none), (1, none), (2, none), (3, none), (4, none), (5, none), (6, none)] [.t false, .e (ν20 0)] trivial ⟨by as_aux_lemma => kernel_rfl, fun ac wd hS => ?_⟩
      refine hS.ordCG 23 false 12 #[pt b'4 0] (ar_Committed b'4 F21 m215 _ (hS.mem.res 0) ) ?_
      rintro _ wd ⟨rfl, hF⟩
      refine ⟨vi ((countTo m215.com m215.cap : Nat) : Int), rfl, ?_⟩
      replace hS := (hS.to (hS.mem.keep0 hF)).put (d := 106) (v := vi ((countTo m215.com m215.cap : Nat) : Int)) (by decide)
      clear hF
      refine hS.ordV (l := [0, 1, 2, 4]) ?_
      refine hS.ordCG 28 false 12 #[pt b'4 0] (ar_Committed b'4 F21 m215 _ (hS.mem.res 0) ) ?_
      rintro _ wd ⟨rfl, hF⟩
      refine ⟨vi ((countTo m215.com m215.cap : Nat) : Int), rfl, ?_⟩
      replace hS := (hS.to (hS.mem.keep0 hF)).put (d := 111) (v := vi ((countTo m215.com m215.cap : Nat) : Int)) (by decide)
      clear hF
      refine hS.ordV (l := [0, 1, 2, 4]) ?_
      refine St.ordF [fx 1 (vb false), 60, 0] [29, 30, 31] [11, 77, 78, 79] (rest := [(32, 1), (33, 1), (34, 1), (35, 1), (36, 0), (37, 0), (38, 1), (39, 1)]) hS hap <| segF [(114, vb false)] [.t false, .t false, .p ((vb ((((countTo m215.com m215.cap : Nat) : Int) : Int) != ((countTo m215.com m215.cap : Nat) : Int)) : Value) = vb false)] ⟨(congrArg Value.bool (bne_self_eq_false _)), trivial⟩ fun ac hS => ?_
      refine St.ordF [1, 1, 1, 1] [32, 33, 34, 35] [11, 77, 78, 79, 114] (rest := [(36, 0), (37, 0), (38, 1), (39, 1)]) hS hap <| segF [(118, pt (ν20 0) 1)] [.t false, .t false, .t false, .t false] trivial fun ac hS => ?_
      refine St.ord1 36 [301] [11, 77, 78, 79, 114] [0, 1, 2, 4] hS rfl fun _ => seg [(119, pt b'4 0)] [(0, none), (1, none), (2, none), (3, none), (4, none), (5, none), (6, none)] [.t false, .e (ν20 0)] trivial ⟨by as_aux_lemma => kernel_rfl, fun ac wd hS => ?_⟩
      refine hS.ordCG 37 false 19 #[pt b'4 0] (ar_Cap b'4 F21 m215 _ (hS.mem.res 0) ) ?_
      rintro _ wd ⟨rfl, hF⟩
      refine ⟨vi ((m215.cap : Nat) : Int), rfl, ?_⟩
      replace hS := (hS.to (hS.mem.keep0 hF)).put (d := 120) (v := vi ((m215.cap : Nat) : Int)) (by decide)
      clear hF
      refine hS.ordV (l := [0, 1, 2, 4]) ?_
      refine St.ordF [fx 1 (vb false), 60] [38, 39] [11, 77, 78, 79] (rest := []) hS hap <| segF [(122, vb false)] [.t false, .t false, .p ((vb ((((m215.cap : Nat) : Int) : Int) != 4) : Value) = vb false)] ⟨(congrArg Value.bool (by exact bne_eq_false_iff_eq.2 (by omega))), trivial⟩ fun ac hS => ?_
      refine ord_nil ?_
      refine hS.condF ?_
      refine wp_skip ?_
      refine pop_block ?_
      refine pop_then ?_
      refine hS.regC [20, 0] [11, 77, 78] fun _ => seg [(79, vi (x79 + 1))] [(0, none), (1, none), (3, none), (5, none)] [.p (fit .i64 (x79 + 1))] ⟨fit_i64 (by omega), trivial⟩ fun ac wd hS => ?_
      replace hS := hS.to (hS.mem.perm [0, 1, 3, 2] (H' := [(0, .fn 0 64 dbT), (g9, .fn o9 (o9 + l.length * 6) (a3V (gtD l) o9)), (g218, .fn u219 (u219 + 4) (strs (pgS m215) u219)), ((ν20 0), .cells [pt b'4 0, pt b'4 0, vi o216, vi z217, sc g218 u219 4 cp220, vi (rfA (comM (AM.new 4) 0 4)), vi o216, vi z217] 63)]) (by as_aux_lemma => kernel_rfl) (by decide))
      exact pop_then (hS.next ((x79 + 1), F21, m215, g218, u219, cp220, o216, z217) ⟨(by first | omega | assumption | (simp; done) | (simp; omega)), (by first | omega | assumption | (simp; done) | (simp; omega)), (by first | omega | assumption | (simp; done) | (simp; omega)), (by first | omega | assumption | (simp; done) | (simp; omega)), trivial⟩ (by dsimp only; omega))
    ·
     refine St.ord1 13 [301] [11, 77, 78, 79, 87, 91] [0, 1, 2, 4] hS rfl fun _ => seg [(96, .agg #[sc g218 u219 4 cp220, vi (rfA (comM (AM.new 4) 0 4))])] [(0, none), (1, none), (2, none), (3, none), (4, none), (5, none)] [.t false, .e (ν20 0), .e (ν20 0)] trivial ⟨by as_aux_lemma => kernel_rfl, fun ac wd hS => ?_⟩
     refine ord_nil ?_
     refine wpT_two ?_
     refine hS.ordCG 9 false 15 #[pt b'4 0] (l03_Of b'4 F21 m215 _ (hS.mem.res 0) ) ?_
     rintro _ wd ⟨g227, rfl, hog0, hoh0, hF⟩
     have ho28 : w.heap.size ≤ g227 := Nat.le_trans hS.mem.fr.size hog0
     refine ⟨.agg #[sc g227 0 m215.cap m215.cap, vi (-1)], rfl, ?_⟩
     replace hS := (hS.to (hS.mem.outs hF [(g227, .fn 0 (0 + m215.cap) (strs (pgS m215) 0))] ⟨⟨rfl, hoh0, .inr hog0⟩, trivial⟩)).put (d := 92) (v := .agg #[sc g227 0 m215.cap m215.cap, vi (-1)]) (by decide)
     clear hF
     refine hS.ordV (l := [0, 1, 2, 4]) ?_
     refine hS.ordCG 14 false 14 #[.agg #[sc g227 0 m215.cap m215.cap, vi (-1)], .agg #[sc g218 u219 4 cp220, vi (rfA (comM (AM.new 4) 0 4))]] (ref03_Same g227 0 m215.cap m215.cap (-1) g218 u219 4 cp220 (rfA (comM (AM.new 4) 0 4)) (pgS m215) (pgS m215) _ (hS.mem.get 6 g227 (.fn 0 (0 + m215.cap) (strs (pgS m215) 0))) (hS.mem.get 5 g218 (.fn u219 (u219 + 4) (strs (pgS m215) u219))) (by first | assumption | omega | (simp_all; done) | (simp_all; omega)) (by first | assumption | omega | (simp_all; done) | (simp_all; omega))) ?_
     rintro _ wd ⟨rfl, hF⟩
     refine ⟨vb (sameA (pgS m215) (pgS m215) m215.cap 4), rfl, ?_⟩
     replace hS := (hS.to (hS.mem.keep0 hF)).put (d := 97) (v := vb (sameA (pgS m215) (pgS m215) m215.cap 4)) (by decide)
     clear hF
     refine hS.ordV (l := [0, 1, 2, 4]) ?_
     refine St.ordF [1, 60, 0] [15, 16, 17] [11, 77, 78, 79] (rest := [(18, 1), (19, 1), (20, 1), (21, 1), (24, 1), (25, 1), (26, 1)]) hS hap <| segF [(100, vb (!(sameA (pgS m215) (pgS m215) m215.cap 4)))] [.t false, .t false] trivial fun ac hS => ?_
     have hk29 : (!(sameA (pgS m215) (pgS m215) m215.cap 4)) = false := by (rw [sameA_self _ (by omega)]; rfl)
     replace hS := hS.fix 100 (vb false) (congrArg Value.bool hk29)
     refine St.ordF [1, 1, 1, 1, 1, 1, 1] [18, 19, 20, 21, 24, 25, 26] [11, 77, 78, 79, 100] (rest := []) hS hap <| segF [(104, pt (ν20 0) 1), (109, pt (ν20 0) 0)] [.t false, .t false, .t false, .t false, .t false, .t false, .t false] trivial fun ac hS => ?_
     refine ord_nil ?_
     refine ⟨?_, ?_⟩
     ·
      refine St.ord1 22 [301] [11, 77, 78, 79, 100, 109] [0, 1, 2, 4] hS rfl fun _ => seg [(105, pt b'4 0)] [(0, none), (1, none), (2, none), (3, none), (4, none), (5, none), (6, none)] [.t false, .e (ν20 0)] trivial ⟨by as_aux_lemma => kernel_rfl, fun ac wd hS => ?_⟩
      refine ord_nil ?_
      refine wpT_two ?_
      refine ord_nil ?_
      refine ⟨?_, ?_⟩
      ·
       refine hS.ordCG 23 false 12 #[pt b'4 0] (ar_Committed b'4 F21 m215 _ (hS.mem.res 0) ) ?_
       rintro _ wd ⟨rfl, hF⟩
       refine ⟨vi ((countTo m215.com m215.cap : Nat) : Int), rfl, ?_⟩
       replace hS := (hS.to (hS.mem.keep0 hF)).put (d := 106) (v := vi ((countTo m215.com m215.cap : Nat) : Int)) (by decide)
       clear hF
       refine hS.ordV (l := [0, 1, 2, 4]) ?_
       refine ord_nil ?_
       refine wpT_lin ?_
       refine St.ord1 27 [301] [11, 77, 78, 79, 100, 106] [0, 1, 2, 4] hS rfl fun _ => seg [(110, pt b'4 0)] [(0, none), (1, none), (2, none), (3, none), (4, none), (5, none), (6, none)] [.t false, .e (ν20 0)] trivial ⟨by as_aux_lemma => kernel_rfl, fun ac wd hS => ?_⟩
       refine hS.ordCG 28 false 12 #[pt b'4 0] (ar_Committed b'4 F21 m215 _ (hS.mem.res 0) ) ?_
       rintro _ wd ⟨rfl, hF⟩
       refine ⟨vi ((countTo m215.com m215.cap : Nat) : Int), rfl, ?_⟩
       replace hS := (hS.to (hS.mem.keep0 hF)).put (d := 111) (v := vi ((countTo m215.com m215.cap : Nat) : Int)) (by decide)
       clear hF
       refine hS.ordV (l := [0, 1, 2, 4]) ?_
       refine St.ordF [fx 1 (vb false), 60, 0] [29, 30, 31] [11, 77, 78, 79] (rest := [(32, 1), (33, 1), (34, 1), (35, 1), (36, 0), (37, 0), (38, 1), (39, 1)]) hS hap <| segF [(114, vb false)] [.t false, .t false, .p ((vb ((((countTo m215.com m215.cap : Nat) : Int) : Int) != ((countTo m215.com m215.cap : Nat) : Int)) : Value) = vb false)] ⟨(congrArg Value.bool (bne_self_eq_false _)), trivial⟩ fun ac hS => ?_
       refine St.ordF [1, 1, 1, 1] [32, 33, 34, 35] [11, 77, 78, 79, 114] (rest := [(36, 0), (37, 0), (38, 1), (39, 1)]) hS hap <| segF [(118, pt (ν20 0) 1)] [.t false, .t false, .t false, .t false] trivial fun ac hS => ?_
       refine St.ord1 36 [301] [11, 77, 78, 79, 114] [0, 1, 2, 4] hS rfl fun _ => seg [(119, pt b'4 0)] [(0, none), (1, none), (2, none), (3, none), (4, none), (5, none), (6, none)] [.t false, .e (ν20 0)] trivial ⟨by as_aux_lemma => kernel_rfl, fun ac wd hS => ?_⟩
       refine hS.ordCG 37 false 19 #[pt b'4 0] (ar_Cap b'4 F21 m215 _ (hS.mem.res 0) ) ?_
       rintro _ wd ⟨rfl, hF⟩
       refine ⟨vi ((m215.cap : Nat) : Int), rfl, ?_⟩
       replace hS := (hS.to (hS.mem.keep0 hF)).put (d := 120) (v := vi ((m215.cap : Nat) : Int)) (by decide)
       clear hF
       refine hS.ordV (l := [0, 1, 2, 4]) ?_
       refine St.ordF [fx 1 (vb false), 60] [38, 39] [11, 77, 78, 79] (rest := []) hS hap <| segF [(122, vb false)] [.t false, .t false, .p ((vb ((((m215.cap : Nat) : Int) : Int) != 4) : Value) = vb false)] ⟨(congrArg Value.bool (by exact bne_eq_false_iff_eq.2 (by omega))), trivial⟩ fun ac hS => ?_
       refine ord_nil ?_
       refine hS.condF ?_
       refine wp_skip ?_
       refine pop_block ?_
       refine pop_then ?_
       refine hS.regC [20, 0] [11, 77, 78] fun _ => seg [(79, vi (x79 + 1))] [(0, none), (1, none), (3, none), (5, none)] [.p (fit .i64 (x79 + 1))] ⟨fit_i64 (by omega), trivial⟩ fun ac wd hS => ?_
       replace hS := hS.to (hS.mem.perm [0, 1, 3, 2] (H' := [(0, .fn 0 64 dbT), (g9, .fn o9 (o9 + l.length * 6) (a3V (gtD l) o9)), (g218, .fn u219 (u219 + 4) (strs (pgS m215) u219)), ((ν20 0), .cells [pt b'4 0, pt b'4 0, vi o216, vi z217, sc g218 u219 4 cp220, vi (rfA (comM (AM.new 4) 0 4)), vi o216, vi z217] 63)]) (by as_aux_lemma => kernel_rfl) (by decide))
       exact pop_then (hS.next ((x79 + 1), F21, m215, g218, u219, cp220, o216, z217) ⟨(by first | omega | assumption | (simp; done) | (simp; omega)), (by first | omega | assumption | (simp; done) | (simp; omega)), (by first | omega | assumption | (simp; done) | (simp; omega)), (by first | omega | assumption | (simp; done) | (simp; omega)), trivial⟩ (by dsimp only; omega))
      ·
       refine St.ord1 27 [301] [11, 77, 78, 79, 100, 105] [0, 1, 2, 4] hS rfl fun _ => seg [(110, pt b'4 0)] [(0, none), (1, none), (2, none), (3, none), (4, none), (5, none), (6, none)] [.t false, .e (ν20 0)] trivial ⟨by as_aux_lemma => kernel_rfl, fun ac wd hS => ?_⟩
       refine ord_nil ?_
       refine wpT_lin ?_
       refine hS.ordCG 23 false 12 #[pt b'4 0] (ar_Committed b'4 F21 m215 _ (hS.mem.res 0) ) ?_
       rintro _ wd ⟨rfl, hF⟩
       refine ⟨vi ((countTo m215.com m215.cap : Nat) : Int), rfl, ?_⟩
       replace hS := (hS.to (hS.mem.keep0 hF)).put (d := 106) (v := vi ((countTo m215.com m215.cap : Nat) : Int)) (by decide)
       clear hF
       refine hS.ordV (l := [0, 1, 2, 4]) ?_
       refine hS.ordCG 28 false 12 #[pt b'4 0] (ar_Committed b'4 F21 m215 _ (hS.mem.res 0) ) ?_
       rintro _ wd ⟨rfl, hF⟩
       refine ⟨vi ((countTo m215.com m215.cap : Nat) : Int), rfl, ?_⟩
       replace hS := (hS.to (hS.mem.keep0 hF)).put (d := 111) (v := vi ((countTo m215.com m215.cap : Nat) : Int)) (by decide)
       clear hF
       refine hS.ordV (l := [0, 1, 2, 4]) ?_
       refine St.ordF [fx 1 (vb false), 60, 0] [29, 30, 31] [11, 77, 78, 79] (rest := [(32, 1), (33, 1), (34, 1), (35, 1), (36, 0), (37, 0), (38, 1), (39, 1)]) hS hap <| segF [(114, vb false)] [.t false, .t false, .p ((vb ((((countTo m215.com m215.cap : Nat) : Int) : Int) != ((countTo m215.com m215.cap : Nat) : Int)) : Value) = vb false)] ⟨(congrArg Value.bool (bne_self_eq_false _)), trivial⟩ fun ac hS => ?_
       refine St.ordF [1, 1, 1, 1] [32, 33, 34, 35] [11, 77, 78, 79, 114] (rest := [(36, 0), (37, 0), (38, 1), (39, 1)]) hS hap <| segF [(118, pt (ν20 0) 1)] [.t false, .t false, .t false, .t false] trivial fun ac hS => ?_
       refine St.ord1 36 [301] [11, 77, 78, 79, 114] [0, 1, 2, 4] hS rfl fun _ => seg [(119, pt b'4 0)] [(0, none), (1, none), (2, none), (3, none), (4, none), (5, none), (6, none)] [.t false, .e (ν20 0)] trivial ⟨by as_aux_lemma => kernel_rfl, fun ac wd hS => ?_⟩
       refine hS.ordCG 37 false 19 #[pt b'4 0] (ar_Cap b'4 F21 m215 _ (hS.mem.res 0) ) ?_
       rintro _ wd ⟨rfl, hF⟩
       refine ⟨vi ((m215.cap : Nat) : Int), rfl, ?_⟩
       replace hS := (hS.to (hS.mem.keep0 hF)).put (d := 120) (v := vi ((m215.cap : Nat) : Int)) (by decide)
       clear hF
       refine hS.ordV (l := [0, 1, 2, 4]) ?_
       refine St.ordF [fx 1 (vb false), 60] [38, 39] [11, 77, 78, 79] (rest := []) hS hap <| segF [(122, vb false)] [.t false, .t false, .p ((vb ((((m215.cap : Nat) : Int) : Int) != 4) : Value) = vb false)] ⟨(congrArg Value.bool (by exact bne_eq_false_iff_eq.2 (by omega))), trivial⟩ fun ac hS => ?_
       refine ord_nil ?_
       refine hS.condF ?_
       refine wp_skip ?_
       refine pop_block ?_
       refine pop_then ?_
       refine hS.regC [20, 0] [11, 77, 78] fun _ => seg [(79, vi (x79 + 1))] [(0, none), (1, none), (3, none), (5, none)] [.p (fit .i64 (x79 + 1))] ⟨fit_i64 (by omega), trivial⟩ fun ac wd hS => ?_
       replace hS := hS.to (hS.mem.perm [0, 1, 3, 2] (H' := [(0, .fn 0 64 dbT), (g9, .fn o9 (o9 + l.length * 6) (a3V (gtD l) o9)), (g218, .fn u219 (u219 + 4) (strs (pgS m215) u219)), ((ν20 0), .cells [pt b'4 0, pt b'4 0, vi o216, vi z217, sc g218 u219 4 cp220, vi (rfA (comM (AM.new 4) 0 4)), vi o216, vi z217] 63)]) (by as_aux_lemma => kernel_rfl) (by decide))
       exact pop_then (hS.next ((x79 + 1), F21, m215, g218, u219, cp220, o216, z217) ⟨(by first | omega | assumption | (simp; done) | (simp; omega)), (by first | omega | assumption | (simp; done) | (simp; omega)), (by first | omega | assumption | (simp; done) | (simp; omega)), (by first | omega | assumption | (simp; done) | (simp; omega)), trivial⟩ (by dsimp only; omega))
     ·
      refine St.ord1 27 [301] [11, 77, 78, 79, 100, 104] [0, 1, 2, 4] hS rfl fun _ => seg [(110, pt b'4 0)] [(0, none), (1, none), (2, none), (3, none), (4, none), (5, none), (6, none)] [.t false, .e (ν20 0)] trivial ⟨by as_aux_lemma => kernel_rfl, fun ac wd hS => ?_⟩
      refine ord_nil ?_
      refine wpT_lin ?_
      refine St.ord1 22 [301] [11, 77, 78, 79, 100, 110] [0, 1, 2, 4] hS rfl fun _ => seg [(105, pt b'4 0)] [(0, none), (1, none), (2, none), (3, none), (4, none), (5, none), (6, none)] [.t false, .e (ν20 0)] trivial ⟨by as_aux_lemma => kernel_rfl, fun ac wd hS => ?_⟩
      refine hS.ordCG 23 false 12 #[pt b'4 0] (ar_Committed b'4 F21 m215 _ (hS.mem.res 0) ) ?_
      rintro _ wd ⟨rfl, hF⟩
      refine ⟨vi ((countTo m215.com m215.cap : Nat) : Int), rfl, ?_⟩
      replace hS := (hS.to (hS.mem.keep0 hF)).put (d := 106) (v := vi ((countTo m215.com m215.cap : Nat) : Int)) (by decide)
      clear hF
      refine hS.ordV (l := [0, 1, 2, 4]) ?_
      refine hS.ordCG 28 false 12 #[pt b'4 0] (ar_Committed b'4 F21 m215 _ (hS.mem.res 0) ) ?_
      rintro _ wd ⟨rfl, hF⟩
      refine ⟨vi ((countTo m215.com m215.cap : Nat) : Int), rfl, ?_⟩
      replace hS := (hS.to (hS.mem.keep0 hF)).put (d := 111) (v := vi ((countTo m215.com m215.cap : Nat) : Int)) (by decide)
      clear hF
      refine hS.ordV (l := [0, 1, 2, 4]) ?_
      refine St.ordF [fx 1 (vb false), 60, 0] [29, 30, 31] [11, 77, 78, 79] (rest := [(32, 1), (33, 1), (34, 1), (35, 1), (36, 0), (37, 0), (38, 1), (39, 1)]) hS hap <| segF [(114, vb false)] [.t false, .t false, .p ((vb ((((countTo m215.com m215.cap : Nat) : Int) : Int) != ((countTo m215.com m215.cap : Nat) : Int)) : Value) = vb false)] ⟨(congrArg Value.bool (bne_self_eq_false _)), trivial⟩ fun ac hS => ?_
      refine St.ordF [1, 1, 1, 1] [32, 33, 34, 35] [11, 77, 78, 79, 114] (rest := [(36, 0), (37, 0), (38, 1), (39, 1)]) hS hap <| segF [(118, pt (ν20 0) 1)] [.t false, .t false, .t false, .t false] trivial fun ac hS => ?_
      refine St.ord1 36 [301] [11, 77, 78, 79, 114] [0, 1, 2, 4] hS rfl fun _ => seg [(119, pt b'4 0)] [(0, none), (1, none), (2, none), (3, none), (4, none), (5, none), (6, none)] [.t false, .e (ν20 0)] trivial ⟨by as_aux_lemma => kernel_rfl, fun ac wd hS => ?_⟩
      refine hS.ordCG 37 false 19 #[pt b'4 0] (ar_Cap b'4 F21 m215 _ (hS.mem.res 0) ) ?_
      rintro _ wd ⟨rfl, hF⟩
      refine ⟨vi ((m215.cap : Nat) : Int), rfl, ?_⟩
      replace hS := (hS.to (hS.mem.keep0 hF)).put (d := 120) (v := vi ((m215.cap : Nat) : Int)) (by decide)
      clear hF
      refine hS.ordV (l := [0, 1, 2, 4]) ?_
      refine St.ordF [fx 1 (vb false), 60] [38, 39] [11, 77, 78, 79] (rest := []) hS hap <| segF [(122, vb false)] [.t false, .t false, .p ((vb ((((m215.cap : Nat) : Int) : Int) != 4) : Value) = vb false)] ⟨(congrArg Value.bool (by exact bne_eq_false_iff_eq.2 (by omega))), trivial⟩ fun ac hS => ?_
      refine ord_nil ?_
      refine hS.condF ?_
      refine wp_skip ?_
      refine pop_block ?_
      refine pop_then ?_
      refine hS.regC [20, 0] [11, 77, 78] fun _ => seg [(79, vi (x79 + 1))] [(0, none), (1, none), (3, none), (5, none)] [.p (fit .i64 (x79 + 1))] ⟨fit_i64 (by omega), trivial⟩ fun ac wd hS => ?_
      replace hS := hS.to (hS.mem.perm [0, 1, 3, 2] (H' := [(0, .fn 0 64 dbT), (g9, .fn o9 (o9 + l.length * 6) (a3V (gtD l) o9)), (g218, .fn u219 (u219 + 4) (strs (pgS m215) u219)), ((ν20 0), .cells [pt b'4 0, pt b'4 0, vi o216, vi z217, sc g218 u219 4 cp220, vi (rfA (comM (AM.new 4) 0 4)), vi o216, vi z217] 63)]) (by as_aux_lemma => kernel_rfl) (by decide))
      exact pop_then (hS.next ((x79 + 1), F21, m215, g218, u219, cp220, o216, z217) ⟨(by first | omega | assumption | (simp; done) | (simp; omega)), (by first | omega | assumption | (simp; done) | (simp; omega)), (by first | omega | assumption | (simp; done) | (simp; omega)), (by first | omega | assumption | (simp; done) | (simp; omega)), trivial⟩ (by dsimp only; omega))
   ·
    refine St.ord1 13 [301] [11, 77, 78, 79, 87, 90] [0, 1, 2, 4] hS rfl fun _ => seg [(96, .agg #[sc g218 u219 4 cp220, vi (rfA (comM (AM.new 4) 0 4))])] [(0, none), (1, none), (2, none), (3, none), (4, none), (5, none)] [.t false, .e (ν20 0), .e (ν20 0)] trivial ⟨by as_aux_lemma => kernel_rfl, fun ac wd hS => ?_⟩
    refine ord_nil ?_
    refine wpT_two ?_
    refine St.ord1 8 [301] [11, 77, 78, 79, 87, 96] [0, 1, 2, 4] hS rfl fun _ => seg [(91, pt b'4 0)] [(0, none), (1, none), (2, none), (3, none), (4, none), (5, none)] [.t false, .e (ν20 0)] trivial ⟨by as_aux_lemma => kernel_rfl, fun ac wd hS => ?_⟩
    refine hS.ordCG 9 false 15 #[pt b'4 0] (l03_Of b'4 F21 m215 _ (hS.mem.res 0) ) ?_
    rintro _ wd ⟨g230, rfl, hog0, hoh0, hF⟩
    have ho31 : w.heap.size ≤ g230 := Nat.le_trans hS.mem.fr.size hog0
    refine ⟨.agg #[sc g230 0 m215.cap m215.cap, vi (-1)], rfl, ?_⟩
    replace hS := (hS.to (hS.mem.outs hF [(g230, .fn 0 (0 + m215.cap) (strs (pgS m215) 0))] ⟨⟨rfl, hoh0, .inr hog0⟩, trivial⟩)).put (d := 92) (v := .agg #[sc g230 0 m215.cap m215.cap, vi (-1)]) (by decide)
    clear hF
    refine hS.ordV (l := [0, 1, 2, 4]) ?_
    refine hS.ordCG 14 false 14 #[.agg #[sc g230 0 m215.cap m215.cap, vi (-1)], .agg #[sc g218 u219 4 cp220, vi (rfA (comM (AM.new 4) 0 4))]] (ref03_Same g230 0 m215.cap m215.cap (-1) g218 u219 4 cp220 (rfA (comM (AM.new 4) 0 4)) (pgS m215) (pgS m215) _ (hS.mem.get 6 g230 (.fn 0 (0 + m215.cap) (strs (pgS m215) 0))) (hS.mem.get 5 g218 (.fn u219 (u219 + 4) (strs (pgS m215) u219))) (by first | assumption | omega | (simp_all; done) | (simp_all; omega)) (by first | assumption | omega | (simp_all; done) | (simp_all; omega))) ?_
    rintro _ wd ⟨rfl, hF⟩
    refine ⟨vb (sameA (pgS m215) (pgS m215) m215.cap 4), rfl, ?_⟩
    replace hS := (hS.to (hS.mem.keep0 hF)).put (d := 97) (v := vb (sameA (pgS m215) (pgS m215) m215.cap 4)) (by decide)
    clear hF
    refine hS.ordV (l := [0, 1, 2, 4]) ?_
    refine St.ordF [1, 60, 0] [15, 16, 17] [11, 77, 78, 79] (rest := [(18, 1), (19, 1), (20, 1), (21, 1), (24, 1), (25, 1), (26, 1)]) hS hap <| segF [(100, vb (!(sameA (pgS m215) (pgS m215) m215.cap 4)))] [.t false, .t false] trivial fun ac hS => ?_
    have hk32 : (!(sameA (pgS m215) (pgS m215) m215.cap 4)) = false := by (rw [sameA_self _ (by omega)]; rfl)
    replace hS := hS.fix 100 (vb false) (congrArg Value.bool hk32)
    refine St.ordF [1, 1, 1, 1, 1, 1, 1] [18, 19, 20, 21, 24, 25, 26] [11, 77, 78, 79, 100] (rest := []) hS hap <| segF [(104, pt (ν20 0) 1), (109, pt (ν20 0) 0)] [.t false, .t false, .t false, .t false, .t false, .t false, .t false] trivial fun ac hS => ?_
    refine ord_nil ?_
    refine ⟨?_, ?_⟩
    ·
     refine St.ord1 22 [301] [11, 77, 78, 79, 100, 109] [0, 1, 2, 4] hS rfl fun _ => seg [(105, pt b'4 0)] [(0, none), (1, none), (2, none), (3, none), (4, none), (5, none), (6, none)] [.t false, .e (ν20 0)] trivial ⟨by as_aux_lemma => kernel_rfl, fun ac wd hS => ?_⟩
     refine ord_nil ?_
     refine wpT_two ?_
     refine ord_nil ?_
     refine ⟨?_, ?_⟩
     ·
      refine hS.ordCG 23 false 12 #[pt b'4 0] (ar_Committed b'4 F21 m215 _ (hS.mem.res 0) ) ?_
      rintro _ wd ⟨rfl, hF⟩
      refine ⟨vi ((countTo m215.com m215.cap : Nat) : Int), rfl, ?_⟩
      replace hS := (hS.to (hS.mem.keep0 hF)).put (d := 106) (v := vi ((countTo m215.com m215.cap : Nat) : Int)) (by decide)
      clear hF
      refine hS.ordV (l := [0, 1, 2, 4]) ?_
      refine ord_nil ?_
      refine wpT_lin ?_
      refine St.ord1 27 [301] [11, 77, 78, 79, 100, 106] [0, 1, 2, 4] hS rfl fun _ => seg [(110, pt b'4 0)] [(0, none), (1, none), (2, none), (3, none), (4, none), (5, none), (6, none)] [.t false, .e (ν20 0)] trivial ⟨by as_aux_lemma => kernel_rfl, fun ac wd hS => ?_⟩
      refine hS.ordCG 28 false 12 #[pt b'4 0] (ar_Committed b'4 F21 m215 _ (hS.mem.res 0) ) ?_
      rintro _ wd ⟨rfl, hF⟩
      refine ⟨vi ((countTo m215.com m215.cap : Nat) : Int), rfl, ?_⟩
      replace hS := (hS.to (hS.mem.keep0 hF)).put (d := 111) (v := vi ((countTo m215.com m215.cap : Nat) : Int)) (by decide)
      clear hF
      refine hS.ordV (l := [0, 1, 2, 4]) ?_
      refine St.ordF [fx 1 (vb false), 60, 0] [29, 30, 31] [11, 77, 78, 79] (rest := [(32, 1), (33, 1), (34, 1), (35, 1), (36, 0), (37, 0), (38, 1), (39, 1)]) hS hap <| segF [(114, vb false)] [.t false, .t false, .p ((vb ((((countTo m215.com m215.cap : Nat) : Int) : Int) != ((countTo m215.com m215.cap : Nat) : Int)) : Value) = vb false)] ⟨(congrArg Value.bool (bne_self_eq_false _)), trivial⟩ fun ac hS => ?_
      refine St.ordF [1, 1, 1, 1] [32, 33, 34, 35] [11, 77, 78, 79, 114] (rest := [(36, 0), (37, 0), (38, 1), (39, 1)]) hS hap <| segF [(118, pt (ν20 0) 1)] [.t false, .t false, .t false, .t false] trivial fun ac hS => ?_
      refine St.ord1 36 [301] [11, 77, 78, 79, 114] [0, 1, 2, 4] hS rfl fun _ => seg [(119, pt b'4 0)] [(0, none), (1, none), (2, none), (3, none), (4, none), (5, none), (6, none)] [.t false, .e (ν20 0)] trivial ⟨by as_aux_lemma => kernel_rfl, fun ac wd hS => ?_⟩
      refine hS.ordCG 37 false 19 #[pt b'4 0] (ar_Cap b'4 F21 m215 _ (hS.mem.res 0) ) ?_
      rintro _ wd ⟨rfl, hF⟩
      refine ⟨vi ((m215.cap : Nat) : Int), rfl, ?_⟩
      replace hS := (hS.to (hS.mem.keep0 hF)).put (d := 120) (v := vi ((m215.cap : Nat) : Int)) (by decide)
      clear hF
      refine hS.ordV (l := [0, 1, 2, 4]) ?_
      refine St.ordF [fx 1 (vb false), 60] [38, 39] [11, 77, 78, 79] (rest := []) hS hap <| segF [(122, vb false)] [.t false, .t false, .p ((vb ((((m215.cap : Nat) : Int) : Int) != 4) : Value) = vb false)] ⟨(congrArg Value.bool (by exact bne_eq_false_iff_eq.2 (by omega))), trivial⟩ fun ac hS => ?_
      refine ord_nil ?_
      refine hS.condF ?_
      refine wp_skip ?_
      refine pop_block ?_
      refine pop_then ?_
      refine hS.regC [20, 0] [11, 77, 78] fun _ => seg [(79, vi (x79 + 1))] [(0, none), (1, none), (3, none), (5, none)] [.p (fit .i64 (x79 + 1))] ⟨fit_i64 (by omega), trivial⟩ fun ac wd hS => ?_
      replace hS := hS.to (hS.mem.perm [0, 1, 3, 2] (H' := [(0, .fn 0 64 dbT), (g9, .fn o9 (o9 + l.length * 6) (a3V (gtD l) o9)), (g218, .fn u219 (u219 + 4) (strs (pgS m215) u219)), ((ν20 0), .cells [pt b'4 0, pt b'4 0, vi o216, vi z217, sc g218 u219 4 cp220, vi (rfA (comM (AM.new 4) 0 4)), vi o216, vi z217] 63)]) (by as_aux_lemma => kernel_rfl) (by decide))
      exact pop_then (hS.next ((x79 + 1), F21, m215, g218, u219, cp220, o216, z217) ⟨(by first | omega | assumption | (simp; done) | (simp; omega)), (by first | omega | assumption | (simp; done) | (simp; omega)), (by first | omega | assumption | (simp; done) | (simp; omega)), (by first | omega | assumption | (simp; done) | (simp; omega)), trivial⟩ (by dsimp only; omega))
     ·
      refine St.ord1 27 [301] [11, 77, 78, 79, 100, 105] [0, 1, 2, 4] hS rfl fun _ => seg [(110, pt b'4 0)] [(0, none), (1, none), (2, none), (3, none), (4, none), (5, none), (6, none)] [.t false, .e (ν20 0)] trivial ⟨by as_aux_lemma => kernel_rfl, fun ac wd hS => ?_⟩
      refine ord_nil ?_
      refine wpT_lin ?_
      refine hS.ordCG 23 false 12 #[pt b'4 0] (ar_Committed b'4 F21 m215 _ (hS.mem.res 0) ) ?_
      rintro _ wd ⟨rfl, hF⟩
      refine ⟨vi ((countTo m215.com m215.cap : Nat) : Int), rfl, ?_⟩
      replace hS := (hS.to (hS.mem.keep0 hF)).put (d := 106) (v := vi ((countTo m215.com m215.cap : Nat) : Int)) (by decide)
      clear hF
      refine hS.ordV (l := [0, 1, 2, 4]) ?_
      refine hS.ordCG 28 false 12 #[pt b'4 0] (ar_Committed b'4 F21 m215 _ (hS.mem.res 0) ) ?_
      rintro _ wd ⟨rfl, hF⟩
      refine ⟨vi ((countTo m215.com m215.cap : Nat) : Int), rfl, ?_⟩
      replace hS := (hS.to (hS.mem.keep0 hF)).put (d := 111) (v := vi ((countTo m215.com m215.cap : Nat) : Int)) (by decide)
      clear hF
      refine hS.ordV (l := [0, 1, 2, 4]) ?_
      refine St.ordF [fx 1 (vb false), 60, 0] [29, 30, 31] [11, 77, 78, 79] (rest := [(32, 1), (33, 1), (34, 1), (35, 1), (36, 0), (37, 0), (38, 1), (39, 1)]) hS hap <| segF [(114, vb false)] [.t false, .t false, .p ((vb ((((countTo m215.com m215.cap : Nat) : Int) : Int) != ((countTo m215.com m215.cap : Nat) : Int)) : Value) = vb false)] ⟨(congrArg Value.bool (bne_self_eq_false _)), trivial⟩ fun ac hS => ?_
      refine St.ordF [1, 1, 1, 1] [32, 33, 34, 35] [11, 77, 78, 79, 114] (rest := [(36, 0), (37, 0), (38, 1), (39, 1)]) hS hap <| segF [(118, pt (ν20 0) 1)] [.t false, .t false, .t false, .t false] trivial fun ac hS => ?_
      refine St.ord1 36 [301] [11, 77, 78, 79, 114] [0, 1, 2, 4] hS rfl fun _ => seg [(119, pt b'4 0)] [(0, none), (1, none), (2, none), (3, none), (4, none), (5, none), (6, none)] [.t false, .e (ν20 0)] trivial ⟨by as_aux_lemma => kernel_rfl, fun ac wd hS => ?_⟩
      refine hS.ordCG 37 false 19 #[pt b'4 0] (ar_Cap b'4 F21 m215 _ (hS.mem.res 0) ) ?_
      rintro _ wd ⟨rfl, hF⟩
      refine ⟨vi ((m215.cap : Nat) : Int), rfl, ?_⟩
      replace hS := (hS.to (hS.mem.keep0 hF)).put (d := 120) (v := vi ((m215.cap : Nat) : Int)) (by decide)
      clear hF
      refine hS.ordV (l := [0, 1, 2, 4]) ?_
      refine St.ordF [fx 1 (vb false), 60] [38, 39] [11, 77, 78, 79] (rest := []) hS hap <| segF [(122, vb false)] [.t false, .t false, .p ((vb ((((m215.cap : Nat) : Int) : Int) != 4) : Value) = vb false)] ⟨(congrArg Value.bool (by exact bne_eq_false_iff_eq.2 (by omega))), trivial⟩ fun ac hS => ?_
      refine ord_nil ?_
      refine hS.condF ?_
      refine wp_skip ?_
      refine pop_block ?_
      refine pop_then ?_
      refine hS.regC [20, 0] [11, 77, 78] fun _ => seg [(79, vi (x79 + 1))] [(0, none), (1, none), (3, none), (5, none)] [.p (fit .i64 (x79 + 1))] ⟨fit_i64 (by omega), trivial⟩ fun ac wd hS => ?_
      replace hS := hS.to (hS.mem.perm [0, 1, 3, 2] (H' := [(0, .fn 0 64 dbT), (g9, .fn o9 (o9 + l.length * 6) (a3V (gtD l) o9)), (g218, .fn u219 (u219 + 4) (strs (pgS m215) u219)), ((ν20 0), .cells [pt b'4 0, pt b'4 0, vi o216, vi z217, sc g218 u219 4 cp220, vi (rfA (comM (AM.new 4) 0 4)), vi o216, vi z217] 63)]) (by as_aux_lemma => kernel_rfl) (by decide))
      exact pop_then (hS.next ((x79 + 1), F21, m215, g218, u219, cp220, o216, z217) ⟨(by first | omega | assumption | (simp; done) | (simp; omega)), (by first | omega | assumption | (simp; done) | (simp; omega)), (by first | omega | assumption | (simp; done) | (simp; omega)), (by first | omega | assumption | (simp; done) | (simp; omega)), trivial⟩ (by dsimp only; omega))
    ·
     refine St.ord1 27 [301] [11, 77, 78, 79, 100, 104] [0, 1, 2, 4] hS rfl fun _ => seg [(110, pt b'4 0)] [(0, none), (1, none), (2, none), (3, none), (4, none), (5, none), (6, none)] [.t false, .e (ν20 0)] trivial ⟨by as_aux_lemma => kernel_rfl, fun ac wd hS => ?_⟩
     refine ord_nil ?_
     refine wpT_lin ?_
     refine St.ord1 22 [301] [11, 77, 78, 79, 100, 110] [0, 1, 2, 4] hS rfl fun _ => seg [(105, pt b'4 0)] [(0, none), (1, none), (2, none), (3, none), (4, none), (5, none), (6, none)] [.t false, .e (ν20 0)] trivial ⟨by as_aux_lemma => kernel_rfl, fun ac wd hS => ?_⟩
     refine hS.ordCG 23 false 12 #[pt b'4 0] (ar_Committed b'4 F21 m215 _ (hS.mem.res 0) ) ?_
     rintro _ wd ⟨rfl, hF⟩
     refine ⟨vi ((countTo m215.com m215.cap : Nat) : Int), rfl, ?_⟩
     replace hS := (hS.to (hS.mem.keep0 hF)).put (d := 106) (v := vi ((countTo m215.com m215.cap : Nat) : Int)) (by decide)
     clear hF
     refine hS.ordV (l := [0, 1, 2, 4]) ?_
     refine hS.ordCG 28 false 12 #[pt b'4 0] (ar_Committed b'4 F21 m215 _ (hS.mem.res 0) ) ?_
     rintro _ wd ⟨rfl, hF⟩
     refine ⟨vi ((countTo m215.com m215.cap : Nat) : Int), rfl, ?_⟩
     replace hS := (hS.to (hS.mem.keep0 hF)).put (d := 111) (v := vi ((countTo m215.com m215.cap : Nat) : Int)) (by decide)
     clear hF
     refine hS.ordV (l := [0, 1, 2, 4]) ?_
     refine St.ordF [fx 1 (vb false), 60, 0] [29, 30, 31] [11, 77, 78, 79] (rest := [(32, 1), (33, 1), (34, 1), (35, 1), (36, 0), (37, 0), (38, 1), (39, 1)]) hS hap <| segF [(114, vb false)] [.t false, .t false, .p ((vb ((((countTo m215.com m215.cap : Nat) : Int) : Int) != ((countTo m215.com m215.cap : Nat) : Int)) : Value) = vb false)] ⟨(congrArg Value.bool (bne_self_eq_false _)), trivial⟩ fun ac hS => ?_
     refine St.ordF [1, 1, 1, 1] [32, 33, 34, 35] [11, 77, 78, 79, 114] (rest := [(36, 0), (37, 0), (38, 1), (39, 1)]) hS hap <| segF [(118, pt (ν20 0) 1)] [.t false, .t false, .t false, .t false] trivial fun ac hS => ?_
     refine St.ord1 36 [301] [11, 77, 78, 79, 114] [0, 1, 2, 4] hS rfl fun _ => seg [(119, pt b'4 0)] [(0, none), (1, none), (2, none), (3, none), (4, none), (5, none), (6, none)] [.t false, .e (ν20 0)] trivial ⟨by as_aux_lemma => kernel_rfl, fun ac wd hS => ?_⟩
     refine hS.ordCG 37 false 19 #[pt b'4 0] (ar_Cap b'4 F21 m215 _ (hS.mem.res 0) ) ?_
     rintro _ wd ⟨rfl, hF⟩
     refine ⟨vi ((m215.cap : Nat) : Int), rfl, ?_⟩
     replace hS := (hS.to (hS.mem.keep0 hF)).put (d := 120) (v := vi ((m215.cap : Nat) : Int)) (by decide)
     clear hF
     refine hS.ordV (l := [0, 1, 2, 4]) ?_
     refine St.ordF [fx 1 (vb false), 60] [38, 39] [11, 77, 78, 79] (rest := []) hS hap <| segF [(122, vb false)] [.t false, .t false, .p ((vb ((((m215.cap : Nat) : Int) : Int) != 4) : Value) = vb false)] ⟨(congrArg Value.bool (by exact bne_eq_false_iff_eq.2 (by omega))), trivial⟩ fun ac hS => ?_
     refine ord_nil ?_
     refine hS.condF ?_
     refine wp_skip ?_
     refine pop_block ?_
     refine pop_then ?_
     refine hS.regC [20, 0] [11, 77, 78] fun _ => seg [(79, vi (x79 + 1))] [(0, none), (1, none), (3, none), (5, none)] [.p (fit .i64 (x79 + 1))] ⟨fit_i64 (by omega), trivial⟩ fun ac wd hS => ?_
     replace hS := hS.to (hS.mem.perm [0, 1, 3, 2] (H' := [(0, .fn 0 64 dbT), (g9, .fn o9 (o9 + l.length * 6) (a3V (gtD l) o9)), (g218, .fn u219 (u219 + 4) (strs (pgS m215) u219)), ((ν20 0), .cells [pt b'4 0, pt b'4 0, vi o216, vi z217, sc g218 u219 4 cp220, vi (rfA (comM (AM.new 4) 0 4)), vi o216, vi z217] 63)]) (by as_aux_lemma => kernel_rfl) (by decide))
     exact pop_then (hS.next ((x79 + 1), F21, m215, g218, u219, cp220, o216, z217) ⟨(by first | omega | assumption | (simp; done) | (simp; omega)), (by first | omega | assumption | (simp; done) | (simp; omega)), (by first | omega | assumption | (simp; done) | (simp; omega)), (by first | omega | assumption | (simp; done) | (simp; omega)), trivial⟩ (by dsimp only; omega))
  ·
   refine wp_exit ?_
   refine pop_then_exit ?_
   refine pop_then_exit ?_
   refine pop_block_hit ?_
   refine pop_then ?_
   refine hS.regS [0] [] fun _ => seg [(6, vb true)] [(0, none)] [] trivial fun ac wd hS => ?_
   refine wp_ret ?_
   refine St.retC 0 hS (vb true) [] trivial fun hw => ?_
   refine ⟨retd rfl, hw.fr0⟩

theorem law04_ViewPlays (pa : Int) (pz : Int) (ao9 : Option Addr) (c9 : Nat) (g9 : Nat) (o9 : Nat) (l : List (Int × Int × Int × Int × Int × ByteArray)) (w : World) (hh0 : HE.holds w 0 (.fn 0 64 dbT)) (hh1 : HE.holds w g9 (.fn o9 (o9 + l.length * 6) (a3V (gtD l) o9))) (hv9 : (l.length = 0 ∨ ao9 = some ⟨g9, o9, none⟩)) (hAl : ∀ i, i < l.length → rg_a3V (gtD l i)) :
    Calls Tryd.prog 4 #[vi pa, vi pz, .slice ao9 l.length c9] w fun e w' => e = .returned (vb true) ∧ Fr w w' no no := by
 cases hv : thr (comM (AM.new 4) 0 4) pa pz with
 | false => exact law04_ViewPlays_a pa pz ao9 c9 g9 o9 l w hh0 hh1 hv9 hAl hv
 | true => exact law04_ViewPlays_b pa pz ao9 c9 g9 o9 l w hh0 hh1 hv9 hAl hv

end Go.Proofs.YtdjhdcaanmkblaaDoor.K
