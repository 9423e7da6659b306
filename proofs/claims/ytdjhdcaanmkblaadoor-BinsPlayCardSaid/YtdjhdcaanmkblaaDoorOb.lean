/-
  Walks, printed by w2.py.
-/
import Derived.Test.YtdjhdcaanmkblaaDoorM3
import Derived.Test.YtdjhdcaanmkblaaDoorOa
import Derived.Test.YtdjhdcaanmkblaaDoorProg
namespace Go.Proofs.YtdjhdcaanmkblaaDoor.K
set_option linter.unusedVariables false
set_option linter.unusedSimpArgs false

set_option maxRecDepth 100000 in
set_option maxHeartbeats 1000000 in
theorem ar_Clone (b : Nat) (F : Nat → Prop) (m : AM) (w : World) (hr : (arR b F m).R w) :
    Calls Tryd.prog 38 #[pt b 0] w fun e w' => ∃ (b' : Nat) (F' : Nat → Prop), e = .returned (pt b' 0) ∧ (arR b' F' m).R w' ∧ Fr w w' F F' := by
 obtain ⟨d, hd⟩ := id hr
 have hcl : m.cap ≤ 1048576 := hd.capLe
 refine enter (args := [pt b 0]) (D := no) (A := []) Tryd.func38 rfl 39 rfl [(b, .fn 0 6 (roF [sc d.bp 0 m.cap m.cap, vi ((m.cap : Nat) : Int), sc d.bw d.ow d.nw d.cw, vi ((countTo m.com m.cap : Nat) : Int), vb m.armed, vi ((m.refuse : Nat) : Int)])), (d.bp, .fn 0 (0 + m.cap) (pagesV m.com d.pb 0)), (d.bw, .fn d.ow (d.ow + d.nw) (u64s d.ws d.ow))] (WS.startL ⟨⟨rfl, hd.ro⟩, ⟨rfl, hd.po⟩, ⟨rfl, hd.wo⟩, trivial⟩) fun ac hS => ?_
 refine hS.regS [0] [0] fun _ => seg [] [(0, none), (1, none), (2, none)] [] trivial fun ac wd hS => ?_
 refine wp_seq ?_
 refine hS.regS [0, 0] [0] fun _ => seg [(8, vb false)] [(0, none), (1, none), (2, none)] [] trivial fun ac wd hS => ?_
 refine hS.condF ?_
 refine wp_skip ?_
 refine pop_then ?_
 refine hS.regS [0, 0, 0, 0, 300] [0] fun ν3 => seg [(3, pt (ν3 0) 0)] [(0, none), (1, none), (2, none), (3, some ((ν3 0), .cells [sc d.bp 0 m.cap m.cap, vi ((m.cap : Nat) : Int), sc d.bw d.ow d.nw d.cw, vi ((countTo m.com m.cap : Nat) : Int), vb m.armed, vi ((m.refuse : Nat) : Int)] 111))] [.e (ν3 0), .e (ν3 0), .e (ν3 0), .e (ν3 0), .e (ν3 0), .e (ν3 0), .e b, .p (0 ≤ 5 ∧ 5 < 6), .e b, .p (0 ≤ 4 ∧ 4 < 6), .e b, .p (0 ≤ 3 ∧ 3 < 6), .e b, .p (0 ≤ 2 ∧ 2 < 6), .e b, .p (0 ≤ 1 ∧ 1 < 6), .e b, .p (0 ≤ 0 ∧ 0 < 6)] ⟨(by decide), (by decide), (by decide), (by decide), (by decide), (by decide), trivial⟩ fun ac wd hS => ?_
 refine hS.regS [0, 0, 0, 0, 0, 90, 0, 300] [0, 3] fun ν4 => seg [] [(0, none), (1, none), (2, none), (3, some ((ν3 0), .cells [sc (ν4 0) 0 m.cap m.cap, vi ((m.cap : Nat) : Int), sc d.bw d.ow d.nw d.cw, vi ((countTo m.com m.cap : Nat) : Int), vb m.armed, vi ((m.refuse : Nat) : Int)] 111)), (4, some ((ν4 0), .row 127 m.cap m.cap zerosP))] [.e (ν3 0), .p ((((m.cap : Nat) : Int) : Int) = ((m.cap : Nat) : Int)), .p ((0 : Int) ≤ ((m.cap : Nat) : Int) ∧ (((m.cap : Nat) : Int) : Int) ≤ 2 ^ 32 ∧ 8 ≤ 64), .e b, .p (0 ≤ 0 ∧ 0 < 6)] ⟨rfl, (by omega), (by decide), trivial⟩ fun ac wd hS => ?_
 refine wp_seq ?_
 refine hS.regS [0, 0, 0, 0, 0, 0] [3] fun _ => seg [(22, sc d.bp 0 m.cap m.cap), (23, vi ((m.cap : Nat) : Int)), (24, vi 0)] [(0, none), (1, none), (2, none), (3, none), (4, none)] [.e b, .p (0 ≤ 0 ∧ 0 < 6)] ⟨(by decide), trivial⟩ fun ac wd hS => ?_
 refine wp_block ?_
 replace hS := hS.to (hS.mem.tellR 4 (b := (ν4 0)) (e := 127) (m := m.cap) (tot := m.cap) (f := zerosP) (pagesV (comC m.com 0) (fun _ => 0) 0) (fun o _ => by rw [← comC_zero]; rfl))
 replace hS := hS.to (WS.pgNilC hS.mem m.cap m.com m.mem (fun _ => 0))
 refine St.loopC (σ := Int × (Nat → Prop) × (Nat → Nat)) (fun (x : Int × (Nat → Prop) × (Nat → Nat)) => match x with | (x24, Fx, pbx) => ⟨[(3, [], pt (ν3 0) 0), (22, [], sc d.bp 0 m.cap m.cap), (23, [], vi ((m.cap : Nat) : Int)), (24, [], vi x24)], [(b, .fn 0 6 (roF [sc d.bp 0 m.cap m.cap, vi ((m.cap : Nat) : Int), sc d.bw d.ow d.nw d.cw, vi ((countTo m.com m.cap : Nat) : Int), vb m.armed, vi ((m.refuse : Nat) : Int)])), (d.bp, .fn 0 (0 + m.cap) (pagesV m.com d.pb 0)), (d.bw, .fn d.ow (d.ow + d.nw) (u64s d.ws d.ow)), ((ν3 0), .cells [sc (ν4 0) 0 m.cap m.cap, vi ((m.cap : Nat) : Int), sc d.bw d.ow d.nw d.cw, vi ((countTo m.com m.cap : Nat) : Int), vb m.armed, vi ((m.refuse : Nat) : Int)] 111), ((ν4 0), .row 127 m.cap m.cap (pagesV (comC m.com (Int.toNat x24)) pbx 0))], [pgR 0 Fx (⟨m.cap, (comC m.com (Int.toNat x24)), m.mem, pbx⟩)], (0 ≤ x24 ∧ x24 ≤ (m.cap : Int)) ∧ True, m.cap - Int.toNat x24⟩) (0, no, (fun _ => 0)) ⟨(by omega), trivial⟩ hS ?_
 clear hS
 rintro ⟨x24, Fx, pbx⟩ ⟨i0, -⟩ ac wd hS
 replace i0 : 0 ≤ x24 ∧ x24 ≤ (m.cap : Int) := i0
 refine hS.regS [0] [3, 22, 23, 24] fun _ => seg [(25, vb (decide ((x24 : Int) < ((m.cap : Nat) : Int))))] [(0, none), (1, none), (2, none), (3, none), (4, none)] [] trivial fun ac wd hS => ?_
 refine wp_seq ?_
 refine hS.condC (decide ((x24 : Int) < ((m.cap : Nat) : Int))) (fun hb1o hb1 => ?_) (fun hb1o hb1 => ?_)
 ·
  refine wp_skip ?_
  refine pop_then ?_
  refine wp_seq ?_
  refine wp_block ?_
  refine hS.regS [0, 10, fx 100 (.pointer (if m.com (Int.toNat x24) then some (⟨d.pb (Int.toNat x24), 0, none⟩ : Addr) else none)), 0, 0] [3, 22, 23, 24] fun _ => seg [(4, vi x24), (5, .pointer (if m.com (Int.toNat x24) then some (⟨d.pb (Int.toNat x24), 0, none⟩ : Addr) else none))] [(0, none), (1, none), (2, none), (3, none), (4, none)] [.p ((((pagesV m.com d.pb 0) (Int.toNat x24)) : Value) = .pointer (if m.com (Int.toNat x24) then some (⟨d.pb (Int.toNat x24), 0, none⟩ : Addr) else none)), .e d.bp, .p (0 ≤ Int.toNat x24 ∧ Int.toNat x24 < (0 + m.cap)), .p ((0 : Int) ≤ x24 ∧ (x24 : Int) < ((m.cap : Nat) : Int))] ⟨((pagesV_abs m.com d.pb (Int.toNat x24)).trans (rfl)), (by omega), (by omega), trivial⟩ fun ac wd hS => ?_
  refine wp_region_seq ?_
  refine hS.opsC 1 [0] [3, 4, 5, 22, 23, 24] fun _ => seg [(29, .pointer (if m.com (Int.toNat x24) then some (⟨d.pb (Int.toNat x24), 0, none⟩ : Addr) else none))] [(0, none), (1, none), (2, none), (3, none), (4, none)] [] trivial fun ac wd hS => ?_
  refine Runs1.list ?_
  refine St.bin1 hS .neq (.tmp 29) (.const (.pointer none)) 127 127 rfl rfl (by decide) (u := .pointer (if m.com (Int.toNat x24) then some (⟨d.pb (Int.toNat x24), 0, none⟩ : Addr) else none)) (v := pnil) (r := vb (!Option.isNone (if m.com (Int.toNat x24) then some (⟨d.pb (Int.toNat x24), 0, none⟩ : Addr) else none))) (run_neq_pointer_nil _ 127 (if m.com (Int.toNat x24) then some (⟨d.pb (Int.toNat x24), 0, none⟩ : Addr) else none) Tryd.underlying127) rfl fun ac hS => ?_
  refine list_nil_seq ?_
  refine hS.condC (!Option.isNone (if m.com (Int.toNat x24) then some (⟨d.pb (Int.toNat x24), 0, none⟩ : Addr) else none)) (fun hb2o hb2 => ?_) (fun hb2o hb2 => ?_)
  ·
   have hpc : m.com (Int.toNat x24) = true := by cases hq : m.com (Int.toNat x24) with | true => rfl | false => (have hz := hb2o; rw [hq] at hz; cases hz)
   replace hS := hS.fix 5 (pt (d.pb (Int.toNat x24)) 0) (pt_if hpc)
   obtain ⟨TQ, hTQ⟩ := hd.pw (show (Int.toNat x24) < m.cap by omega) hpc
   refine wp_region_seq ?_
   refine hS.opsC 2 [0, 0] [3, 4, 22, 23, 24] fun _ => seg [(32, pt (d.pb (Int.toNat x24)) 0)] [(0, none), (1, none), (2, none), (3, none), (4, none)] [] trivial fun ac wd hS => ?_
   refine Runs1.list ?_
   refine St.ldRow hS (.tmp 32) 128 rfl rfl (by decide) (g := (d.pb (Int.toNat x24))) (N := 4096) (T := TQ) (f := (bytes (fun o => m.mem (4096 * (Int.toNat x24) + o)) 0)) (hTQ.congr (hS.mem.fr.block _ hTQ.lt (fun q => q))) Tryd.underlying128 rfl (by kernel_rfl) fun ac hS => ?_
   refine hS.opsC 1 [50] [3, 4, 22, 23, 24, 33] fun ν10 => seg [(6, pt (ν10 0) 0)] [(0, none), (1, none), (2, none), (3, none), (4, none), (5, some ((ν10 0), .row 128 4096 4096 (zf Tryd.prog 128)))] [.p ((4096 : Nat) = 4096)] ⟨rfl, trivial⟩ fun ac wd hS => ?_
   replace hS := hS.to (hS.mem.tellR 5 (b := (ν10 0)) (e := 128) (m := 4096) (tot := 4096) (f := (zf Tryd.prog 128)) (bytes (fun _ => 0) 0) (fun o ho => zf_page128 o ho))
   refine St.stRow hS (.tmp 6) (.tmp 33) 128 rfl rfl rfl (g := (ν10 0)) (N := 4096) (T := 128) (f0 := (bytes (fun _ => 0) 0)) (f := (bytes (fun o => m.mem (4096 * (Int.toNat x24) + o)) 0)) 5 (by as_aux_lemma => kernel_rfl) (fun _ _ => rfl) (by kernel_rfl) fun wd hS => ?_
   refine list_nil_seq ?_
   refine hS.regC [0, 300, 0, 10, 400] [3, 22, 23, 24] fun _ => seg [] [(0, none), (1, none), (2, none), (3, none), (4, some ((ν4 0), .row 127 m.cap m.cap (fun x => if x = Int.toNat x24 then pt (ν10 0) 0 else (pagesV (comC m.com (Int.toNat x24)) pbx 0) x))), (5, none)] [.e (ν4 0), .p (Int.toNat x24 < m.cap), .p ((0 : Int) ≤ x24 ∧ (x24 : Int) < ((m.cap : Nat) : Int)), .e (ν3 0)] ⟨(by omega), (by omega), trivial⟩ fun ac wd hS => ?_
   replace hS := hS.to (hS.mem.tellR 4 (b := (ν4 0)) (e := 127) (m := m.cap) (tot := m.cap) (f := (fun x => if x = Int.toNat x24 then pt (ν10 0) 0 else (pagesV (comC m.com (Int.toNat x24)) pbx 0) x)) (pagesV (setB (comC m.com (Int.toNat x24)) (Int.toNat x24) true) (putN pbx (Int.toNat x24) (ν10 0)) 0) (fun o ho => pagesV_putv (comC m.com (Int.toNat x24)) pbx (Int.toNat x24) (ν10 0) o))
   refine pop_block ?_
   refine pop_then ?_
   refine hS.regC [20, 0] [3, 22, 23] fun _ => seg [(24, vi (x24 + 1))] [(0, none), (1, none), (2, none), (3, none), (4, none), (5, none)] [.p (fit .i64 (x24 + 1))] ⟨fit_i64 (by omega), trivial⟩ fun ac wd hS => ?_
   have hx1 : Int.toNat (x24 + 1) = Int.toNat x24 + 1 := by omega
   replace hS := hS.to (WS.absorb (H' := [(b, .fn 0 6 (roF [sc d.bp 0 m.cap m.cap, vi ((m.cap : Nat) : Int), sc d.bw d.ow d.nw d.cw, vi ((countTo m.com m.cap : Nat) : Int), vb m.armed, vi ((m.refuse : Nat) : Int)])), (d.bp, .fn 0 (0 + m.cap) (pagesV m.com d.pb 0)), (d.bw, .fn d.ow (d.ow + d.nw) (u64s d.ws d.ow)), ((ν3 0), .cells [sc (ν4 0) 0 m.cap m.cap, vi ((m.cap : Nat) : Int), sc d.bw d.ow d.nw d.cw, vi ((countTo m.com m.cap : Nat) : Int), vb m.armed, vi ((m.refuse : Nat) : Int)] 111), ((ν4 0), .row 127 m.cap m.cap (pagesV (setB (comC m.com (Int.toNat x24)) (Int.toNat x24) true) (putN pbx (Int.toNat x24) (ν10 0)) 0))]) hS.mem 5 (ν10 0) (Int.toNat x24) 128 (fun o => m.mem (4096 * (Int.toNat x24) + o)) [0, 1, 2, 3, 4] (by omega) (comC_at _ _))
   replace hS := hS.to (WS.pgTell (com' := (comC m.com (Int.toNat (x24 + 1)))) (mem' := m.mem) hS.mem (by rw [hx1]; exact comC_yes hpc) (putPg_self _ _))
   replace hS := hS.to (hS.mem.tellR 4 (b := (ν4 0)) (e := 127) (m := m.cap) (tot := m.cap) (f := (pagesV (setB (comC m.com (Int.toNat x24)) (Int.toNat x24) true) (putN pbx (Int.toNat x24) (ν10 0)) 0)) (pagesV (comC m.com (Int.toNat (x24 + 1))) (putN pbx (Int.toNat x24) (ν10 0)) 0) (fun o _ => congrArg (fun q => pagesV q (putN pbx (Int.toNat x24) (ν10 0)) 0 o) (show (comC m.com (Int.toNat (x24 + 1))) = (setB (comC m.com (Int.toNat x24)) (Int.toNat x24) true) from (show (setB (comC m.com (Int.toNat x24)) (Int.toNat x24) true) = (comC m.com (Int.toNat (x24 + 1))) by rw [hx1]; exact comC_yes hpc).symm)))
   exact pop_then (hS.next ((x24 + 1), (fun k => Fx k ∨ k = (ν10 0)), (putN pbx (Int.toNat x24) (ν10 0))) ⟨(by first | omega | assumption | (simp; done) | (simp; omega)), trivial⟩ (by dsimp only; omega))
  ·
   have hpc : m.com (Int.toNat x24) = false := by cases hq : m.com (Int.toNat x24) with | false => rfl | true => (have hz := hb2o; rw [hq] at hz; cases hz)
   refine wp_skip ?_
   refine pop_block ?_
   refine pop_then ?_
   refine hS.regC [20, 0] [3, 22, 23] fun _ => seg [(24, vi (x24 + 1))] [(0, none), (1, none), (2, none), (3, none), (4, none)] [.p (fit .i64 (x24 + 1))] ⟨fit_i64 (by omega), trivial⟩ fun ac wd hS => ?_
   have hx1 : Int.toNat (x24 + 1) = Int.toNat x24 + 1 := by omega
   replace hS := hS.to (WS.pgTell (com' := (comC m.com (Int.toNat (x24 + 1)))) (mem' := m.mem) hS.mem (by rw [hx1]; exact comC_no hpc) (rfl))
   replace hS := hS.to (hS.mem.tellR 4 (b := (ν4 0)) (e := 127) (m := m.cap) (tot := m.cap) (f := (pagesV (comC m.com (Int.toNat x24)) pbx 0)) (pagesV (comC m.com (Int.toNat (x24 + 1))) pbx 0) (fun o _ => congrArg (fun q => pagesV q pbx 0 o) (show (comC m.com (Int.toNat (x24 + 1))) = (comC m.com (Int.toNat x24)) from (show (comC m.com (Int.toNat x24)) = (comC m.com (Int.toNat (x24 + 1))) by rw [hx1]; exact comC_no hpc).symm)))
   exact pop_then (hS.next ((x24 + 1), Fx, pbx) ⟨(by first | omega | assumption | (simp; done) | (simp; omega)), trivial⟩ (by dsimp only; omega))
 ·
  refine wp_exit ?_
  refine pop_then_exit ?_
  refine pop_then_exit ?_
  refine pop_block_hit ?_
  refine pop_then ?_
  refine hS.regS [0] [] fun _ => seg [(2, pt (ν3 0) 0)] [(0, none), (1, none), (2, none), (3, none), (4, none)] [] trivial fun ac wd hS => ?_
  refine wp_ret ?_
  refine St.retC 0 hS (pt (ν3 0) 0) [] trivial fun hw => ?_
  have hxe : Int.toNat x24 = m.cap := by omega
  have h1 := hw.get 3 (ν3 0) (.cells [sc (ν4 0) 0 m.cap m.cap, vi ((m.cap : Nat) : Int), sc d.bw d.ow d.nw d.cw, vi ((countTo m.com m.cap : Nat) : Int), vb m.armed, vi ((m.refuse : Nat) : Int)] 111)
  have h2 := hw.get 4 (ν4 0) (.row 127 m.cap m.cap (pagesV (comC m.com (Int.toNat x24)) pbx 0))
  have h3 := hw.res (r := pgR 0 Fx (⟨m.cap, (comC m.com (Int.toNat x24)), m.mem, pbx⟩)) 0
  rw [hxe] at h2 h3
  have m1 := (hw.getm 3 (ν3 0) (.cells [sc (ν4 0) 0 m.cap m.cap, vi ((m.cap : Nat) : Int), sc d.bw d.ow d.nw d.cw, vi ((countTo m.com m.cap : Nat) : Int), vb m.armed, vi ((m.refuse : Nat) : Int)] 111)).resolve_right (fun h => h)
  have m2 := (hw.getm 4 (ν4 0) (.row 127 m.cap m.cap (pagesV (comC m.com (Int.toNat x24)) pbx 0))).resolve_right (fun h => h)
  have n1 := hw.nF (g := (ν3 0)) (r := pgR 0 Fx (⟨m.cap, (comC m.com (Int.toNat x24)), m.mem, pbx⟩)) 3 0
  have n2 := hw.nF (g := (ν4 0)) (r := pgR 0 Fx (⟨m.cap, (comC m.com (Int.toNat x24)), m.mem, pbx⟩)) 4 0
  obtain ⟨F2, hR, hfr⟩ := ar_clone hd h1 h2 h3 hw.fr (hw.nq 3 4 (ν3 0) (ν4 0)) n1 n2 m1 m2 (fun k hk => (hw.fr.foot k (.inl hk)).resolve_left (fun q => q))
  exact ⟨_, F2, rfl, hR, hfr⟩

end Go.Proofs.YtdjhdcaanmkblaaDoor.K
