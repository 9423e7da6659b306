/-
  Walks, printed by w2.py.
-/
import Derived.Test.YtdjhdcaanmkblaaDoorPx
import Derived.Test.YtdjhdcaanmkblaaDoorCq
import Derived.Test.YtdjhdcaanmkblaaDoorM4
import Derived.Test.YtdjhdcaanmkblaaDoorProg
namespace Go.Proofs.YtdjhdcaanmkblaaDoor.K
set_option linter.unusedVariables false
set_option linter.unusedSimpArgs false

theorem ref03_ThereM (g : Nat) (u : Nat) (n : Nat) (cp : Nat) (rf : Int) (a : Int) (k : Int) (m : AM) (w : World) (hh0 : HE.holds w g (.fn u (u + n) (strs (pgS m) u))) (hcap : m.cap = n) (hn : n ≤ 1048576) :
    Calls Tryd.prog 24 #[.agg #[sc g u n cp, vi rf], vi a, vi k] w fun e w' => e = .returned (vb (thr m a k)) ∧ Fr w w' no no := by
 subst hcap
 rw [← thr_pgS m a k]
 exact ref03_There g u m.cap cp rf a k (pgS m) w hh0 hn

theorem ref03_CommittedM (g : Nat) (u : Nat) (n : Nat) (cp : Nat) (rf : Int) (m : AM) (w : World) (hh0 : HE.holds w g (.fn u (u + n) (strs (pgS m) u))) (hcap : m.cap = n) (hn : n ≤ 1048576) :
    Calls Tryd.prog 13 #[.agg #[sc g u n cp, vi rf]] w fun e w' => e = .returned (vi ((countTo m.com n : Nat) : Int)) ∧ Fr w w' no no := by
 subst hcap
 rw [← there_pgS m]
 exact ref03_Committed g u m.cap cp rf (pgS m) w hh0 hn

theorem ref03_BytesM (g : Nat) (u : Nat) (n : Nat) (cp : Nat) (rf : Int) (a : Int) (k : Int) (m : AM) (w : World) (hh0 : HE.holds w g (.fn u (u + n) (strs (pgS m) u))) (hcap : m.cap = n) (hn : n ≤ 1048576) :
    Calls Tryd.prog 55 #[.agg #[sc g u n cp, vi rf], vi a, vi k] w fun e w' => e = .returned (.tuple #[.string (bytS m a k), vi (chkE m a k)]) ∧ Fr w w' no no := by
 subst hcap
 rw [← rBy_pg, ← chk_pg]
 exact ref03_Bytes g u m.cap cp rf a k (pgS m) w hh0 hn pgS_P

theorem ref03_LoadM (g : Nat) (u : Nat) (n : Nat) (cp : Nat) (rf : Int) (a : Int) (k : Int) (m : AM) (w : World) (hh0 : HE.holds w g (.fn u (u + n) (strs (pgS m) u))) (hcap : m.cap = n) (hn : n ≤ 1048576) :
    Calls Tryd.prog 53 #[.agg #[sc g u n cp, vi rf], vi a, vi k] w fun e w' => e = .returned (.tuple #[vu (ldV m a k), vi (ldE m a k)]) ∧ Fr w w' no no := by
 subst hcap
 rw [← rLd_pg, ← ldE_pg]
 exact ref03_Load g u m.cap cp rf a k (pgS m) w hh0 hn pgS_P

theorem ref03_CommitM (g : Nat) (u : Nat) (n : Nat) (cp : Nat) (rf : Int) (f : Int) (k : Int) (m : AM) (w : World) (hh0 : HE.holds w g (.fn u (u + n) (strs (pgS m) u))) (hcap : m.cap = n) (hn : n ≤ 1048576) (hrf : rf = rfA m) (hrb : rf ≤ 9223372036854775807) :
    Calls Tryd.prog 22 #[.agg #[sc g u n cp, vi rf], vi f, vi k] w fun e w' => ∃ (g2 : Nat) (u2 : Nat) (cp2 : Nat), e = .returned (.tuple #[.agg #[sc g2 u2 n cp2, vi (rfA (comM m f k))], vi (comE m f k)]) ∧ (g2 = g ∨ w.heap.size ≤ g2) ∧ HE.holds w' g2 (.fn u2 (u2 + n) (strs (pgS (comM m f k)) u2)) ∧ Fr w w' no no := by
 subst hcap
 subst hrf
 refine (ref03_Commit g u m.cap cp (rfA m) f k (pgS m) w hh0 hn ⟨rfA_rng m, hrb⟩).mono ?_
 rintro e w2 ⟨g2, u2, cp2, rf2, S2, rfl, hS2, hR2, hog, hoh, hF⟩
 subst hS2
 subst hR2
 exact ⟨g2, u2, cp2, by rw [com_pgR, com_pgE], hog, HE.fn_to hoh rfl (fun x_ h1_ h2_ => by unfold strs; rw [com_pg]), hF⟩

theorem ref03_DecommitM (g : Nat) (u : Nat) (n : Nat) (cp : Nat) (rf : Int) (f : Int) (k : Int) (m : AM) (w : World) (hh0 : HE.holds w g (.fn u (u + n) (strs (pgS m) u))) (hcap : m.cap = n) (hn : n ≤ 1048576) :
    Calls Tryd.prog 51 #[.agg #[sc g u n cp, vi rf], vi f, vi k] w fun e w' => ∃ (g2 : Nat) (u2 : Nat) (cp2 : Nat), e = .returned (.tuple #[.agg #[sc g2 u2 n cp2, vi rf], vi (decE m f k)]) ∧ (g2 = g ∨ w.heap.size ≤ g2) ∧ HE.holds w' g2 (.fn u2 (u2 + n) (strs (pgS (decM m f k)) u2)) ∧ Fr w w' no no := by
 subst hcap
 refine (ref03_Decommit g u m.cap cp rf f k (pgS m) w hh0 hn).mono ?_
 rintro e w2 ⟨g2, u2, cp2, S2, rfl, hS2, hog, hoh, hF⟩
 subst hS2
 exact ⟨g2, u2, cp2, by rw [wrg_dec], hog, HE.fn_to hoh rfl (fun x_ h1_ h2_ => by unfold strs; rw [dec_pg]), hF⟩

set_option maxRecDepth 100000 in
set_option maxHeartbeats 1000000 in
theorem ref03_PutM (g : Nat) (u : Nat) (n : Nat) (cp : Nat) (rf : Int) (a : Int) (s : ByteArray) (m : AM) (w : World) (hh0 : HE.holds w g (.fn u (u + n) (strs (pgS m) u))) (hcap : m.cap = n) (hn : n ≤ 1048576) :
    Calls Tryd.prog 57 #[.agg #[sc g u n cp, vi rf], vi a, .string s] w fun e w' => ∃ (g2 : Nat) (u2 : Nat) (cp2 : Nat), e = .returned (.tuple #[.agg #[sc g2 u2 n cp2, vi rf], vi (chkE m a ((s.size : Nat) : Int))]) ∧ (g2 = g ∨ w.heap.size ≤ g2) ∧ HE.holds w' g2 (.fn u2 (u2 + n) (strs (pgS (putM m a s)) u2)) ∧ Fr w w' no no := by
 refine enter (args := [.agg #[sc g u n cp, vi rf], vi a, .string s]) (D := no) (A := []) Tryd.func57 rfl 59 rfl [(g, .fn u (u + n) (strs (pgS m) u))] (WS.startL ⟨⟨rfl, hh0⟩, trivial⟩) fun ac hS => ?_
 refine hS.regS [0, 0, 0] [1, 2] fun ν1 => seg [(3, pt (ν1 0) 0), (6, pt (ν1 1) 0)] [(0, none), (1, some ((ν1 0), .cells [sc g u n cp, vi rf] 30)), (2, some ((ν1 1), .cells [vnil, vi 0] 30))] [] trivial fun ac wd hS => ?_
 refine wp_seq ?_
 refine wp_region_seq ?_
 refine hS.opsC 4 [100, 0, 0, 0] [1, 2, 3, 6] fun _ => seg [(11, .agg #[sc g u n cp, vi rf]), (12, vi a), (14, vi ((ByteArray.size s : Nat) : Int))] [(0, none), (1, none), (2, none)] [.e (ν1 0), .e (ν1 0)] trivial fun ac wd hS => ?_
 refine hS.call0 24 #[.agg #[sc g u n cp, vi rf], vi a, vi ((ByteArray.size s : Nat) : Int)] 15 (ref03_ThereM g u n cp rf a ((ByteArray.size s : Nat) : Int) m _ (hS.mem.get 0 g (.fn u (u + n) (strs (pgS m) u))) (by first | assumption | omega | (simp_all; done) | (simp_all; omega)) (by first | assumption | omega | (simp_all; done) | (simp_all; omega))) fun ac wd hS => ?_
 refine hS.opsC 1 [0] [1, 2, 3, 6] fun _ => seg [(16, vb (!(thr m a ((ByteArray.size s : Nat) : Int))))] [(0, none), (1, none), (2, none)] [] trivial fun ac wd hS => ?_
 refine list_nil_seq ?_
 refine hS.condC (!(thr m a ((ByteArray.size s : Nat) : Int))) (fun hb1o hb1 => ?_) (fun hb1o hb1 => ?_)
 ·
  have hno : thr m a ((s.size : Nat) : Int) = false := by simpa using hb1
  refine hS.regS [100, 200, 0] [6] fun _ => seg [(7, vi 3)] [(0, none), (2, some ((ν1 1), .cells [sc g u n cp, vi rf] 30))] [.e (ν1 1), .e (ν1 1), .e (ν1 0), .e (ν1 0)] trivial fun ac wd hS => ?_
  refine wp_ret ?_
  refine pop_then_ret ?_
  have hE9 : m = (putM m a s) := by first | exact putM_no (by rw [chk_three hno]; decide) | (rw [show Int.toNat (x1 - a) = s.size by omega]; exact layM_put hthr)
  replace hS := hS.to (hS.mem.tellF (b := g) (lo := u) (hi := (u + n)) (f := (strs (pgS m) u)) 0 (u + n) (strs (pgS (putM m a s)) u) rfl (fun x_ _ _ => congrFun (congrArg (fun q_ => strs (pgS q_) u) hE9) x_))
  refine St.retC 1 hS (.tuple #[.agg #[sc g u n cp, vi rf], vi 3]) [.e (ν1 1), .e (ν1 1)] trivial fun hw => ?_
  refine ⟨g, u, cp, retd (tuple2 rfl (vint ?_)), (.inl rfl), (hw.get 0 g (.fn u (u + n) (strs (pgS (putM m a s)) u))), hw.fr0⟩
  all_goals (first | rfl | exact (chk_three hno).symm | exact (chk_thr hthr).symm | omega)
 ·
  have hthr : thr m a ((s.size : Nat) : Int) = true := by simpa using hb1
  obtain ⟨hI1, hI2, hI3, hI4⟩ := inB_facts (thr_in hthr)
  refine wp_skip ?_
  refine pop_then ?_
  refine wp_seq ?_
  refine wp_block ?_
  replace hS := hS.to (hS.mem.tellF (b := g) (lo := u) (hi := (u + n)) (f := (strs (pgS m) u)) 0 (u + n) (strs (pgS (layM m (Int.toNat a) (Int.toNat (a - a)) s)) u) rfl (fun _ _ _ => by rw [show Int.toNat (a - a) = 0 by omega, layM_0]))
  refine St.loopC (σ := Int × ByteArray × Nat × Nat × Nat) (fun (x : Int × ByteArray × Nat × Nat × Nat) => match x with | (x1, x2, gx, ux, cx) => ⟨[(1, [], vi x1), (2, [], .string x2), (3, [], pt (ν1 0) 0), (6, [], pt (ν1 1) 0)], [(gx, .fn ux (ux + n) (strs (pgS (layM m (Int.toNat a) (Int.toNat (x1 - a)) s)) ux)), ((ν1 0), .cells [sc gx ux n cx, vi rf] 30), ((ν1 1), .cells [vnil, vi 0] 30)], [], (a ≤ x1 ∧ x1 + ((x2.size : Nat) : Int) = a + ((s.size : Nat) : Int)) ∧ (x2 = s.extract (Int.toNat (x1 - a)) s.size) ∧ (gx = g ∨ w.heap.size ≤ gx) ∧ True, x2.size⟩) (a, s, g, u, cp) ⟨(by first | omega | exact .inl rfl | (rw [show Int.toNat (a - a) = 0 by omega, ByteArray.extract_zero_size])), (by first | omega | exact .inl rfl | (rw [show Int.toNat (a - a) = 0 by omega, ByteArray.extract_zero_size])), (by first | omega | exact .inl rfl | (rw [show Int.toNat (a - a) = 0 by omega, ByteArray.extract_zero_size])), trivial⟩ hS ?_
  clear hS
  rintro ⟨x1, x2, gx, ux, cx⟩ ⟨i0, i1, i2, -⟩ ac wd hS
  replace i0 : a ≤ x1 ∧ x1 + ((x2.size : Nat) : Int) = a + ((s.size : Nat) : Int) := i0
  replace i1 : x2 = s.extract (Int.toNat (x1 - a)) s.size := i1
  replace i2 : gx = g ∨ w.heap.size ≤ gx := i2
  have him : 0 < ((x2.size : Nat) : Int) → 1 ≤ (imin ((x2.size : Nat) : Int) (4096 - (x1 % 4096))) ∧ (imin ((x2.size : Nat) : Int) (4096 - (x1 % 4096))) ≤ ((x2.size : Nat) : Int) ∧ (imin ((x2.size : Nat) : Int) (4096 - (x1 % 4096))) ≤ 4096 - (x1 % 4096) := fun h => by unfold imin; split <;> omega
  have hpg : 0 < ((x2.size : Nat) : Int) → Int.toNat (x1 / 4096) < m.cap ∧ m.com (Int.toNat (x1 / 4096)) = true := fun h => thr_page hthr (by omega) (by omega)
  have hps : 0 < ((x2.size : Nat) : Int) → (pgS (layM m (Int.toNat a) (Int.toNat (x1 - a)) s) (Int.toNat (x1 / 4096))).size = 4096 := fun h => pgS_size (m := (layM m (Int.toNat a) (Int.toNat (x1 - a)) s)) (hpg h).2
  refine wp_seq ?_
  refine hS.regS [0, 0, 0] [1, 2, 3, 6] fun _ => seg [(20, vb (decide ((0 : Int) < ((ByteArray.size x2 : Nat) : Int))))] [(0, none), (1, none), (2, none)] [] trivial fun ac wd hS => ?_
  refine hS.condC (decide ((0 : Int) < ((ByteArray.size x2 : Nat) : Int))) (fun hb2o hb2 => ?_) (fun hb2o hb2 => ?_)
  ·
   refine wp_skip ?_
   refine pop_then ?_
   refine wp_block ?_
   refine hS.regS [0, 20, 0] [1, 2, 3, 6] fun _ => seg [(8, vi (x1 % 4096))] [(0, none), (1, none), (2, none)] [.p ((4096 : Int) ≠ 0 ∧ Int.tmod x1 4096 = x1 % 4096)] ⟨rem2 (by omega) (by omega), trivial⟩ fun ac wd hS => ?_
   refine hS.regS [0, 0, 0, 20, 0, 0] [1, 2, 3, 6, 8] fun _ => seg [(9, vi (imin ((ByteArray.size x2 : Nat) : Int) (4096 - (x1 % 4096))))] [(0, none), (1, none), (2, none)] [.p (fit .i64 (4096 - (x1 % 4096)))] ⟨fit_i64 (by first | omega | (have := him (by omega); omega)), trivial⟩ fun ac wd hS => ?_
   refine hS.regS [0, 100, 0, 20, 20, fx 0 (.string ((pgS (layM m (Int.toNat a) (Int.toNat (x1 - a)) s)) (Int.toNat (x1 / 4096)))), 0] [1, 2, 3, 6, 8, 9] fun _ => seg [(10, .string ((pgS (layM m (Int.toNat a) (Int.toNat (x1 - a)) s)) (Int.toNat (x1 / 4096))))] [(0, none), (1, none), (2, none)] [.p ((((strs (pgS (layM m (Int.toNat a) (Int.toNat (x1 - a)) s)) ux) (ux + Int.toNat (x1 / 4096) * 1)) : Value) = .string ((pgS (layM m (Int.toNat a) (Int.toNat (x1 - a)) s)) (Int.toNat (x1 / 4096)))), .e gx, .p (ux ≤ ux + Int.toNat (x1 / 4096) * 1 ∧ ux + Int.toNat (x1 / 4096) * 1 < (ux + n)), .p ((0 : Int) ≤ (x1 / 4096) ∧ ((x1 / 4096) : Int) < ((n : Nat) : Int)), .p ((4096 : Int) ≠ 0 ∧ IntKind.i64.wrap (Int.tdiv x1 4096) = x1 / 4096), .e (ν1 0)] ⟨(strs_rel (pgS (layM m (Int.toNat a) (Int.toNat (x1 - a)) s)) ux (Int.toNat (x1 / 4096))), (by first | omega | (have := him (by omega); have := hpg (by omega); have := hps (by omega); omega)), (by first | omega | (have := him (by omega); have := hpg (by omega); have := hps (by omega); omega)), quo2 (by omega) (by omega) (by omega), trivial⟩ fun ac wd hS => ?_
   refine St.ordBeginS [(0, 1), (1, 1), (2, 1), (3, 1), (4, 1), (5, 1), (6, 1), (7, 1), (8, 1), (9, 1), (10, 1), (11, 1), (12, 1), (13, 1), (14, 1), (15, 1), (16, 0), (17, 0), (18, 2)] [(gx, .fn ux (ux + n) (strs (pgS (layM m (Int.toNat a) (Int.toNat (x1 - a)) s)) ux)), ((ν1 0), .cells [sc gx ux n cx, vi rf] 30), ((ν1 1), .cells [vnil, vi 0] 30)] [0, 1, 2] hS fun wd hS => ?_
   have hap := hS.mem.pairs (Hf := [(gx, .fn ux (ux + n) (strs (pgS (layM m (Int.toNat a) (Int.toNat (x1 - a)) s)) ux)), ((ν1 0), .cells [sc gx ux n cx, vi rf] 30), ((ν1 1), .cells [vnil, vi 0] 30)]) (l := [0, 1, 2])
   refine St.ordF [100, 0, 20, 0, 0, 10, 0, 0, 10, 10, 0, 0, 0, 20, 10, 10] [0, 1, 2, 3, 4, 5, 6, 7, 8, 9, 10, 11, 12, 13, 14, 15] [1, 2, 3, 6, 9] (rest := [(16, 0), (17, 0), (18, 2)]) hS hap <| segF [(34, .agg #[sc gx ux n cx, vi rf]), (36, vi (x1 / 4096)), (49, .string (((ByteArray.extract ((pgS (layM m (Int.toNat a) (Int.toNat (x1 - a)) s)) (Int.toNat (x1 / 4096))) (Int.toNat (0 : Int)) (Int.toNat (x1 % 4096))) ++ (ByteArray.extract x2 (Int.toNat (0 : Int)) (Int.toNat (imin ((ByteArray.size x2 : Nat) : Int) (4096 - (x1 % 4096)))))) ++ (ByteArray.extract ((pgS (layM m (Int.toNat a) (Int.toNat (x1 - a)) s)) (Int.toNat (x1 / 4096))) (Int.toNat ((x1 % 4096) + (imin ((ByteArray.size x2 : Nat) : Int) (4096 - (x1 % 4096))))) (Int.toNat ((ByteArray.size ((pgS (layM m (Int.toNat a) (Int.toNat (x1 - a)) s)) (Int.toNat (x1 / 4096))) : Nat) : Int)))))] [.p (((ByteArray.size ((ByteArray.extract ((pgS (layM m (Int.toNat a) (Int.toNat (x1 - a)) s)) (Int.toNat (x1 / 4096))) (Int.toNat (0 : Int)) (Int.toNat (x1 % 4096))) ++ (ByteArray.extract x2 (Int.toNat (0 : Int)) (Int.toNat (imin ((ByteArray.size x2 : Nat) : Int) (4096 - (x1 % 4096)))))) + ByteArray.size (ByteArray.extract ((pgS (layM m (Int.toNat a) (Int.toNat (x1 - a)) s)) (Int.toNat (x1 / 4096))) (Int.toNat ((x1 % 4096) + (imin ((ByteArray.size x2 : Nat) : Int) (4096 - (x1 % 4096))))) (Int.toNat ((ByteArray.size ((pgS (layM m (Int.toNat a) (Int.toNat (x1 - a)) s)) (Int.toNat (x1 / 4096))) : Nat) : Int))) : Nat) : Int) ≤ IntKind.i64.max), .p (0 ≤ ((x1 % 4096) + (imin ((ByteArray.size x2 : Nat) : Int) (4096 - (x1 % 4096)))) ∧ ((x1 % 4096) + (imin ((ByteArray.size x2 : Nat) : Int) (4096 - (x1 % 4096)))) ≤ ((ByteArray.size ((pgS (layM m (Int.toNat a) (Int.toNat (x1 - a)) s)) (Int.toNat (x1 / 4096))) : Nat) : Int) ∧ ((ByteArray.size ((pgS (layM m (Int.toNat a) (Int.toNat (x1 - a)) s)) (Int.toNat (x1 / 4096))) : Nat) : Int) ≤ (ByteArray.size ((pgS (layM m (Int.toNat a) (Int.toNat (x1 - a)) s)) (Int.toNat (x1 / 4096))) : Int)), .p (fit .i64 ((x1 % 4096) + (imin ((ByteArray.size x2 : Nat) : Int) (4096 - (x1 % 4096))))), .p (((ByteArray.size (ByteArray.extract ((pgS (layM m (Int.toNat a) (Int.toNat (x1 - a)) s)) (Int.toNat (x1 / 4096))) (Int.toNat (0 : Int)) (Int.toNat (x1 % 4096))) + ByteArray.size (ByteArray.extract x2 (Int.toNat (0 : Int)) (Int.toNat (imin ((ByteArray.size x2 : Nat) : Int) (4096 - (x1 % 4096))))) : Nat) : Int) ≤ IntKind.i64.max), .p (0 ≤ (0 : Int) ∧ (0 : Int) ≤ (imin ((ByteArray.size x2 : Nat) : Int) (4096 - (x1 % 4096))) ∧ (imin ((ByteArray.size x2 : Nat) : Int) (4096 - (x1 % 4096))) ≤ (ByteArray.size x2 : Int)), .p (0 ≤ (0 : Int) ∧ (0 : Int) ≤ (x1 % 4096) ∧ (x1 % 4096) ≤ (ByteArray.size ((pgS (layM m (Int.toNat a) (Int.toNat (x1 - a)) s)) (Int.toNat (x1 / 4096))) : Int)), .p ((4096 : Int) ≠ 0 ∧ IntKind.i64.wrap (Int.tdiv x1 4096) = x1 / 4096), .e (ν1 0), .e (ν1 0)] ⟨(by have h9 : IntKind.i64.max = 9223372036854775807 := rfl; have := him (by omega); have := hps (by omega); simp only [h9, ByteArray.size_append, ByteArray.size_extract]; omega), (by first | omega | (have := him (by omega); have := hpg (by omega); have := hps (by omega); omega)), fit_i64 (by first | omega | (have := him (by omega); omega)), (by have h9 : IntKind.i64.max = 9223372036854775807 := rfl; have := him (by omega); have := hps (by omega); simp only [h9, ByteArray.size_append, ByteArray.size_extract]; omega), (by first | omega | (have := him (by omega); have := hpg (by omega); have := hps (by omega); omega)), (by first | omega | (have := him (by omega); have := hpg (by omega); have := hps (by omega); omega)), quo2 (by omega) (by omega) (by omega), trivial⟩ fun ac hS => ?_
   refine St.ord1 16 [0] [1, 2, 3, 6, 9, 34, 36] [0, 1, 2] hS rfl fun ν9 => seg [(50, sc (ν9 0) 0 1 1)] [(0, none), (1, none), (2, none), (3, some ((ν9 0), .cells [.string (((ByteArray.extract ((pgS (layM m (Int.toNat a) (Int.toNat (x1 - a)) s)) (Int.toNat (x1 / 4096))) (Int.toNat (0 : Int)) (Int.toNat (x1 % 4096))) ++ (ByteArray.extract x2 (Int.toNat (0 : Int)) (Int.toNat (imin ((ByteArray.size x2 : Nat) : Int) (4096 - (x1 % 4096)))))) ++ (ByteArray.extract ((pgS (layM m (Int.toNat a) (Int.toNat (x1 - a)) s)) (Int.toNat (x1 / 4096))) (Int.toNat ((x1 % 4096) + (imin ((ByteArray.size x2 : Nat) : Int) (4096 - (x1 % 4096))))) (Int.toNat ((ByteArray.size ((pgS (layM m (Int.toNat a) (Int.toNat (x1 - a)) s)) (Int.toNat (x1 / 4096))) : Nat) : Int))))] 9))] [] trivial ⟨by as_aux_lemma => kernel_rfl, fun ac wd hS => ?_⟩
   refine hS.ordC 17 73 #[.agg #[sc gx ux n cx, vi rf], vi (x1 / 4096), sc (ν9 0) 0 1 1] (ref03_with gx ux n cx rf (x1 / 4096) (ν9 0) 0 1 1 (pgS (layM m (Int.toNat a) (Int.toNat (x1 - a)) s)) (fun _ => (((ByteArray.extract ((pgS (layM m (Int.toNat a) (Int.toNat (x1 - a)) s)) (Int.toNat (x1 / 4096))) (Int.toNat (0 : Int)) (Int.toNat (x1 % 4096))) ++ (ByteArray.extract x2 (Int.toNat (0 : Int)) (Int.toNat (imin ((ByteArray.size x2 : Nat) : Int) (4096 - (x1 % 4096)))))) ++ (ByteArray.extract ((pgS (layM m (Int.toNat a) (Int.toNat (x1 - a)) s)) (Int.toNat (x1 / 4096))) (Int.toNat ((x1 % 4096) + (imin ((ByteArray.size x2 : Nat) : Int) (4096 - (x1 % 4096))))) (Int.toNat ((ByteArray.size ((pgS (layM m (Int.toNat a) (Int.toNat (x1 - a)) s)) (Int.toNat (x1 / 4096))) : Nat) : Int))))) _ (hS.mem.get 0 gx (.fn ux (ux + n) (strs (pgS (layM m (Int.toNat a) (Int.toNat (x1 - a)) s)) ux))) (HE.of_cells (hS.mem.get 3 (ν9 0) (.cells [.string (((ByteArray.extract ((pgS (layM m (Int.toNat a) (Int.toNat (x1 - a)) s)) (Int.toNat (x1 / 4096))) (Int.toNat (0 : Int)) (Int.toNat (x1 % 4096))) ++ (ByteArray.extract x2 (Int.toNat (0 : Int)) (Int.toNat (imin ((ByteArray.size x2 : Nat) : Int) (4096 - (x1 % 4096)))))) ++ (ByteArray.extract ((pgS (layM m (Int.toNat a) (Int.toNat (x1 - a)) s)) (Int.toNat (x1 / 4096))) (Int.toNat ((x1 % 4096) + (imin ((ByteArray.size x2 : Nat) : Int) (4096 - (x1 % 4096))))) (Int.toNat ((ByteArray.size ((pgS (layM m (Int.toNat a) (Int.toNat (x1 - a)) s)) (Int.toNat (x1 / 4096))) : Nat) : Int))))] 9)) (fun o_ ho_ => by have ho_ : o_ < 1 := ho_; (obtain rfl : o_ = 0 := by omega); rfl)) (by first | assumption | omega | (simp_all; done) | (simp_all; omega)) (by first | assumption | omega | (simp_all; done) | (simp_all; omega)) (by first | assumption | omega | (simp_all; done) | (simp_all; omega))) ?_
   rintro _ wd ⟨g23, rfl, hog0, hoh0, hF⟩
   have ho4 : w.heap.size ≤ g23 := Nat.le_trans hS.mem.fr.size hog0
   refine ⟨.agg #[sc g23 0 n n, vi rf], rfl, ?_⟩
   replace hS := (hS.to (hS.mem.outs hF [(g23, .fn 0 (0 + n) (strs (withF (pgS (layM m (Int.toNat a) (Int.toNat (x1 - a)) s)) (Int.toNat (x1 / 4096)) 1 (fun _ => (((ByteArray.extract ((pgS (layM m (Int.toNat a) (Int.toNat (x1 - a)) s)) (Int.toNat (x1 / 4096))) (Int.toNat (0 : Int)) (Int.toNat (x1 % 4096))) ++ (ByteArray.extract x2 (Int.toNat (0 : Int)) (Int.toNat (imin ((ByteArray.size x2 : Nat) : Int) (4096 - (x1 % 4096)))))) ++ (ByteArray.extract ((pgS (layM m (Int.toNat a) (Int.toNat (x1 - a)) s)) (Int.toNat (x1 / 4096))) (Int.toNat ((x1 % 4096) + (imin ((ByteArray.size x2 : Nat) : Int) (4096 - (x1 % 4096))))) (Int.toNat ((ByteArray.size ((pgS (layM m (Int.toNat a) (Int.toNat (x1 - a)) s)) (Int.toNat (x1 / 4096))) : Nat) : Int)))))) 0))] ⟨⟨rfl, hoh0, .inr hog0⟩, trivial⟩)).put (d := 51) (v := .agg #[sc g23 0 n n, vi rf]) (by decide)
   clear hF
   refine hS.ordV (l := [0, 1, 2]) ?_
   refine St.ord2 18 [100] [1, 2, 3, 6, 9] hS rfl fun _ => seg [] [(0, none), (1, some ((ν1 0), .cells [sc g23 0 n n, vi rf] 30)), (2, none), (3, none), (4, none)] [.e (ν1 0), .e (ν1 0)] trivial fun ac wd hS => ?_
   refine ord_nil ?_
   refine hS.regS [0, 0, 10, 0] [1, 3, 6, 9] fun _ => seg [(2, .string (ByteArray.extract x2 (Int.toNat (imin ((ByteArray.size x2 : Nat) : Int) (4096 - (x1 % 4096)))) (Int.toNat ((ByteArray.size x2 : Nat) : Int))))] [(1, none), (2, none), (4, none)] [.p (0 ≤ (imin ((ByteArray.size x2 : Nat) : Int) (4096 - (x1 % 4096))) ∧ (imin ((ByteArray.size x2 : Nat) : Int) (4096 - (x1 % 4096))) ≤ ((ByteArray.size x2 : Nat) : Int) ∧ ((ByteArray.size x2 : Nat) : Int) ≤ (ByteArray.size x2 : Int))] ⟨(by first | omega | (have := him (by omega); have := hpg (by omega); have := hps (by omega); omega)), trivial⟩ fun ac wd hS => ?_
   refine hS.regC [0, 0, 20, 0] [2, 3, 6] fun _ => seg [(1, vi (x1 + (imin ((ByteArray.size x2 : Nat) : Int) (4096 - (x1 % 4096)))))] [(0, none), (1, none), (2, none)] [.p (fit .i64 (x1 + (imin ((ByteArray.size x2 : Nat) : Int) (4096 - (x1 % 4096)))))] ⟨fit_i64 (by first | omega | (have := him (by omega); omega)), trivial⟩ fun ac wd hS => ?_
   refine pop_block ?_
   replace hS := hS.to (hS.mem.tellF (b := g23) (lo := 0) (hi := (0 + n)) (f := (strs (withF (pgS (layM m (Int.toNat a) (Int.toNat (x1 - a)) s)) (Int.toNat (x1 / 4096)) 1 (fun _ => (((ByteArray.extract ((pgS (layM m (Int.toNat a) (Int.toNat (x1 - a)) s)) (Int.toNat (x1 / 4096))) (Int.toNat (0 : Int)) (Int.toNat (x1 % 4096))) ++ (ByteArray.extract x2 (Int.toNat (0 : Int)) (Int.toNat (imin ((ByteArray.size x2 : Nat) : Int) (4096 - (x1 % 4096)))))) ++ (ByteArray.extract ((pgS (layM m (Int.toNat a) (Int.toNat (x1 - a)) s)) (Int.toNat (x1 / 4096))) (Int.toNat ((x1 % 4096) + (imin ((ByteArray.size x2 : Nat) : Int) (4096 - (x1 % 4096))))) (Int.toNat ((ByteArray.size ((pgS (layM m (Int.toNat a) (Int.toNat (x1 - a)) s)) (Int.toNat (x1 / 4096))) : Nat) : Int)))))) 0)) 2 (0 + n) (strs (pgS (layM m (Int.toNat a) (Int.toNat ((x1 + (imin ((x2.size : Nat) : Int) (4096 - (x1 % 4096)))) - a)) s)) 0) rfl (fun o_ _ _ => lay_next (sx := x2) hI1 rfl (by omega) (by have := him (by omega); omega) (by have := him (by omega); omega) i1 (by have := him (by omega); omega) (hpg (by omega)).2 rfl rfl _ o_))
   replace hS := hS.to (hS.mem.perm [2, 0, 1] (H' := [(g23, .fn 0 (0 + n) (strs (pgS (layM m (Int.toNat a) (Int.toNat ((x1 + (imin ((x2.size : Nat) : Int) (4096 - (x1 % 4096)))) - a)) s)) 0)), ((ν1 0), .cells [sc g23 0 n n, vi rf] 30), ((ν1 1), .cells [vnil, vi 0] 30)]) (by as_aux_lemma => kernel_rfl) (by decide))
   exact pop_then (hS.next ((x1 + (imin ((ByteArray.size x2 : Nat) : Int) (4096 - (x1 % 4096)))), (ByteArray.extract x2 (Int.toNat (imin ((ByteArray.size x2 : Nat) : Int) (4096 - (x1 % 4096)))) (Int.toNat ((ByteArray.size x2 : Nat) : Int))), g23, 0, n) ⟨(by first | omega | (have := him (by omega); rw [ByteArray.size_extract]; omega)), (by exact ext_more i1 (by have := him (by omega); omega) (by have := him (by omega); omega)), (by first | assumption | omega), trivial⟩ (by (dsimp only; have := him (by omega); rw [ByteArray.size_extract]; omega)))
  ·
   refine wp_exit ?_
   refine pop_then_exit ?_
   refine pop_then_exit ?_
   refine pop_block_hit ?_
   refine pop_then ?_
   refine hS.regS [100, 200, 0] [6] fun _ => seg [(7, vi 0)] [(0, none), (2, some ((ν1 1), .cells [sc gx ux n cx, vi rf] 30))] [.e (ν1 1), .e (ν1 1), .e (ν1 0), .e (ν1 0)] trivial fun ac wd hS => ?_
   refine wp_ret ?_
   have hE9 : (layM m (Int.toNat a) (Int.toNat (x1 - a)) s) = (putM m a s) := by first | exact putM_no (by rw [chk_three hno]; decide) | (rw [show Int.toNat (x1 - a) = s.size by omega]; exact layM_put hthr)
   replace hS := hS.to (hS.mem.tellF (b := gx) (lo := ux) (hi := (ux + n)) (f := (strs (pgS (layM m (Int.toNat a) (Int.toNat (x1 - a)) s)) ux)) 0 (ux + n) (strs (pgS (putM m a s)) ux) rfl (fun x_ _ _ => congrFun (congrArg (fun q_ => strs (pgS q_) ux) hE9) x_))
   refine St.retC 1 hS (.tuple #[.agg #[sc gx ux n cx, vi rf], vi 0]) [.e (ν1 1), .e (ν1 1)] trivial fun hw => ?_
   refine ⟨gx, ux, cx, retd (tuple2 rfl (vint ?_)), i2, (hw.get 0 gx (.fn ux (ux + n) (strs (pgS (putM m a s)) ux))), hw.fr0⟩
   all_goals (first | rfl | exact (chk_three hno).symm | exact (chk_thr hthr).symm | omega)

set_option maxRecDepth 100000 in
set_option maxHeartbeats 1000000 in
theorem ref03_FillM (g : Nat) (u : Nat) (n : Nat) (cp : Nat) (rf : Int) (a : Int) (k : Int) (c : Int) (m : AM) (w : World) (hh0 : HE.holds w g (.fn u (u + n) (strs (pgS m) u))) (hcap : m.cap = n) (hn : n ≤ 1048576) (hc : 0 ≤ c ∧ c ≤ 255) :
    Calls Tryd.prog 59 #[.agg #[sc g u n cp, vi rf], vi a, vi k, v8 c] w fun e w' => ∃ (g2 : Nat) (u2 : Nat) (cp2 : Nat), e = .returned (.tuple #[.agg #[sc g2 u2 n cp2, vi rf], vi (chkE m a k)]) ∧ (g2 = g ∨ w.heap.size ≤ g2) ∧ HE.holds w' g2 (.fn u2 (u2 + n) (strs (pgS (filM m a k (u8 c))) u2)) ∧ Fr w w' no no := by
 refine enter (args := [.agg #[sc g u n cp, vi rf], vi a, vi k, v8 c]) (D := no) (A := []) Tryd.func59 rfl 37 rfl [(g, .fn u (u + n) (strs (pgS m) u))] (WS.startL ⟨⟨rfl, hh0⟩, trivial⟩) fun ac hS => ?_
 refine hS.regS [0, 0, 0] [1, 2, 3] fun ν1 => seg [(4, pt (ν1 0) 0), (8, pt (ν1 1) 0)] [(0, none), (1, some ((ν1 0), .cells [sc g u n cp, vi rf] 30)), (2, some ((ν1 1), .cells [vnil, vi 0] 30))] [] trivial fun ac wd hS => ?_
 refine wp_seq ?_
 refine wp_region_seq ?_
 refine hS.opsC 3 [100, 0, 0] [1, 2, 3, 4, 8] fun _ => seg [(12, .agg #[sc g u n cp, vi rf]), (13, vi a), (14, vi k)] [(0, none), (1, none), (2, none)] [.e (ν1 0), .e (ν1 0)] trivial fun ac wd hS => ?_
 refine hS.call0 24 #[.agg #[sc g u n cp, vi rf], vi a, vi k] 15 (ref03_ThereM g u n cp rf a k m _ (hS.mem.get 0 g (.fn u (u + n) (strs (pgS m) u))) (by first | assumption | omega | (simp_all; done) | (simp_all; omega)) (by first | assumption | omega | (simp_all; done) | (simp_all; omega))) fun ac wd hS => ?_
 refine hS.opsC 1 [0] [1, 2, 3, 4, 8] fun _ => seg [(16, vb (!(thr m a k)))] [(0, none), (1, none), (2, none)] [] trivial fun ac wd hS => ?_
 refine list_nil_seq ?_
 refine hS.condC (!(thr m a k)) (fun hb1o hb1 => ?_) (fun hb1o hb1 => ?_)
 ·
  have hno : thr m a k = false := by simpa using hb1
  refine hS.regS [100, 200, 0] [8] fun _ => seg [(9, vi 3)] [(0, none), (2, some ((ν1 1), .cells [sc g u n cp, vi rf] 30))] [.e (ν1 1), .e (ν1 1), .e (ν1 0), .e (ν1 0)] trivial fun ac wd hS => ?_
  refine wp_ret ?_
  refine pop_then_ret ?_
  have hE9 : m = (filM m a k (u8 c)) := by first | exact fil_no hno | exact hfx
  replace hS := hS.to (hS.mem.tellF (b := g) (lo := u) (hi := (u + n)) (f := (strs (pgS m) u)) 0 (u + n) (strs (pgS (filM m a k (u8 c))) u) rfl (fun x_ _ _ => congrFun (congrArg (fun q_ => strs (pgS q_) u) hE9) x_))
  refine St.retC 1 hS (.tuple #[.agg #[sc g u n cp, vi rf], vi 3]) [.e (ν1 1), .e (ν1 1)] trivial fun hw => ?_
  refine ⟨g, u, cp, retd (tuple2 rfl (vint ?_)), (.inl rfl), (hw.get 0 g (.fn u (u + n) (strs (pgS (filM m a k (u8 c))) u))), hw.fr0⟩
  all_goals (first | rfl | exact (chk_three hno).symm | (rw [hsz9]) | omega)
 ·
  have hthr : thr m a k = true := by simpa using hb1
  obtain ⟨hI1, hI2, hI3, hI4⟩ := inB_facts (thr_in hthr)
  refine wp_skip ?_
  refine pop_then ?_
  refine hS.regS [0, 90, 0] [1, 3, 4, 8] fun ν5 => seg [(10, sc (ν5 0) 0 (Int.toNat k) (Int.toNat k))] [(0, none), (1, none), (2, none), (3, some ((ν5 0), .row 5 (Int.toNat k) (Int.toNat k) (bytes (fun _ => 0) 0)))] [.p ((k : Int) = k), .p ((0 : Int) ≤ k ∧ (k : Int) ≤ 2 ^ 32 ∧ 1 ≤ 64)] ⟨rfl, (by omega), trivial⟩ fun ac wd hS => ?_
  refine wp_seq ?_
  refine hS.regS [0, 0, 0] [1, 3, 4, 8, 10] fun _ => seg [(21, vi (((Int.toNat k) : Nat) : Int)), (22, vi 0)] [(0, none), (1, none), (2, none), (3, none)] [] trivial fun ac wd hS => ?_
  refine wp_block ?_
  refine St.loopC (σ := Int × (Nat → UInt8)) (fun (x : Int × (Nat → UInt8)) => match x with | (x22, fx) => ⟨[(1, [], vi a), (3, [], v8 c), (4, [], pt (ν1 0) 0), (8, [], pt (ν1 1) 0), (10, [], sc (ν5 0) 0 (Int.toNat k) (Int.toNat k)), (21, [], vi (((Int.toNat k) : Nat) : Int)), (22, [], vi x22)], [(g, .fn u (u + n) (strs (pgS m) u)), ((ν1 0), .cells [sc g u n cp, vi rf] 30), ((ν1 1), .cells [vnil, vi 0] 30), ((ν5 0), .row 5 (Int.toNat k) (Int.toNat k) (bytes fx 0))], [], (0 ≤ x22 ∧ x22 ≤ k) ∧ (∀ j : Nat, (j : Int) < x22 → fx j = u8 c) ∧ True, Int.toNat (k - x22)⟩) (0, (fun _ => 0)) ⟨(by first | omega | (intro j hj; omega)), (by first | omega | (intro j hj; omega)), trivial⟩ hS ?_
  clear hS
  rintro ⟨x22, fx⟩ ⟨i0, i1, -⟩ ac wd hS
  replace i0 : 0 ≤ x22 ∧ x22 ≤ k := i0
  replace i1 : ∀ j : Nat, (j : Int) < x22 → fx j = u8 c := i1
  refine hS.regS [0] [1, 3, 4, 8, 10, 21, 22] fun _ => seg [(23, vb (decide ((x22 : Int) < (((Int.toNat k) : Nat) : Int))))] [(0, none), (1, none), (2, none), (3, none)] [] trivial fun ac wd hS => ?_
  refine wp_seq ?_
  refine hS.condC (decide ((x22 : Int) < (((Int.toNat k) : Nat) : Int))) (fun hb2o hb2 => ?_) (fun hb2o hb2 => ?_)
  ·
   refine wp_skip ?_
   refine pop_then ?_
   refine wp_seq ?_
   refine wp_block ?_
   refine hS.regS [0, 0] [1, 3, 4, 8, 10, 21, 22] fun _ => seg [(11, vi x22)] [(0, none), (1, none), (2, none), (3, none)] [] trivial fun ac wd hS => ?_
   refine hS.regC [0, 0, 0, 10, 300] [1, 3, 4, 8, 10, 21, 22] fun _ => seg [] [(0, none), (1, none), (2, none), (3, some ((ν5 0), .row 5 (Int.toNat k) (Int.toNat k) (fun x => if x = Int.toNat x22 then v8 c else (bytes fx 0) x)))] [.e (ν5 0), .p (Int.toNat x22 < (Int.toNat k)), .p ((0 : Int) ≤ x22 ∧ (x22 : Int) < (((Int.toNat k) : Nat) : Int))] ⟨(by omega), (by omega), trivial⟩ fun ac wd hS => ?_
   replace hS := hS.to (hS.mem.tellR 3 (b := (ν5 0)) (e := 5) (m := (Int.toNat k)) (tot := (Int.toNat k)) (f := (fun x => if x = Int.toNat x22 then v8 c else (bytes fx 0) x)) (bytes (putF fx (Int.toNat x22) (u8 c)) 0) (fun o ho => by first | exact bytes_puti fx (Int.toNat x22) c (by omega) o | (rw [Nat.mul_one, Nat.zero_add]; exact bytes_puti fx (Int.toNat x22) c (by omega) o)))
   refine pop_block ?_
   refine pop_then ?_
   refine hS.regC [20, 0] [1, 3, 4, 8, 10, 21] fun _ => seg [(22, vi (x22 + 1))] [(0, none), (1, none), (2, none), (3, none)] [.p (fit .i64 (x22 + 1))] ⟨fit_i64 (by omega), trivial⟩ fun ac wd hS => ?_
   exact pop_then (hS.next ((x22 + 1), (putF fx (Int.toNat x22) (u8 c))) ⟨(by first | omega | assumption | (simp; done) | (simp; omega)), (by exact put_up i1 i0.1), trivial⟩ (by dsimp only; omega))
  ·
   refine wp_exit ?_
   refine pop_then_exit ?_
   refine pop_then_exit ?_
   refine pop_block_hit ?_
   refine pop_then ?_
   have hfx : putM m a (bs (fun j => fx (0 + j)) (Int.toNat k)) = filM m a k (u8 c) := by simp only [Nat.zero_add]; rw [show bs fx (Int.toNat k) = bs (fun _ => u8 c) (Int.toNat k) from bs_congr (fun j hj => i1 j (by omega))]; exact put_fil hthr
   have hsz9 : (((bs (fun j => fx (0 + j)) (Int.toNat k)).size : Nat) : Int) = k := by rw [bs_size]; omega
   refine wp_region_seq ?_
   refine hS.opsC 3 [100, 0, 0] [8] fun _ => seg [(30, .agg #[sc g u n cp, vi rf]), (31, vi a), (32, sc (ν5 0) 0 (Int.toNat k) (Int.toNat k))] [(0, none), (2, none), (3, none)] [.e (ν1 0), .e (ν1 0)] trivial fun ac wd hS => ?_
   refine Runs1.list ?_
   refine St.toStr hS (.tmp 32) 163 9 rfl rfl (by decide) Tryd.underlying163 Tryd.underlying5 Tryd.underlying9 (b := (ν5 0)) (off := 0) (k := (Int.toNat k)) (cp := (Int.toNat k)) (fun j => fx (0 + j)) (Cells8.row (hS.mem.get 2 (ν5 0) (.row 5 (Int.toNat k) (Int.toNat k) (bytes fx 0))) (by omega)) fun ac hS => ?_
   refine hS.callC 57 #[.agg #[sc g u n cp, vi rf], vi a, .string (bs (fun j => fx (0 + j)) (Int.toNat k))] (ref03_PutM g u n cp rf a (bs (fun j => fx (0 + j)) (Int.toNat k)) m _ (hS.mem.get 0 g (.fn u (u + n) (strs (pgS m) u))) (by first | assumption | omega | (simp_all; done) | (simp_all; omega)) (by first | assumption | omega | (simp_all; done) | (simp_all; omega))) ?_
   rintro _ wd ⟨g23, u24, cp25, rfl, hog0, hoh0, hF⟩
   have ho6 : g23 = g ∨ w.heap.size ≤ g23 := by rcases hog0 with hx | hx; rw [hx]; exact (.inl rfl); exact .inr (Nat.le_trans hS.mem.fr.size hx)
   refine ⟨.tuple #[.agg #[sc g23 u24 n cp25, vi rf], vi (chkE m a (((bs (fun j => fx (0 + j)) (Int.toNat k)).size : Nat) : Int))], rfl, ?_⟩
   replace hS := (hS.to (hS.mem.outs hF [(g23, .fn u24 (u24 + n) (strs (pgS (putM m a (bs (fun j => fx (0 + j)) (Int.toNat k)))) u24))] ⟨⟨rfl, hoh0, hog0.imp (fun e => ⟨0, .fn u (u + n) (strs (pgS m) u), by rw [e]; rfl, rfl⟩) id⟩, trivial⟩)).put (d := 34) (v := .tuple #[.agg #[sc g23 u24 n cp25, vi rf], vi (chkE m a (((bs (fun j => fx (0 + j)) (Int.toNat k)).size : Nat) : Int))]) (by decide)
   clear hF
   refine hS.opsC 4 [0, 0, 100, 0] [8] fun _ => seg [(9, vi (chkE m a (((bs (fun j => fx (0 + j)) (Int.toNat k)).size : Nat) : Int)))] [(1, some ((ν1 1), .cells [sc g23 u24 n cp25, vi rf] 30)), (3, none)] [.e (ν1 1), .e (ν1 1)] trivial fun ac wd hS => ?_
   refine list_nil_seq ?_
   refine wp_ret ?_
   have hE9 : (putM m a (bs (fun j => fx (0 + j)) (Int.toNat k))) = (filM m a k (u8 c)) := by first | exact fil_no hno | exact hfx
   replace hS := hS.to (hS.mem.tellF (b := g23) (lo := u24) (hi := (u24 + n)) (f := (strs (pgS (putM m a (bs (fun j => fx (0 + j)) (Int.toNat k)))) u24)) 1 (u24 + n) (strs (pgS (filM m a k (u8 c))) u24) rfl (fun x_ _ _ => congrFun (congrArg (fun q_ => strs (pgS q_) u24) hE9) x_))
   refine St.retC 0 hS (.tuple #[.agg #[sc g23 u24 n cp25, vi rf], vi (chkE m a (((bs (fun j => fx (0 + j)) (Int.toNat k)).size : Nat) : Int))]) [.e (ν1 1), .e (ν1 1)] trivial fun hw => ?_
   refine ⟨g23, u24, cp25, retd (tuple2 rfl (vint ?_)), ho6, (hw.get 1 g23 (.fn u24 (u24 + n) (strs (pgS (filM m a k (u8 c))) u24))), hw.fr0⟩
   all_goals (first | rfl | exact (chk_three hno).symm | (rw [hsz9]) | omega)

set_option maxRecDepth 100000 in
set_option maxHeartbeats 1000000 in
theorem ref03_CopyM (g : Nat) (u : Nat) (n : Nat) (cp : Nat) (rf : Int) (t : Int) (f : Int) (k : Int) (m : AM) (w : World) (hh0 : HE.holds w g (.fn u (u + n) (strs (pgS m) u))) (hcap : m.cap = n) (hn : n ≤ 1048576) :
    Calls Tryd.prog 61 #[.agg #[sc g u n cp, vi rf], vi t, vi f, vi k] w fun e w' => ∃ (g2 : Nat) (u2 : Nat) (cp2 : Nat), e = .returned (.tuple #[.agg #[sc g2 u2 n cp2, vi rf], vi (cpyE m t f k)]) ∧ (g2 = g ∨ w.heap.size ≤ g2) ∧ HE.holds w' g2 (.fn u2 (u2 + n) (strs (pgS (cpyM m t f k)) u2)) ∧ Fr w w' no no := by
 refine enter (args := [.agg #[sc g u n cp, vi rf], vi t, vi f, vi k]) (D := no) (A := []) Tryd.func61 rfl 29 rfl [(g, .fn u (u + n) (strs (pgS m) u))] (WS.startL ⟨⟨rfl, hh0⟩, trivial⟩) fun ac hS => ?_
 refine hS.regS [0, 0, 0] [1, 2, 3] fun ν1 => seg [(4, pt (ν1 0) 0), (8, pt (ν1 1) 0)] [(0, none), (1, some ((ν1 0), .cells [sc g u n cp, vi rf] 30)), (2, some ((ν1 1), .cells [vnil, vi 0] 30))] [] trivial fun ac wd hS => ?_
 refine wp_region_seq ?_
 refine hS.opsC 3 [100, 0, 0] [1, 4, 8] fun _ => seg [(13, .agg #[sc g u n cp, vi rf]), (14, vi f), (15, vi k)] [(0, none), (1, none), (2, none)] [.e (ν1 0), .e (ν1 0)] trivial fun ac wd hS => ?_
 refine hS.call0 55 #[.agg #[sc g u n cp, vi rf], vi f, vi k] 16 (ref03_BytesM g u n cp rf f k m _ (hS.mem.get 0 g (.fn u (u + n) (strs (pgS m) u))) (by first | assumption | omega | (simp_all; done) | (simp_all; omega)) (by first | assumption | omega | (simp_all; done) | (simp_all; omega))) fun ac wd hS => ?_
 refine hS.opsC 5 [0, 0, 0, 0, 0] [1, 4, 8] fun _ => seg [(10, .string (bytS m f k)), (11, vi (chkE m f k))] [(0, none), (1, none), (2, none)] [] trivial fun ac wd hS => ?_
 refine list_nil_seq ?_
 refine wp_seq ?_
 refine hS.regS [0, 0] [1, 4, 8, 10, 11] fun _ => seg [(20, vb (((chkE m f k) : Int) != 0))] [(0, none), (1, none), (2, none)] [] trivial fun ac wd hS => ?_
 refine hS.condC (((chkE m f k) : Int) != 0) (fun hb1o hb1 => ?_) (fun hb1o hb1 => ?_)
 ·
  have hne := hb1
  refine hS.regS [100, 0, 200, 0] [8] fun _ => seg [(9, vi (chkE m f k))] [(0, none), (2, some ((ν1 1), .cells [sc g u n cp, vi rf] 30))] [.e (ν1 1), .e (ν1 1), .e (ν1 0), .e (ν1 0)] trivial fun ac wd hS => ?_
  refine wp_ret ?_
  refine pop_then_ret ?_
  have hE9 : m = (cpyM m t f k) := by first | exact cpy_m1 hne | exact cpy_m2 hth
  replace hS := hS.to (hS.mem.tellF (b := g) (lo := u) (hi := (u + n)) (f := (strs (pgS m) u)) 0 (u + n) (strs (pgS (cpyM m t f k)) u) rfl (fun x_ _ _ => congrFun (congrArg (fun q_ => strs (pgS q_) u) hE9) x_))
  refine St.retC 1 hS (.tuple #[.agg #[sc g u n cp, vi rf], vi (chkE m f k)]) [.e (ν1 1), .e (ν1 1)] trivial fun hw => ?_
  refine ⟨g, u, cp, retd (tuple2 rfl (vint ?_)), (.inl rfl), (hw.get 0 g (.fn u (u + n) (strs (pgS (cpyM m t f k)) u))), hw.fr0⟩
  all_goals (first | rfl | exact cpy_e1 hne | exact cpy_e2 hth | omega)
 ·
  have hth : thr m f k = true := thr_of_chk hb1
  refine wp_skip ?_
  refine pop_then ?_
  refine wp_region_seq ?_
  refine hS.opsC 3 [100, 0, 0] [8] fun _ => seg [(23, .agg #[sc g u n cp, vi rf]), (24, vi t), (25, .string (bytS m f k))] [(0, none), (2, none)] [.e (ν1 0), .e (ν1 0)] trivial fun ac wd hS => ?_
  refine hS.callC 57 #[.agg #[sc g u n cp, vi rf], vi t, .string (bytS m f k)] (ref03_PutM g u n cp rf t (bytS m f k) m _ (hS.mem.get 0 g (.fn u (u + n) (strs (pgS m) u))) (by first | assumption | omega | (simp_all; done) | (simp_all; omega)) (by first | assumption | omega | (simp_all; done) | (simp_all; omega))) ?_
  rintro _ wd ⟨g22, u23, cp24, rfl, hog0, hoh0, hF⟩
  have ho5 : g22 = g ∨ w.heap.size ≤ g22 := by rcases hog0 with hx | hx; rw [hx]; exact (.inl rfl); exact .inr (Nat.le_trans hS.mem.fr.size hx)
  refine ⟨.tuple #[.agg #[sc g22 u23 n cp24, vi rf], vi (chkE m t (((bytS m f k).size : Nat) : Int))], rfl, ?_⟩
  replace hS := (hS.to (hS.mem.outs hF [(g22, .fn u23 (u23 + n) (strs (pgS (putM m t (bytS m f k))) u23))] ⟨⟨rfl, hoh0, hog0.imp (fun e => ⟨0, .fn u (u + n) (strs (pgS m) u), by rw [e]; rfl, rfl⟩) id⟩, trivial⟩)).put (d := 26) (v := .tuple #[.agg #[sc g22 u23 n cp24, vi rf], vi (chkE m t (((bytS m f k).size : Nat) : Int))]) (by decide)
  clear hF
  refine hS.opsC 4 [0, 0, 100, 0] [8] fun _ => seg [(9, vi (chkE m t (((bytS m f k).size : Nat) : Int)))] [(1, some ((ν1 1), .cells [sc g22 u23 n cp24, vi rf] 30)), (2, none)] [.e (ν1 1), .e (ν1 1)] trivial fun ac wd hS => ?_
  refine list_nil_seq ?_
  refine wp_ret ?_
  have hE9 : (putM m t (bytS m f k)) = (cpyM m t f k) := by first | exact cpy_m1 hne | exact cpy_m2 hth
  replace hS := hS.to (hS.mem.tellF (b := g22) (lo := u23) (hi := (u23 + n)) (f := (strs (pgS (putM m t (bytS m f k))) u23)) 1 (u23 + n) (strs (pgS (cpyM m t f k)) u23) rfl (fun x_ _ _ => congrFun (congrArg (fun q_ => strs (pgS q_) u23) hE9) x_))
  refine St.retC 0 hS (.tuple #[.agg #[sc g22 u23 n cp24, vi rf], vi (chkE m t (((bytS m f k).size : Nat) : Int))]) [.e (ν1 1), .e (ν1 1)] trivial fun hw => ?_
  refine ⟨g22, u23, cp24, retd (tuple2 rfl (vint ?_)), ho5, (hw.get 1 g22 (.fn u23 (u23 + n) (strs (pgS (cpyM m t f k)) u23))), hw.fr0⟩
  all_goals (first | rfl | exact cpy_e1 hne | exact cpy_e2 hth | omega)

set_option maxRecDepth 100000 in
set_option maxHeartbeats 1000000 in
theorem ref03_StoreM (g : Nat) (u : Nat) (n : Nat) (cp : Nat) (rf : Int) (a : Int) (k : Int) (v : Int) (m : AM) (w : World) (hh0 : HE.holds w g (.fn u (u + n) (strs (pgS m) u))) (hcap : m.cap = n) (hn : n ≤ 1048576) (hv : 0 ≤ v ∧ v ≤ 18446744073709551615) :
    Calls Tryd.prog 54 #[.agg #[sc g u n cp, vi rf], vi a, vi k, vu v] w fun e w' => ∃ (g2 : Nat) (u2 : Nat) (cp2 : Nat), e = .returned (.tuple #[.agg #[sc g2 u2 n cp2, vi rf], vi (stE m a k)]) ∧ (g2 = g ∨ w.heap.size ≤ g2) ∧ HE.holds w' g2 (.fn u2 (u2 + n) (strs (pgS (stM m a k v)) u2)) ∧ Fr w w' no no := by
 refine enter (args := [.agg #[sc g u n cp, vi rf], vi a, vi k, vu v]) (D := no) (A := []) Tryd.func54 rfl 22 rfl [(g, .fn u (u + n) (strs (pgS m) u))] (WS.startL ⟨⟨rfl, hh0⟩, trivial⟩) fun ac hS => ?_
 refine hS.regS [0, 0, 0] [1, 2, 3] fun ν1 => seg [(4, pt (ν1 0) 0), (8, pt (ν1 1) 0)] [(0, none), (1, some ((ν1 0), .cells [sc g u n cp, vi rf] 30)), (2, some ((ν1 1), .cells [vnil, vi 0] 30))] [] trivial fun ac wd hS => ?_
 refine wp_seq ?_
 refine wp_region_seq ?_
 refine hS.opsC 1 [0] [1, 2, 3, 4, 8] fun _ => seg [(10, vi k)] [(0, none), (1, none), (2, none)] [] trivial fun ac wd hS => ?_
 refine hS.call0 111 #[vi k] 11 (ref03_whole k _  ) fun ac wd hS => ?_
 refine hS.opsC 1 [0] [1, 2, 3, 4, 8] fun _ => seg [(12, vb (!(wholeB k)))] [(0, none), (1, none), (2, none)] [] trivial fun ac wd hS => ?_
 refine list_nil_seq ?_
 refine hS.condC (!(wholeB k)) (fun hb1o hb1 => ?_) (fun hb1o hb1 => ?_)
 ·
  have hwh : wholeB k = false := by simpa using hb1
  refine hS.regS [100, 200, 0] [8] fun _ => seg [(9, vi 2)] [(0, none), (2, some ((ν1 1), .cells [sc g u n cp, vi rf] 30))] [.e (ν1 1), .e (ν1 1), .e (ν1 0), .e (ν1 0)] trivial fun ac wd hS => ?_
  refine wp_ret ?_
  refine pop_then_ret ?_
  have hE9 : m = (stM m a k v) := by first | exact st_m1 hwh | exact stM_num hwh
  replace hS := hS.to (hS.mem.tellF (b := g) (lo := u) (hi := (u + n)) (f := (strs (pgS m) u)) 0 (u + n) (strs (pgS (stM m a k v)) u) rfl (fun x_ _ _ => congrFun (congrArg (fun q_ => strs (pgS q_) u) hE9) x_))
  refine St.retC 1 hS (.tuple #[.agg #[sc g u n cp, vi rf], vi 2]) [.e (ν1 1), .e (ν1 1)] trivial fun hw => ?_
  refine ⟨g, u, cp, retd (tuple2 rfl (vint ?_)), (.inl rfl), (hw.get 0 g (.fn u (u + n) (strs (pgS (stM m a k v)) u))), hw.fr0⟩
  all_goals (first | rfl | exact st_e1 hwh | (rw [hsz9]; exact (stE_w hwh).symm) | omega)
 ·
  have hwh : wholeB k = true := by simpa using hb1
  have hk8 := wholeB_le hwh
  have hsz9 : (((numB v (Int.toNat k)).size : Nat) : Int) = k := by rw [numB_size]; omega
  refine wp_skip ?_
  refine pop_then ?_
  refine St.ordBeginS [(0, 1), (1, 1), (2, 1), (3, 1), (4, 0), (5, 0), (6, 1), (7, 1), (8, 0), (9, 1)] [(g, .fn u (u + n) (strs (pgS m) u)), ((ν1 0), .cells [sc g u n cp, vi rf] 30)] [0, 1] hS fun wd hS => ?_
  have hap := hS.mem.pairs (Hf := [(g, .fn u (u + n) (strs (pgS m) u)), ((ν1 0), .cells [sc g u n cp, vi rf] 30)]) (l := [0, 1])
  refine St.ordF [100, 0, 0, 0] [0, 1, 2, 3] [8] (rest := [(4, 0), (5, 0), (6, 1), (7, 1), (8, 0), (9, 1)]) hS hap <| segF [(14, .agg #[sc g u n cp, vi rf]), (15, vi a), (16, vu v), (17, vi k)] [.e (ν1 0), .e (ν1 0)] trivial fun ac hS => ?_
  refine hS.ordC 4 112 #[vu v, vi k] (ref03_Num v k _  (by first | assumption | omega | (simp_all; done) | (simp_all; omega)) (by omega)) ?_
  rintro _ wd ⟨rfl, hF⟩
  refine ⟨.string (numB v (Int.toNat k)), rfl, ?_⟩
  replace hS := (hS.to (hS.mem.keep0 hF)).put (d := 18) (v := .string (numB v (Int.toNat k))) (by decide)
  clear hF
  refine hS.ordV (l := [0, 1]) ?_
  refine hS.ordC 5 57 #[.agg #[sc g u n cp, vi rf], vi a, .string (numB v (Int.toNat k))] (ref03_PutM g u n cp rf a (numB v (Int.toNat k)) m _ (hS.mem.get 0 g (.fn u (u + n) (strs (pgS m) u))) (by first | assumption | omega | (simp_all; done) | (simp_all; omega)) (by first | assumption | omega | (simp_all; done) | (simp_all; omega))) ?_
  rintro _ wd ⟨g22, u23, cp24, rfl, hog0, hoh0, hF⟩
  have ho5 : g22 = g ∨ w.heap.size ≤ g22 := by rcases hog0 with hx | hx; rw [hx]; exact (.inl rfl); exact .inr (Nat.le_trans hS.mem.fr.size hx)
  refine ⟨.tuple #[.agg #[sc g22 u23 n cp24, vi rf], vi (chkE m a (((numB v (Int.toNat k)).size : Nat) : Int))], rfl, ?_⟩
  replace hS := (hS.to (hS.mem.outs hF [(g22, .fn u23 (u23 + n) (strs (pgS (putM m a (numB v (Int.toNat k)))) u23))] ⟨⟨rfl, hoh0, hog0.imp (fun e => ⟨0, .fn u (u + n) (strs (pgS m) u), by rw [e]; rfl, rfl⟩) id⟩, trivial⟩)).put (d := 19) (v := .tuple #[.agg #[sc g22 u23 n cp24, vi rf], vi (chkE m a (((numB v (Int.toNat k)).size : Nat) : Int))]) (by decide)
  clear hF
  refine hS.ordV (l := [0, 1]) ?_
  refine St.ordF [0, 0] [6, 7] [8] (rest := [(8, 0), (9, 1)]) hS hap <| segF [(20, .agg #[sc g22 u23 n cp24, vi rf]), (21, vi (chkE m a (((numB v (Int.toNat k)).size : Nat) : Int)))] [] trivial fun ac hS => ?_
  refine St.ord1 8 [200] [8, 21] [0, 1] hS rfl fun _ => seg [] [(0, none), (1, none), (2, some ((ν1 1), .cells [sc g22 u23 n cp24, vi rf] 30)), (3, none)] [.e (ν1 1), .e (ν1 1)] trivial ⟨by as_aux_lemma => kernel_rfl, fun ac wd hS => ?_⟩
  refine St.ordF [0] [9] [8] (rest := []) hS hap <| segF [(9, vi (chkE m a (((numB v (Int.toNat k)).size : Nat) : Int)))] [] trivial fun ac hS => ?_
  refine ord_nil ?_
  refine wp_ret ?_
  have hE9 : (putM m a (numB v (Int.toNat k))) = (stM m a k v) := by first | exact st_m1 hwh | exact stM_num hwh
  replace hS := hS.to (hS.mem.tellF (b := g22) (lo := u23) (hi := (u23 + n)) (f := (strs (pgS (putM m a (numB v (Int.toNat k)))) u23)) 3 (u23 + n) (strs (pgS (stM m a k v)) u23) rfl (fun x_ _ _ => congrFun (congrArg (fun q_ => strs (pgS q_) u23) hE9) x_))
  refine St.retC 2 hS (.tuple #[.agg #[sc g22 u23 n cp24, vi rf], vi (chkE m a (((numB v (Int.toNat k)).size : Nat) : Int))]) [.e (ν1 1), .e (ν1 1)] trivial fun hw => ?_
  refine ⟨g22, u23, cp24, retd (tuple2 rfl (vint ?_)), ho5, (hw.get 3 g22 (.fn u23 (u23 + n) (strs (pgS (stM m a k v)) u23))), hw.fr0⟩
  all_goals (first | rfl | exact st_e1 hwh | (rw [hsz9]; exact (stE_w hwh).symm) | omega)

end Go.Proofs.YtdjhdcaanmkblaaDoor.K
