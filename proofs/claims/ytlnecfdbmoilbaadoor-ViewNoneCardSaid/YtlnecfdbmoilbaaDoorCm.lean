/-
  Walks, printed by w2.py.
-/
import Derived.Test.YtlnecfdbmoilbaaDoorCl
import Derived.Test.YtlnecfdbmoilbaaDoorKz
import Derived.Test.YtlnecfdbmoilbaaDoorProg
namespace Go.Proofs.YtlnecfdbmoilbaaDoor.K
set_option linter.unusedVariables false
set_option linter.unusedSimpArgs false

set_option maxRecDepth 100000 in
set_option maxHeartbeats 1000000 in
theorem law03_ArenaKeeps (a : Int) (k : Int) (v : Int) (b : Nat) (o : Nat) (cp : Nat) (l : List Ac) (w : World) (hh0 : HE.holds w 1 (.fn 0 64 dbT)) (hh1 : HE.holds w b (.fn o (o + l.length * 6) (actsA l o))) (hl : l.length ≤ 9223372036854775807) (hv : 0 ≤ v ∧ v ≤ 18446744073709551615) :
    Calls Tryd.prog 5 #[vi a, vi k, vu v, sc b o l.length cp] w fun e w' => e = .returned (vb true) ∧ Fr w w' no no := by
 refine enter (args := [vi a, vi k, vu v, sc b o l.length cp]) (D := no) (A := []) Tryd.func5 rfl 147 rfl [(1, .fn 0 64 dbT), (b, .fn o (o + l.length * 6) (actsA l o))] (WS.startL ⟨⟨rfl, hh0⟩, ⟨rfl, hh1⟩, trivial⟩) fun ac hS => ?_
 refine hS.regS [0] [0, 1, 2, 3] fun _ => seg [] [(0, none), (1, none)] [] trivial fun ac wd hS => ?_
 refine wp_seq ?_
 refine wp_region_seq ?_
 refine hS.call0 13 #[] 22 (law03_awake  _ (hS.mem.get 0 1 (.fn 0 64 dbT)) ) fun ac wd hS => ?_
 refine hS.opsC 1 [0] [0, 1, 2, 3] fun _ => seg [(23, vb false)] [(0, none), (1, none)] [] trivial fun ac wd hS => ?_
 refine list_nil_seq ?_
 refine hS.condF ?_
 refine wp_skip ?_
 refine pop_then ?_
 refine wp_seq ?_
 refine wp_region_seq ?_
 refine hS.opsC 1 [0] [0, 1, 2, 3] fun _ => seg [(24, sc b o l.length cp)] [(0, none), (1, none)] [] trivial fun ac wd hS => ?_
 refine hS.call0 22 #[sc b o l.length cp] 25 (law03_Light b o cp l _ (hS.mem.get 1 b (.fn o (o + l.length * 6) (actsA l o))) (by first | assumption | omega | (simp_all; done) | (simp_all; omega))) fun ac wd hS => ?_
 refine hS.opsC 1 [0] [0, 1, 2, 3] fun _ => seg [(26, vb (!(lightB l)))] [(0, none), (1, none)] [] trivial fun ac wd hS => ?_
 refine list_nil_seq ?_
 refine hS.condC (!(lightB l)) (fun hb1o hb1 => ?_) (fun hb1o hb1 => ?_)
 ·
  refine hS.regS [0] [] fun _ => seg [(8, vb true)] [(0, none)] [] trivial fun ac wd hS => ?_
  refine wp_ret ?_
  refine pop_then_ret ?_
  refine St.retC 0 hS (vb true) [] trivial fun hw => ?_
  refine ⟨retd rfl, hw.fr0⟩
 ·
  have hli : lightB l = true := by simpa using hb1
  refine wp_skip ?_
  refine pop_then ?_
  refine wp_region_seq ?_
  refine hS.callC 14 #[vi 8] (ar_New 8 _  ) ?_
  rintro _ wd ⟨b'2, F3, rfl, hN, hF⟩
  refine ⟨pt b'2 0, rfl, ?_⟩
  replace hS := (hS.to (hS.mem.newA hN hF)).put (d := 27) (v := pt b'2 0) (by decide)
  clear hF
  refine hS.opsC 1 [0] [0, 1, 2, 3] fun _ => seg [(9, pt b'2 0)] [(0, none), (1, none)] [] trivial fun ac wd hS => ?_
  refine list_nil_seq ?_
  refine wp_seq ?_
  refine wp_region_seq ?_
  refine hS.opsC 1 [0] [0, 1, 2, 3, 9] fun _ => seg [(28, pt b'2 0)] [(0, none), (1, none)] [] trivial fun ac wd hS => ?_
  refine hS.callC 15 #[pt b'2 0, vi 0, vi 8] (ar_Commit b'2 F3 (AM.new 8) 0 8 _ (hS.mem.res 0) ) ?_
  rintro _ wd ⟨F4, rfl, hA, hF⟩
  refine ⟨vi (comE (AM.new 8) 0 8), rfl, ?_⟩
  replace hS := (hS.to (hS.mem.stepA 0 rfl hA hF)).put (d := 29) (v := vi (comE (AM.new 8) 0 8)) (by decide)
  clear hF
  refine hS.opsC 1 [0] [0, 1, 2, 3, 9] fun _ => seg [(30, vb (((comE (AM.new 8) 0 8) : Int) != 0))] [(0, none), (1, none)] [] trivial fun ac wd hS => ?_
  refine list_nil_seq ?_
  refine hS.condK (((comE (AM.new 8) 0 8) : Int) != 0) false (by decide +kernel) ?_
  show Code.wp _ _ _ _ _
  refine wp_skip ?_
  refine pop_then ?_
  refine wp_seq ?_
  refine wp_region_seq ?_
  refine hS.opsC 4 [0, 0, 0, 0] [0, 1, 2, 3, 9] fun _ => seg [(31, pt b'2 0), (32, vi a), (33, vi k), (34, vu v)] [(0, none), (1, none)] [] trivial fun ac wd hS => ?_
  refine hS.callC 23 #[pt b'2 0, vi a, vi k, vu v] (ar_Store b'2 F4 (comM (AM.new 8) 0 8) a k v _ (hS.mem.res 0) ) ?_
  rintro _ wd ⟨F5, rfl, hA, hF⟩
  refine ⟨vi (stE (comM (AM.new 8) 0 8) a k), rfl, ?_⟩
  replace hS := (hS.to (hS.mem.stepA 0 rfl hA hF)).put (d := 35) (v := vi (stE (comM (AM.new 8) 0 8) a k)) (by decide)
  clear hF
  refine hS.opsC 1 [0] [0, 1, 2, 3, 9] fun _ => seg [(36, vb (((stE (comM (AM.new 8) 0 8) a k) : Int) != 0))] [(0, none), (1, none)] [] trivial fun ac wd hS => ?_
  refine list_nil_seq ?_
  refine hS.condC (((stE (comM (AM.new 8) 0 8) a k) : Int) != 0) (fun hb6o hb6 => ?_) (fun hb6o hb6 => ?_)
  ·
   refine hS.regS [0] [] fun _ => seg [(8, vb true)] [(0, none)] [] trivial fun ac wd hS => ?_
   refine wp_ret ?_
   refine pop_then_ret ?_
   refine St.retC 0 hS (vb true) [] trivial fun hw => ?_
   refine ⟨retd rfl, hw.fr0⟩
  ·
   have hst0 : stE (comM (AM.new 8) 0 8) a k = 0 := hb6
   obtain ⟨hwh, hthr⟩ := st_facts hst0
   obtain ⟨hk1, hk8⟩ := wholeB_le hwh
   obtain ⟨hI1, hI2, hI3, hI4⟩ := inB_facts (thr_in hthr)
   have hc8 : (comM (AM.new 8) 0 8).cap = 8 := full8.1
   have hm1 := keeps0 full8 (by decide +kernel) hst0 v
   have hb0 : 0 ≤ a := hI1
   refine wp_skip ?_
   refine pop_then ?_
   refine wp_region_seq ?_
   refine hS.opsC 3 [0, 0, 0] [0, 1, 2, 3, 9] fun _ => seg [(38, pt b'2 0), (39, vi a), (40, vi k)] [(0, none), (1, none)] [] trivial fun ac wd hS => ?_
   refine hS.call0 21 #[pt b'2 0, vi a, vi k] 41 (ar_Load b'2 F5 (stM (comM (AM.new 8) 0 8) a k v) a k _ (hS.mem.res 0) ) fun ac wd hS => ?_
   refine hS.opsC 5 [0, 0, 0, 0, 0] [0, 1, 2, 3, 9] fun _ => seg [(10, vu (ldV (stM (comM (AM.new 8) 0 8) a k v) a k))] [(0, none), (1, none)] [] trivial fun ac wd hS => ?_
   refine list_nil_seq ?_
   refine wp_seq ?_
   refine hS.regS [0, 0, 0, 3, 3, 23, 23, 3, 80, 0, 3, 3, 3, 3, 3, 3, 83, 80] [0, 1, 3, 9, 10] fun _ => seg [(61, vb (((decide ((k : Int) < 8)) && ((((ldV (stM (comM (AM.new 8) 0 8) a k v) a k) / (2 ^ Int.toNat (8 * k))) : Int) != 0)) || (((k : Int) == 8) && (((ldV (stM (comM (AM.new 8) 0 8) a k v) a k) : Int) != v))))] [(0, none), (1, none)] [.p ((((decide ((k : Int) < 8)) = true) ∧ True) → AllP [0 ≤ (8 * k) ∧ Int.fdiv (ldV (stM (comM (AM.new 8) 0 8) a k v) a k) (2 ^ (min (Int.toNat (8 * k)) 64)) = ((ldV (stM (comM (AM.new 8) 0 8) a k v) a k) / (2 ^ Int.toNat (8 * k)))]), .p ((((decide ((k : Int) < 8)) = true) ∧ True) → AllP [fit .i64 (8 * k)])] ⟨(fun ⟨hc0, _⟩ => by replace hc0 := nrm hc0; exact ⟨shr2_u64 (by omega) (by omega) (by trivial), trivial⟩), (fun ⟨hc0, _⟩ => by replace hc0 := nrm hc0; exact ⟨fit_i64 (by omega), trivial⟩), trivial⟩ fun ac wd hS => ?_
   refine hS.condK (((decide ((k : Int) < 8)) && ((((ldV (stM (comM (AM.new 8) 0 8) a k v) a k) / (2 ^ Int.toNat (8 * k))) : Int) != 0)) || (((k : Int) == 8) && (((ldV (stM (comM (AM.new 8) 0 8) a k v) a k) : Int) != v))) false (by exact keeps1 hwh hv hm1) ?_
   show Code.wp _ _ _ _ _
   refine wp_skip ?_
   refine pop_then ?_
   refine wp_seq ?_
   refine hS.regS [0, 0, 0] [0, 1, 9, 10] fun _ => seg [(62, sc b o l.length cp), (63, vi ((l.length : Nat) : Int)), (64, vi 0)] [(0, none), (1, none)] [] trivial fun ac wd hS => ?_
   refine wp_block ?_
   refine St.loopC (σ := Int × (Nat → Prop) × AM) (fun (x : Int × (Nat → Prop) × AM) => match x with | (x64, Fx, mx) => ⟨[(0, [], vi a), (1, [], vi k), (9, [], pt b'2 0), (10, [], vu (ldV (stM (comM (AM.new 8) 0 8) a k v) a k)), (62, [], sc b o l.length cp), (63, [], vi ((l.length : Nat) : Int)), (64, [], vi x64)], [(1, .fn 0 64 dbT), (b, .fn o (o + l.length * 6) (actsA l o))], [arR b'2 Fx mx], (0 ≤ x64 ∧ x64 ≤ (l.length : Int)) ∧ (Full mx 8) ∧ (Kept (stM (comM (AM.new 8) 0 8) a k v) mx a k) ∧ (mx.armed = false) ∧ True, l.length - Int.toNat x64⟩) (0, F5, (stM (comM (AM.new 8) 0 8) a k v)) ⟨(by first | omega | exact hm1.1 | exact hm1.2.1 | exact fun j hj => rfl), (by first | omega | exact hm1.1 | exact hm1.2.1 | exact fun j hj => rfl), (by first | omega | exact hm1.1 | exact hm1.2.1 | exact fun j hj => rfl), (by first | omega | exact hm1.1 | exact hm1.2.1 | exact fun j hj => rfl), trivial⟩ hS ?_
   clear hS
   rintro ⟨x64, Fx, mx⟩ ⟨i0, i1, i2, i3, -⟩ ac wd hS
   replace i0 : 0 ≤ x64 ∧ x64 ≤ (l.length : Int) := i0
   replace i1 : Full mx 8 := i1
   replace i2 : Kept (stM (comM (AM.new 8) 0 8) a k v) mx a k := i2
   replace i3 : mx.armed = false := i3
   have hs6 : x64 < (l.length : Int) → (acAt l (Int.toNat x64)).s.size ≤ 6000 := fun h => lightB_at hli (by omega)
   refine hS.regS [0] [0, 1, 9, 10, 62, 63, 64] fun _ => seg [(65, vb (decide ((x64 : Int) < ((l.length : Nat) : Int))))] [(0, none), (1, none)] [] trivial fun ac wd hS => ?_
   refine wp_seq ?_
   refine hS.condC (decide ((x64 : Int) < ((l.length : Nat) : Int))) (fun hb7o hb7 => ?_) (fun hb7o hb7 => ?_)
   ·
    refine wp_skip ?_
    refine pop_then ?_
    refine wp_seq ?_
    refine wp_block ?_
    refine hS.regS [20, fx 100 (.agg #[v8 ((acAt l (Int.toNat x64)).d), vi ((acAt l (Int.toNat x64)).a), vi ((acAt l (Int.toNat x64)).f), vi ((acAt l (Int.toNat x64)).n), vu ((acAt l (Int.toNat x64)).x), .string ((acAt l (Int.toNat x64)).s)]), 0, 200] [0, 1, 9, 10, 62, 63, 64] fun ν17 => seg [(13, pt (ν17 0) 0)] [(0, none), (1, none), (2, some ((ν17 0), .cells [v8 ((acAt l (Int.toNat x64)).d), vi ((acAt l (Int.toNat x64)).a), vi ((acAt l (Int.toNat x64)).f), vi ((acAt l (Int.toNat x64)).n), vu ((acAt l (Int.toNat x64)).x), .string ((acAt l (Int.toNat x64)).s)] 41))] [.e (ν17 0), .e (ν17 0), .e (ν17 0), .e (ν17 0), .e (ν17 0), .e (ν17 0), .p ((.agg #[((actsA l o) (o + Int.toNat x64 * 6)), ((actsA l o) (o + Int.toNat x64 * 6 + 1)), ((actsA l o) (o + Int.toNat x64 * 6 + 2)), ((actsA l o) (o + Int.toNat x64 * 6 + 3)), ((actsA l o) (o + Int.toNat x64 * 6 + 4)), ((actsA l o) (o + Int.toNat x64 * 6 + 5))] : Value) = .agg #[v8 ((acAt l (Int.toNat x64)).d), vi ((acAt l (Int.toNat x64)).a), vi ((acAt l (Int.toNat x64)).f), vi ((acAt l (Int.toNat x64)).n), vu ((acAt l (Int.toNat x64)).x), .string ((acAt l (Int.toNat x64)).s)]), .e b, .p (o ≤ o + Int.toNat x64 * 6 + 5 ∧ o + Int.toNat x64 * 6 + 5 < (o + l.length * 6)), .e b, .p (o ≤ o + Int.toNat x64 * 6 + 4 ∧ o + Int.toNat x64 * 6 + 4 < (o + l.length * 6)), .e b, .p (o ≤ o + Int.toNat x64 * 6 + 3 ∧ o + Int.toNat x64 * 6 + 3 < (o + l.length * 6)), .e b, .p (o ≤ o + Int.toNat x64 * 6 + 2 ∧ o + Int.toNat x64 * 6 + 2 < (o + l.length * 6)), .e b, .p (o ≤ o + Int.toNat x64 * 6 + 1 ∧ o + Int.toNat x64 * 6 + 1 < (o + l.length * 6)), .e b, .p (o ≤ o + Int.toNat x64 * 6 ∧ o + Int.toNat x64 * 6 < (o + l.length * 6)), .p (0 ≤ x64 ∧ x64 < ((l.length : Nat) : Int))] ⟨(agg6 (actsA_0 l o (Int.toNat x64)) (actsA_1 l o (Int.toNat x64)) (actsA_2 l o (Int.toNat x64)) (actsA_3 l o (Int.toNat x64)) (actsA_4 l o (Int.toNat x64)) (actsA_5 l o (Int.toNat x64))), (by omega), (by omega), (by omega), (by omega), (by omega), (by omega), (by omega), trivial⟩ fun ac wd hS => ?_
    refine hS.regS [0, 200, 0, 0] [0, 1, 9, 10, 13, 62, 63, 64] fun _ => seg [(14, vi ((ByteArray.size ((acAt l (Int.toNat x64)).s) : Nat) : Int))] [(0, none), (1, none), (2, none)] [.e (ν17 0)] trivial fun ac wd hS => ?_
    refine wp_seq ?_
    refine wp_block ?_
    refine hS.regS [0, 200, 0, 0, 3, 203, 3, 80, 0, 3, 203, 3, 3, 23, 3, 3, 3, 203, 3, 23, 3, 3, 83, 80, 0] [0, 1, 9, 10, 13, 62, 63, 64] fun _ => seg [(77, vb (((decide (((acAt l (Int.toNat x64)).a : Int) < 0)) || (decide ((32768 : Int) < ((acAt l (Int.toNat x64)).a)))) || ((decide (((acAt l (Int.toNat x64)).a : Int) < (a + k))) && (decide ((a : Int) < (((acAt l (Int.toNat x64)).a) + ((ByteArray.size ((acAt l (Int.toNat x64)).s) : Nat) : Int)))))))] [(0, none), (1, none), (2, none)] [.p ((((decide (((acAt l (Int.toNat x64)).a : Int) < (a + k))) = true) ∧ (((decide (((acAt l (Int.toNat x64)).a : Int) < 0)) || (decide ((32768 : Int) < ((acAt l (Int.toNat x64)).a)))) = false) ∧ True) → AllP [fit .i64 (((acAt l (Int.toNat x64)).a) + ((ByteArray.size ((acAt l (Int.toNat x64)).s) : Nat) : Int))]), .p ((((decide (((acAt l (Int.toNat x64)).a : Int) < (a + k))) = true) ∧ (((decide (((acAt l (Int.toNat x64)).a : Int) < 0)) || (decide ((32768 : Int) < ((acAt l (Int.toNat x64)).a)))) = false) ∧ True) → AllP [((ν17 0) : Nat) = (ν17 0)]), .p (((((decide (((acAt l (Int.toNat x64)).a : Int) < 0)) || (decide ((32768 : Int) < ((acAt l (Int.toNat x64)).a)))) = false) ∧ True) → AllP [fit .i64 (a + k)]), .p (((((decide (((acAt l (Int.toNat x64)).a : Int) < 0)) || (decide ((32768 : Int) < ((acAt l (Int.toNat x64)).a)))) = false) ∧ True) → AllP [((ν17 0) : Nat) = (ν17 0)]), .p ((((decide (((acAt l (Int.toNat x64)).a : Int) < 0)) = false) ∧ True) → AllP [((ν17 0) : Nat) = (ν17 0)]), .e (ν17 0)] ⟨(fun ⟨hc0, hc1, _⟩ => by replace hc0 := nrm hc0; replace hc1 := nrm hc1; exact ⟨fit_i64 (by omega), trivial⟩), (fun ⟨hc0, hc1, _⟩ => by replace hc0 := nrm hc0; replace hc1 := nrm hc1; exact ⟨rfl, trivial⟩), (fun ⟨hc0, _⟩ => by replace hc0 := nrm hc0; exact ⟨fit_i64 (by omega), trivial⟩), (fun ⟨hc0, _⟩ => by replace hc0 := nrm hc0; exact ⟨rfl, trivial⟩), (fun ⟨hc0, _⟩ => by replace hc0 := nrm hc0; exact ⟨rfl, trivial⟩), trivial⟩ fun ac wd hS => ?_
    refine hS.condC (((decide (((acAt l (Int.toNat x64)).a : Int) < 0)) || (decide ((32768 : Int) < ((acAt l (Int.toNat x64)).a)))) || ((decide (((acAt l (Int.toNat x64)).a : Int) < (a + k))) && (decide ((a : Int) < (((acAt l (Int.toNat x64)).a) + ((ByteArray.size ((acAt l (Int.toNat x64)).s) : Nat) : Int)))))) (fun hb8o hb8 => ?_) (fun hb8o hb8 => ?_)
    ·
     refine wp_skip ?_
     refine pop_block ?_
     refine pop_then ?_
     refine wp_region_seq ?_
     refine hS.opsC 3 [0, 0, 0] [0, 1, 9, 10, 62, 63, 64] fun _ => seg [(103, pt b'2 0), (104, vi a), (105, vi k)] [(0, none), (1, none)] [] trivial fun ac wd hS => ?_
     refine hS.call0 21 #[pt b'2 0, vi a, vi k] 106 (ar_Load b'2 Fx mx a k _ (hS.mem.res 0) ) fun ac wd hS => ?_
     refine hS.opsC 5 [0, 0, 0, 0, 0] [0, 1, 9, 10, 62, 63, 64] fun _ => seg [(15, vu (ldV mx a k)), (16, vi (ldE mx a k))] [(0, none), (1, none)] [] trivial fun ac wd hS => ?_
     refine list_nil_seq ?_
     refine hS.regS [0, 0, 0, 3, 3, 3, 80] [0, 1, 9, 10, 62, 63, 64] fun _ => seg [(115, vb ((((ldE mx a k) : Int) != 0) || (((ldV mx a k) : Int) != (ldV (stM (comM (AM.new 8) 0 8) a k v) a k))))] [(0, none), (1, none)] [] trivial fun ac wd hS => ?_
     refine hS.condK ((((ldE mx a k) : Int) != 0) || (((ldV mx a k) : Int) != (ldV (stM (comM (AM.new 8) 0 8) a k v) a k))) false (by exact keeps2 hwh hm1 i1 i2) ?_
     show Code.wp _ _ _ _ _
     refine wp_skip ?_
     refine pop_block ?_
     refine pop_then ?_
     refine hS.regC [20, 0] [0, 1, 9, 10, 62, 63] fun _ => seg [(64, vi (x64 + 1))] [(0, none), (1, none)] [.p (fit .i64 (x64 + 1))] ⟨fit_i64 (by omega), trivial⟩ fun ac wd hS => ?_
     exact pop_then (hS.next ((x64 + 1), Fx, mx) ⟨(by first | omega | assumption | (simp; done) | (simp; omega)), (by first | exact i1 | exact i1.put _ _), (by first | exact i2 | exact kept_put i2 i1 hb0 (by omega)), (by first | exact i3 | exact (putM_armed _ _ _).trans i3), trivial⟩ (by dsimp only; omega))
    ·
     refine wp_region_lit ?_
     refine hS.opsC 5 [0, 0, 200, 0, 200] [0, 1, 9, 10, 62, 63, 64] fun _ => seg [(71, pt b'2 0), (73, vi ((acAt l (Int.toNat x64)).a)), (75, .string ((acAt l (Int.toNat x64)).s))] [(0, none), (1, none)] [.e (ν17 0), .e (ν17 0)] trivial fun ac wd hS => ?_
     refine hS.callC 16 #[pt b'2 0, vi ((acAt l (Int.toNat x64)).a), .string ((acAt l (Int.toNat x64)).s)] (ar_Put b'2 Fx mx ((acAt l (Int.toNat x64)).a) ((acAt l (Int.toNat x64)).s) _ (hS.mem.res 0) ) ?_
     rintro _ wd ⟨F9, rfl, hA, hF⟩
     refine ⟨vi (chkE mx ((acAt l (Int.toNat x64)).a) (((ByteArray.size ((acAt l (Int.toNat x64)).s)) : Nat) : Int)), rfl, ?_⟩
     replace hS := (hS.to (hS.mem.stepA 0 rfl hA hF)).put (d := 76) (v := vi (chkE mx ((acAt l (Int.toNat x64)).a) (((ByteArray.size ((acAt l (Int.toNat x64)).s)) : Nat) : Int))) (by decide)
     clear hF
     refine list_nil ?_
     refine pop_block ?_
     refine pop_then ?_
     refine wp_region_seq ?_
     refine hS.opsC 3 [0, 0, 0] [0, 1, 9, 10, 62, 63, 64] fun _ => seg [(103, pt b'2 0), (104, vi a), (105, vi k)] [(0, none), (1, none)] [] trivial fun ac wd hS => ?_
     refine hS.call0 21 #[pt b'2 0, vi a, vi k] 106 (ar_Load b'2 F9 (putM mx ((acAt l (Int.toNat x64)).a) ((acAt l (Int.toNat x64)).s)) a k _ (hS.mem.res 0) ) fun ac wd hS => ?_
     refine hS.opsC 5 [0, 0, 0, 0, 0] [0, 1, 9, 10, 62, 63, 64] fun _ => seg [(15, vu (ldV (putM mx ((acAt l (Int.toNat x64)).a) ((acAt l (Int.toNat x64)).s)) a k)), (16, vi (ldE (putM mx ((acAt l (Int.toNat x64)).a) ((acAt l (Int.toNat x64)).s)) a k))] [(0, none), (1, none)] [] trivial fun ac wd hS => ?_
     refine list_nil_seq ?_
     refine hS.regS [0, 0, 0, 3, 3, 3, 80] [0, 1, 9, 10, 62, 63, 64] fun _ => seg [(115, vb ((((ldE (putM mx ((acAt l (Int.toNat x64)).a) ((acAt l (Int.toNat x64)).s)) a k) : Int) != 0) || (((ldV (putM mx ((acAt l (Int.toNat x64)).a) ((acAt l (Int.toNat x64)).s)) a k) : Int) != (ldV (stM (comM (AM.new 8) 0 8) a k v) a k))))] [(0, none), (1, none)] [] trivial fun ac wd hS => ?_
     refine hS.condK ((((ldE (putM mx ((acAt l (Int.toNat x64)).a) ((acAt l (Int.toNat x64)).s)) a k) : Int) != 0) || (((ldV (putM mx ((acAt l (Int.toNat x64)).a) ((acAt l (Int.toNat x64)).s)) a k) : Int) != (ldV (stM (comM (AM.new 8) 0 8) a k v) a k))) false (by exact keeps2 hwh hm1 (i1.put _ _) (kept_put i2 i1 hb0 (by omega))) ?_
     show Code.wp _ _ _ _ _
     refine wp_skip ?_
     refine pop_block ?_
     refine pop_then ?_
     refine hS.regC [20, 0] [0, 1, 9, 10, 62, 63] fun _ => seg [(64, vi (x64 + 1))] [(0, none), (1, none)] [.p (fit .i64 (x64 + 1))] ⟨fit_i64 (by omega), trivial⟩ fun ac wd hS => ?_
     exact pop_then (hS.next ((x64 + 1), F9, (putM mx ((acAt l (Int.toNat x64)).a) ((acAt l (Int.toNat x64)).s))) ⟨(by first | omega | assumption | (simp; done) | (simp; omega)), (by first | exact i1 | exact i1.put _ _), (by first | exact i2 | exact kept_put i2 i1 hb0 (by omega)), (by first | exact i3 | exact (putM_armed _ _ _).trans i3), trivial⟩ (by dsimp only; omega))
   ·
    refine wp_exit ?_
    refine pop_then_exit ?_
    refine pop_then_exit ?_
    refine pop_block_hit ?_
    refine pop_then ?_
    refine hS.regS [0, 20, 0] [9] fun _ => seg [(17, vi (a / 4096))] [(0, none)] [.p (4096 ≠ 0 ∧ IntKind.i64.wrap (Int.tdiv a 4096) = a / 4096)] ⟨quo2 (by omega) (by omega) (by omega), trivial⟩ fun ac wd hS => ?_
    refine wp_region_seq ?_
    refine hS.opsC 2 [0, 0] [9, 17] fun _ => seg [(119, pt b'2 0), (120, vi (a / 4096))] [(0, none)] [] trivial fun ac wd hS => ?_
    refine hS.callC 24 #[pt b'2 0, vi (a / 4096), vi 1] (ar_Decommit b'2 Fx mx (a / 4096) 1 _ (hS.mem.res 0) ) ?_
    rintro _ wd ⟨F10, rfl, hA, hF⟩
    refine ⟨vi (decE mx (a / 4096) 1), rfl, ?_⟩
    replace hS := (hS.to (hS.mem.stepA 0 rfl hA hF)).put (d := 121) (v := vi (decE mx (a / 4096) 1)) (by decide)
    clear hF
    refine hS.opsC 2 [0, 0] [9, 17, 121] fun _ => seg [(122, pt b'2 0), (123, vi (a / 4096))] [(0, none)] [] trivial fun ac wd hS => ?_
    refine hS.callC 15 #[pt b'2 0, vi (a / 4096), vi 1] (ar_Commit b'2 F10 (decM mx (a / 4096) 1) (a / 4096) 1 _ (hS.mem.res 0) ) ?_
    rintro _ wd ⟨F11, rfl, hA, hF⟩
    refine ⟨vi (comE (decM mx (a / 4096) 1) (a / 4096) 1), rfl, ?_⟩
    replace hS := (hS.to (hS.mem.stepA 0 rfl hA hF)).put (d := 124) (v := vi (comE (decM mx (a / 4096) 1) (a / 4096) 1)) (by decide)
    clear hF
    refine hS.opsC 2 [0, 0] [9, 17] fun _ => seg [(18, vi (decE mx (a / 4096) 1)), (19, vi (comE (decM mx (a / 4096) 1) (a / 4096) 1))] [(0, none)] [] trivial fun ac wd hS => ?_
    refine list_nil_seq ?_
    refine wp_region_seq ?_
    refine hS.opsC 3 [0, 0, 20] [18, 19] fun _ => seg [(126, pt b'2 0), (128, vi ((a / 4096) * 4096))] [(0, none)] [.p (fit .i64 ((a / 4096) * 4096))] ⟨fit_i64 (by omega), trivial⟩ fun ac wd hS => ?_
    refine hS.call0 17 #[pt b'2 0, vi ((a / 4096) * 4096), vi 4096] 129 (ar_Bytes b'2 F11 (comM (decM mx (a / 4096) 1) (a / 4096) 1) ((a / 4096) * 4096) 4096 _ (hS.mem.res 0) ) fun ac wd hS => ?_
    refine hS.opsC 5 [0, 0, 0, 0, 0] [18, 19] fun _ => seg [(20, .string (bytS (comM (decM mx (a / 4096) 1) (a / 4096) 1) ((a / 4096) * 4096) 4096)), (21, vi (chkE (comM (decM mx (a / 4096) 1) (a / 4096) 1) ((a / 4096) * 4096) 4096))] [(0, none)] [] trivial fun ac wd hS => ?_
    refine list_nil_seq ?_
    refine wp_region_seq ?_
    refine hS.opsC 11 [0, 0, 0, 3, 3, 80, 0, 3, 3, 80, 0] [20] fun _ => seg [(142, vb (((((decE mx (a / 4096) 1) : Int) == 0) && (((comE (decM mx (a / 4096) 1) (a / 4096) 1) : Int) == 0)) && (((chkE (comM (decM mx (a / 4096) 1) (a / 4096) 1) ((a / 4096) * 4096) 4096) : Int) == 0)))] [(0, none)] [] trivial fun ac wd hS => ?_
    rcases Bool.eq_false_or_eq_true (((((decE mx (a / 4096) 1) : Int) == 0) && (((comE (decM mx (a / 4096) 1) (a / 4096) 1) : Int) == 0)) && (((chkE (comM (decM mx (a / 4096) 1) (a / 4096) 1) ((a / 4096) * 4096) 4096) : Int) == 0)) with hg12o | hg12o
    ·
     have hg12 := nrm hg12o
     replace hS := hS.fix 142 (vb true) (congrArg Value.bool hg12o)
     refine hS.opsC 1 [1] [142] fun _ => seg [(143, .string (bytS (comM (decM mx (a / 4096) 1) (a / 4096) 1) ((a / 4096) * 4096) 4096))] [(0, none)] [.t true] trivial fun ac wd hS => ?_
     refine hS.callG true 25 #[vi 4096] (ref03_Noughts 4096 _  (by first | assumption | omega | (simp_all; done) | (simp_all; omega))) ?_
     rintro _ wd ⟨rfl, hF⟩
     refine ⟨.string (bs (fun _ => 0) (Int.toNat 4096)), rfl, ?_⟩
     replace hS := (hS.to (hS.mem.keep0 hF)).put (d := 144) (v := .string (bs (fun _ => 0) (Int.toNat 4096))) (by decide)
     clear hF
     refine hS.opsC 3 [1, 70, 0] [] fun _ => seg [(8, vb (ByteArray.toList (bytS (comM (decM mx (a / 4096) 1) (a / 4096) 1) ((a / 4096) * 4096) 4096) == ByteArray.toList (bs (fun _ => 0) (Int.toNat 4096))))] [(0, none)] [.t true, .t true] trivial fun ac wd hS => ?_
     refine list_nil_seq ?_
     refine wp_ret ?_
     refine St.retC 0 hS (vb (ByteArray.toList (bytS (comM (decM mx (a / 4096) 1) (a / 4096) 1) ((a / 4096) * 4096) 4096) == ByteArray.toList (bs (fun _ => 0) (Int.toNat 4096)))) [] trivial fun hw => ?_
     refine ⟨retd (vbool ?_), hw.fr0⟩
     all_goals (first | rfl | exact keeps3 i1 i3 hI1 (by omega) | exact Bool.noConfusion ((keeps4 i1 i3 hI1 (by omega)).symm.trans (by assumption)) | exact absurd hli (by assumption))
    ·
     have hg12 := nrm hg12o
     replace hS := hS.fix 142 (vb false) (congrArg Value.bool hg12o)
     refine hS.opsC 5 [2, 2, 2, 60, 0] [] fun _ => seg [(8, vb false)] [(0, none)] [.t false, .t false, .t false, .t false] trivial fun ac wd hS => ?_
     refine list_nil_seq ?_
     refine wp_ret ?_
     refine St.retC 0 hS (vb false) [] trivial fun hw => ?_
     refine ⟨retd (vbool ?_), hw.fr0⟩
     all_goals (first | rfl | exact keeps3 i1 i3 hI1 (by omega) | exact Bool.noConfusion ((keeps4 i1 i3 hI1 (by omega)).symm.trans (by assumption)) | exact absurd hli (by assumption))

set_option maxRecDepth 100000 in
set_option maxHeartbeats 1000000 in
theorem law03_ArenaKeeps0 (a : Int) (k : Int) (v : Int) (z : Option Addr) (cp : Nat) (w : World) (hh0 : HE.holds w 1 (.fn 0 64 dbT)) (hv : 0 ≤ v ∧ v ≤ 18446744073709551615) :
    Calls Tryd.prog 5 #[vi a, vi k, vu v, .slice z 0 cp] w fun e w' => e = .returned (vb true) ∧ Fr w w' no no := by
 refine enter (args := [vi a, vi k, vu v, .slice z 0 cp]) (D := no) (A := []) Tryd.func5 rfl 147 rfl [(1, .fn 0 64 dbT)] (WS.startL ⟨⟨rfl, hh0⟩, trivial⟩) fun ac hS => ?_
 refine hS.regS [0] [0, 1, 2, 3] fun _ => seg [] [(0, none)] [] trivial fun ac wd hS => ?_
 refine wp_seq ?_
 refine wp_region_seq ?_
 refine hS.call0 13 #[] 22 (law03_awake  _ (hS.mem.get 0 1 (.fn 0 64 dbT)) ) fun ac wd hS => ?_
 refine hS.opsC 1 [0] [0, 1, 2, 3] fun _ => seg [(23, vb false)] [(0, none)] [] trivial fun ac wd hS => ?_
 refine list_nil_seq ?_
 refine hS.condF ?_
 refine wp_skip ?_
 refine pop_then ?_
 refine wp_seq ?_
 refine wp_region_seq ?_
 refine hS.opsC 1 [0] [0, 1, 2, 3] fun _ => seg [(24, .slice z 0 cp)] [(0, none)] [] trivial fun ac wd hS => ?_
 refine hS.call0 22 #[.slice z 0 cp] 25 (law03_Light0 z cp _  ) fun ac wd hS => ?_
 refine hS.opsC 1 [0] [0, 1, 2, 3] fun _ => seg [(26, vb false)] [(0, none)] [] trivial fun ac wd hS => ?_
 refine list_nil_seq ?_
 refine hS.condF ?_
 refine wp_skip ?_
 refine pop_then ?_
 refine wp_region_seq ?_
 refine hS.callC 14 #[vi 8] (ar_New 8 _  ) ?_
 rintro _ wd ⟨b'1, F2, rfl, hN, hF⟩
 refine ⟨pt b'1 0, rfl, ?_⟩
 replace hS := (hS.to (hS.mem.newA hN hF)).put (d := 27) (v := pt b'1 0) (by decide)
 clear hF
 refine hS.opsC 1 [0] [0, 1, 2, 3] fun _ => seg [(9, pt b'1 0)] [(0, none)] [] trivial fun ac wd hS => ?_
 refine list_nil_seq ?_
 refine wp_seq ?_
 refine wp_region_seq ?_
 refine hS.opsC 1 [0] [0, 1, 2, 3, 9] fun _ => seg [(28, pt b'1 0)] [(0, none)] [] trivial fun ac wd hS => ?_
 refine hS.callC 15 #[pt b'1 0, vi 0, vi 8] (ar_Commit b'1 F2 (AM.new 8) 0 8 _ (hS.mem.res 0) ) ?_
 rintro _ wd ⟨F3, rfl, hA, hF⟩
 refine ⟨vi (comE (AM.new 8) 0 8), rfl, ?_⟩
 replace hS := (hS.to (hS.mem.stepA 0 rfl hA hF)).put (d := 29) (v := vi (comE (AM.new 8) 0 8)) (by decide)
 clear hF
 refine hS.opsC 1 [0] [0, 1, 2, 3, 9] fun _ => seg [(30, vb (((comE (AM.new 8) 0 8) : Int) != 0))] [(0, none)] [] trivial fun ac wd hS => ?_
 refine list_nil_seq ?_
 refine hS.condK (((comE (AM.new 8) 0 8) : Int) != 0) false (by decide +kernel) ?_
 show Code.wp _ _ _ _ _
 refine wp_skip ?_
 refine pop_then ?_
 refine wp_seq ?_
 refine wp_region_seq ?_
 refine hS.opsC 4 [0, 0, 0, 0] [0, 1, 2, 3, 9] fun _ => seg [(31, pt b'1 0), (32, vi a), (33, vi k), (34, vu v)] [(0, none)] [] trivial fun ac wd hS => ?_
 refine hS.callC 23 #[pt b'1 0, vi a, vi k, vu v] (ar_Store b'1 F3 (comM (AM.new 8) 0 8) a k v _ (hS.mem.res 0) ) ?_
 rintro _ wd ⟨F4, rfl, hA, hF⟩
 refine ⟨vi (stE (comM (AM.new 8) 0 8) a k), rfl, ?_⟩
 replace hS := (hS.to (hS.mem.stepA 0 rfl hA hF)).put (d := 35) (v := vi (stE (comM (AM.new 8) 0 8) a k)) (by decide)
 clear hF
 refine hS.opsC 1 [0] [0, 1, 2, 3, 9] fun _ => seg [(36, vb (((stE (comM (AM.new 8) 0 8) a k) : Int) != 0))] [(0, none)] [] trivial fun ac wd hS => ?_
 refine list_nil_seq ?_
 refine hS.condC (((stE (comM (AM.new 8) 0 8) a k) : Int) != 0) (fun hb5o hb5 => ?_) (fun hb5o hb5 => ?_)
 ·
  refine hS.regS [0] [] fun _ => seg [(8, vb true)] [(0, none)] [] trivial fun ac wd hS => ?_
  refine wp_ret ?_
  refine pop_then_ret ?_
  refine St.retC 0 hS (vb true) [] trivial fun hw => ?_
  refine ⟨retd rfl, hw.fr0⟩
 ·
  have hst0 : stE (comM (AM.new 8) 0 8) a k = 0 := hb5
  obtain ⟨hwh, hthr⟩ := st_facts hst0
  obtain ⟨hk1, hk8⟩ := wholeB_le hwh
  obtain ⟨hI1, hI2, hI3, hI4⟩ := inB_facts (thr_in hthr)
  have hc8 : (comM (AM.new 8) 0 8).cap = 8 := full8.1
  have hm1 := keeps0 full8 (by decide +kernel) hst0 v
  have hb0 : 0 ≤ a := hI1
  refine wp_skip ?_
  refine pop_then ?_
  refine wp_region_seq ?_
  refine hS.opsC 3 [0, 0, 0] [0, 1, 2, 3, 9] fun _ => seg [(38, pt b'1 0), (39, vi a), (40, vi k)] [(0, none)] [] trivial fun ac wd hS => ?_
  refine hS.call0 21 #[pt b'1 0, vi a, vi k] 41 (ar_Load b'1 F4 (stM (comM (AM.new 8) 0 8) a k v) a k _ (hS.mem.res 0) ) fun ac wd hS => ?_
  refine hS.opsC 5 [0, 0, 0, 0, 0] [0, 1, 2, 3, 9] fun _ => seg [(10, vu (ldV (stM (comM (AM.new 8) 0 8) a k v) a k))] [(0, none)] [] trivial fun ac wd hS => ?_
  refine list_nil_seq ?_
  refine wp_seq ?_
  refine hS.regS [0, 0, 0, 3, 3, 23, 23, 3, 80, 0, 3, 3, 3, 3, 3, 3, 83, 80] [0, 1, 3, 9, 10] fun _ => seg [(61, vb (((decide ((k : Int) < 8)) && ((((ldV (stM (comM (AM.new 8) 0 8) a k v) a k) / (2 ^ Int.toNat (8 * k))) : Int) != 0)) || (((k : Int) == 8) && (((ldV (stM (comM (AM.new 8) 0 8) a k v) a k) : Int) != v))))] [(0, none)] [.p ((((decide ((k : Int) < 8)) = true) ∧ True) → AllP [0 ≤ (8 * k) ∧ Int.fdiv (ldV (stM (comM (AM.new 8) 0 8) a k v) a k) (2 ^ (min (Int.toNat (8 * k)) 64)) = ((ldV (stM (comM (AM.new 8) 0 8) a k v) a k) / (2 ^ Int.toNat (8 * k)))]), .p ((((decide ((k : Int) < 8)) = true) ∧ True) → AllP [fit .i64 (8 * k)])] ⟨(fun ⟨hc0, _⟩ => by replace hc0 := nrm hc0; exact ⟨shr2_u64 (by omega) (by omega) (by trivial), trivial⟩), (fun ⟨hc0, _⟩ => by replace hc0 := nrm hc0; exact ⟨fit_i64 (by omega), trivial⟩), trivial⟩ fun ac wd hS => ?_
  refine hS.condK (((decide ((k : Int) < 8)) && ((((ldV (stM (comM (AM.new 8) 0 8) a k v) a k) / (2 ^ Int.toNat (8 * k))) : Int) != 0)) || (((k : Int) == 8) && (((ldV (stM (comM (AM.new 8) 0 8) a k v) a k) : Int) != v))) false (by exact keeps1 hwh hv hm1) ?_
  show Code.wp _ _ _ _ _
  refine wp_skip ?_
  refine pop_then ?_
  refine wp_seq ?_
  refine hS.regS [0, 0, 0] [0, 1, 9, 10] fun _ => seg [(62, .slice z 0 cp), (63, vi 0), (64, vi 0)] [(0, none)] [] trivial fun ac wd hS => ?_
  refine wp_block ?_
  refine St.loopC (σ := Int × (Nat → Prop) × AM) (fun (x : Int × (Nat → Prop) × AM) => match x with | (x64, Fx, mx) => ⟨[(0, [], vi a), (1, [], vi k), (9, [], pt b'1 0), (10, [], vu (ldV (stM (comM (AM.new 8) 0 8) a k v) a k)), (62, [], .slice z 0 cp), (63, [], vi 0), (64, [], vi x64)], [(1, .fn 0 64 dbT)], [arR b'1 Fx mx], (0 ≤ x64) ∧ (Full mx 8) ∧ (Kept (stM (comM (AM.new 8) 0 8) a k v) mx a k) ∧ (mx.armed = false) ∧ True, 0⟩) (0, F4, (stM (comM (AM.new 8) 0 8) a k v)) ⟨(by first | omega | exact hm1.1 | exact hm1.2.1 | exact fun j hj => rfl), (by first | omega | exact hm1.1 | exact hm1.2.1 | exact fun j hj => rfl), (by first | omega | exact hm1.1 | exact hm1.2.1 | exact fun j hj => rfl), (by first | omega | exact hm1.1 | exact hm1.2.1 | exact fun j hj => rfl), trivial⟩ hS ?_
  clear hS
  rintro ⟨x64, Fx, mx⟩ ⟨i0, i1, i2, i3, -⟩ ac wd hS
  replace i0 : 0 ≤ x64 := i0
  replace i1 : Full mx 8 := i1
  replace i2 : Kept (stM (comM (AM.new 8) 0 8) a k v) mx a k := i2
  replace i3 : mx.armed = false := i3
  refine hS.regS [0] [0, 1, 9, 10, 62, 63, 64] fun _ => seg [(65, vb (decide ((x64 : Int) < 0)))] [(0, none)] [] trivial fun ac wd hS => ?_
  refine wp_seq ?_
  refine hS.condK (decide ((x64 : Int) < 0)) false (by exact decide_eq_false (by omega)) ?_
  show Code.wp _ _ _ _ _
  refine wp_exit ?_
  refine pop_then_exit ?_
  refine pop_then_exit ?_
  refine pop_block_hit ?_
  refine pop_then ?_
  refine hS.regS [0, 20, 0] [9] fun _ => seg [(17, vi (a / 4096))] [(0, none)] [.p (4096 ≠ 0 ∧ IntKind.i64.wrap (Int.tdiv a 4096) = a / 4096)] ⟨quo2 (by omega) (by omega) (by omega), trivial⟩ fun ac wd hS => ?_
  refine wp_region_seq ?_
  refine hS.opsC 2 [0, 0] [9, 17] fun _ => seg [(119, pt b'1 0), (120, vi (a / 4096))] [(0, none)] [] trivial fun ac wd hS => ?_
  refine hS.callC 24 #[pt b'1 0, vi (a / 4096), vi 1] (ar_Decommit b'1 Fx mx (a / 4096) 1 _ (hS.mem.res 0) ) ?_
  rintro _ wd ⟨F6, rfl, hA, hF⟩
  refine ⟨vi (decE mx (a / 4096) 1), rfl, ?_⟩
  replace hS := (hS.to (hS.mem.stepA 0 rfl hA hF)).put (d := 121) (v := vi (decE mx (a / 4096) 1)) (by decide)
  clear hF
  refine hS.opsC 2 [0, 0] [9, 17, 121] fun _ => seg [(122, pt b'1 0), (123, vi (a / 4096))] [(0, none)] [] trivial fun ac wd hS => ?_
  refine hS.callC 15 #[pt b'1 0, vi (a / 4096), vi 1] (ar_Commit b'1 F6 (decM mx (a / 4096) 1) (a / 4096) 1 _ (hS.mem.res 0) ) ?_
  rintro _ wd ⟨F7, rfl, hA, hF⟩
  refine ⟨vi (comE (decM mx (a / 4096) 1) (a / 4096) 1), rfl, ?_⟩
  replace hS := (hS.to (hS.mem.stepA 0 rfl hA hF)).put (d := 124) (v := vi (comE (decM mx (a / 4096) 1) (a / 4096) 1)) (by decide)
  clear hF
  refine hS.opsC 2 [0, 0] [9, 17] fun _ => seg [(18, vi (decE mx (a / 4096) 1)), (19, vi (comE (decM mx (a / 4096) 1) (a / 4096) 1))] [(0, none)] [] trivial fun ac wd hS => ?_
  refine list_nil_seq ?_
  refine wp_region_seq ?_
  refine hS.opsC 3 [0, 0, 20] [18, 19] fun _ => seg [(126, pt b'1 0), (128, vi ((a / 4096) * 4096))] [(0, none)] [.p (fit .i64 ((a / 4096) * 4096))] ⟨fit_i64 (by omega), trivial⟩ fun ac wd hS => ?_
  refine hS.call0 17 #[pt b'1 0, vi ((a / 4096) * 4096), vi 4096] 129 (ar_Bytes b'1 F7 (comM (decM mx (a / 4096) 1) (a / 4096) 1) ((a / 4096) * 4096) 4096 _ (hS.mem.res 0) ) fun ac wd hS => ?_
  refine hS.opsC 5 [0, 0, 0, 0, 0] [18, 19] fun _ => seg [(20, .string (bytS (comM (decM mx (a / 4096) 1) (a / 4096) 1) ((a / 4096) * 4096) 4096)), (21, vi (chkE (comM (decM mx (a / 4096) 1) (a / 4096) 1) ((a / 4096) * 4096) 4096))] [(0, none)] [] trivial fun ac wd hS => ?_
  refine list_nil_seq ?_
  refine wp_region_seq ?_
  refine hS.opsC 11 [0, 0, 0, 3, 3, 80, 0, 3, 3, 80, 0] [20] fun _ => seg [(142, vb (((((decE mx (a / 4096) 1) : Int) == 0) && (((comE (decM mx (a / 4096) 1) (a / 4096) 1) : Int) == 0)) && (((chkE (comM (decM mx (a / 4096) 1) (a / 4096) 1) ((a / 4096) * 4096) 4096) : Int) == 0)))] [(0, none)] [] trivial fun ac wd hS => ?_
  rcases Bool.eq_false_or_eq_true (((((decE mx (a / 4096) 1) : Int) == 0) && (((comE (decM mx (a / 4096) 1) (a / 4096) 1) : Int) == 0)) && (((chkE (comM (decM mx (a / 4096) 1) (a / 4096) 1) ((a / 4096) * 4096) 4096) : Int) == 0)) with hg8o | hg8o
  ·
   have hg8 := nrm hg8o
   replace hS := hS.fix 142 (vb true) (congrArg Value.bool hg8o)
   refine hS.opsC 1 [1] [142] fun _ => seg [(143, .string (bytS (comM (decM mx (a / 4096) 1) (a / 4096) 1) ((a / 4096) * 4096) 4096))] [(0, none)] [.t true] trivial fun ac wd hS => ?_
   refine hS.callG true 25 #[vi 4096] (ref03_Noughts 4096 _  (by first | assumption | omega | (simp_all; done) | (simp_all; omega))) ?_
   rintro _ wd ⟨rfl, hF⟩
   refine ⟨.string (bs (fun _ => 0) (Int.toNat 4096)), rfl, ?_⟩
   replace hS := (hS.to (hS.mem.keep0 hF)).put (d := 144) (v := .string (bs (fun _ => 0) (Int.toNat 4096))) (by decide)
   clear hF
   refine hS.opsC 3 [1, 70, 0] [] fun _ => seg [(8, vb (ByteArray.toList (bytS (comM (decM mx (a / 4096) 1) (a / 4096) 1) ((a / 4096) * 4096) 4096) == ByteArray.toList (bs (fun _ => 0) (Int.toNat 4096))))] [(0, none)] [.t true, .t true] trivial fun ac wd hS => ?_
   refine list_nil_seq ?_
   refine wp_ret ?_
   refine St.retC 0 hS (vb (ByteArray.toList (bytS (comM (decM mx (a / 4096) 1) (a / 4096) 1) ((a / 4096) * 4096) 4096) == ByteArray.toList (bs (fun _ => 0) (Int.toNat 4096)))) [] trivial fun hw => ?_
   refine ⟨retd (vbool ?_), hw.fr0⟩
   all_goals (first | rfl | exact keeps3 i1 i3 hI1 (by omega) | exact Bool.noConfusion ((keeps4 i1 i3 hI1 (by omega)).symm.trans (by assumption)) | exact absurd hli (by assumption))
  ·
   have hg8 := nrm hg8o
   replace hS := hS.fix 142 (vb false) (congrArg Value.bool hg8o)
   refine hS.opsC 5 [2, 2, 2, 60, 0] [] fun _ => seg [(8, vb false)] [(0, none)] [.t false, .t false, .t false, .t false] trivial fun ac wd hS => ?_
   refine list_nil_seq ?_
   refine wp_ret ?_
   refine St.retC 0 hS (vb false) [] trivial fun hw => ?_
   refine ⟨retd (vbool ?_), hw.fr0⟩
   all_goals (first | rfl | exact keeps3 i1 i3 hI1 (by omega) | exact Bool.noConfusion ((keeps4 i1 i3 hI1 (by omega)).symm.trans (by assumption)) | exact absurd hli (by assumption))

end Go.Proofs.YtlnecfdbmoilbaaDoor.K
