/-
  The rows of a set: an iterator, and who collects what it gives.
-/
import Derived.RangeFuncBox
import Derived.RangeFuncLeaves
import Derived.RangeFuncNested
import Derived.RangeFuncCalls
import Derived.Shelf.Abstract
import Derived.WalkKit
import Derived.OwnWalkIn
import Derived.TacticsInMore
import Derived.LoopNIn
import Derived.LoopIn
import Derived.Maps.AppendAt
import Derived.Test.YtlnecfdbmoilbaaDoorBa
namespace Go.Proofs.YtlnecfdbmoilbaaDoor.K
open Go.RowKit Go.Shelf
attribute [local go_sem] Oper.semAt_some
set_option linter.unusedVariables false
set_option linter.unusedSimpArgs false

/-- The runs from a place on. -/
def runsGo (p : Nat → Bool) (n : Nat) : Nat → Nat → List (Int × Int)
  | 0, _ => []
  | f + 1, i => if i < n then ((i : Int), ((nxt p false n i : Nat) : Int) - (i : Int)) :: runsGo p n f (nxt p true n (nxt p false n i)) else []
def runs (p : Nat → Bool) (n : Nat) : List (Int × Int) := runsGo p n (n + 1) (nxt p true n 0)

/-- What an iterator over a set reads. -/
structure RdS (W : World) (Bn g o c nw : Nat) (ws : Nat → Nat) (n : Nat) : Prop where
  len : W.cell? ⟨Bn, 0, none⟩ = some (.int .i64 (n : Int))
  sl : W.cell? ⟨Bn, 1, none⟩ = some (.slice (some ⟨g, o, none⟩) nw c)
  db : HE.holds W 1 (.fn 0 64 dbT)
  ws : HE.holds W g (.fn o (o + nw) (u64s ws o))

def KeepK (K : Nat → Prop) (W W' : World) : Prop := W.heap.size ≤ W'.heap.size ∧ ∀ k, K k → W'.heap[k]? = W.heap[k]?

theorem RdS.keep {W W' : World} {Bn g o c nw : Nat} {ws : Nat → Nat} {n : Nat} (h : RdS W Bn g o c nw ws n) (hk : ∀ k, (k = 1 ∨ k = g ∨ k = Bn) → W'.heap[k]? = W.heap[k]?) : RdS W' Bn g o c nw ws n := by
  refine ⟨?_, ?_, h.db.congr (hk _ (.inl rfl)), h.ws.congr (hk _ (.inr (.inl rfl)))⟩
  · rw [← h.len]; unfold World.cell?; simp only [hk Bn (.inr (.inr rfl))]
  · rw [← h.sl]; unfold World.cell?; simp only [hk Bn (.inr (.inr rfl))]

theorem RdS.lt {W : World} {Bn g o c nw : Nat} {ws : Nat → Nat} {n : Nat} (h : RdS W Bn g o c nw ws n) {k : Nat} (hk : k = 1 ∨ k = g ∨ k = Bn) : k < W.heap.size := by
  rcases hk with rfl | rfl | rfl
  · exact h.db.lt
  · exact h.ws.lt
  · obtain ⟨_, c, T, fz, hb, _⟩ := cell_block h.len
    exact lt_of_some hb

theorem RdS.fr {W W' : World} {Bn g o c nw : Nat} {ws : Nat → Nat} {n : Nat} (h : RdS W Bn g o c nw ws n) (hf : Fr W W' no no) : RdS W' Bn g o c nw ws n :=
  h.keep fun k hk => hf.block k (h.lt hk) (fun x => x)

theorem grown_of_fr {W W' : World} (hf : Fr W W' no no) : W.grownBy W' none :=
  ⟨hf.os, hf.tape, hf.output, hf.size, fun k hk _ => hf.block k hk (fun x => x)⟩

theorem fst3_at {p : Nat → Bool} {n k : Nat} {v : Bool} (h : k ≤ n) : fst3 p n (k : Int) v = ((nxt p v n k : Nat) : Int) := by
  have h1 := nxt_le p v h
  have e : at0 (k : Int) = k := by unfold at0 imax; split <;> omega
  unfold fst3
  rw [e]
  split <;> omega

theorem nxt_more {p : Nat → Bool} {n i : Nat} (h : i < n) (hp : p i = true) : i < nxt p false n i := by
  have h1 := nxt_ge p false n i
  rcases Nat.lt_or_ge i (nxt p false n i) with h2 | h2
  · exact h2
  · have e : nxt p false n i = i := by omega
    have := nxt_hit (p := p) (v := false) (n := n) (i := i) (by omega)
    rw [e, hp] at this
    cases this

theorem runsGo_end (p : Nat → Bool) (n : Nat) : ∀ f, runsGo p n f n = []
  | 0 => rfl
  | f + 1 => by simp [runsGo]

theorem runsGo_len (p : Nat → Bool) (n : Nat) : ∀ f i, (runsGo p n f i).length ≤ f := by
  intro f
  induction f with
  | zero => intro i; simp [runsGo]
  | succ f ih => intro i; simp only [runsGo]; split; simp; exact ih _; simp

set_option maxRecDepth 100000 in
set_option maxHeartbeats 2000000 in
theorem rows1_in (n : Nat) (hn : 1 ≤ n) (l Bn g o c nw : Nat) (ws : Nat → Nat) (N : Nat) (p : Nat → Bool) (hW : Words ws nw N p) (hN : N ≤ 1048576) (J Jx : List (Int × Int) → World → Prop)
    (W : World) (hJ : AbidesFrom W.heap.size J)
    (hY : ∀ pre x W1, J pre W1 → pre.length < (runs p N).length → YieldAt Fence.wide (n - 1) Tryd.prog l #[.int .i64 x.1, .int .i64 x.2] W1 fun e W' =>
      (e = .returned (.bool true) ∧ J (pre ++ [x]) W' ∧ KeepK (fun k => k = 1 ∨ k = g ∨ k = Bn) W1 W') ∨ (e = .returned (.bool false) ∧ Jx (pre ++ [x]) W'))
    (hR : RdS W Bn g o c nw ws N) (h0 : J [] W) :
    CallsIn Fence.wide n Tryd.prog 117 #[.func (.yield l) #[] #[], .pointer (some ⟨Bn, 0, none⟩)] W fun e W' => (∃ v, e = .returned v) ∧
      ((∃ ys, ys = runs p N ∧ J ys W') ∨ (∃ pre, pre <+: runs p N ∧ Jx pre W')) := by
  refine callsIn_of_wp Tryd.func117 rfl trivial ?_ rfl
  simp only [Tryd.ntmps117, List.size_toArray, List.length_cons, List.length_nil, Nat.reduceAdd, Nat.reduceSub, Array.replicate_succ, Array.replicate_zero, List.push_toArray, List.append_toArray, List.nil_append, List.cons_append]
  have hl := hR.len
  have hs := hR.sl
  gi_wp2_with (refine ⟨trivial, ?_⟩; gi_at_call 118; refine (callsIn_wide.2 (bits_first g o c nw ws N 0 true p _ hR.db hR.ws hW hN)).mono ?_; rintro e w1 ⟨rfl, hF⟩)
  have hJ1 : J [] w1 := hJ [] W w1 none h0 (grown_of_fr hF) (fun r e => by cases e)
  have hR1 := hR.fr hF
  have hsz : W.heap.size ≤ w1.heap.size := hF.size
  gi_loopw [3] (fun i wr => ∃ (pre : List (Int × Int)) (at_ fuel : Nat), i = .int .i64 at_ ∧ runs p N = pre ++ runsGo p N fuel at_ ∧ at_ ≤ N ∧ N < at_ + fuel ∧ (at_ < N → p at_ = true) ∧ J pre wr ∧ RdS wr Bn g o c nw ws N)
    (fun i _ => N - (intOf i).toNat)
  case atStart =>
    refine ⟨[], nxt p true N 0, N + 1, ?_, rfl, nxt_le _ _ (by omega), by omega, fun h => nxt_hit h, hJ1, hR1⟩
    rw [show (0 : Int) = ((0 : Nat) : Int) from rfl, fst3_at (by omega)]
  case round =>
    obtain ⟨pre, at_, fuel, rfl, hx, hle, hfu, hp, hJs, hRs⟩ := hrel
    have hl2 := hRs.len
    have hs2 := hRs.sl
    by_cases hlt : at_ < N
    · have he1 := nxt_more hlt (hp hlt)
      have he2 := nxt_le p false (Nat.le_of_lt hlt)
      obtain ⟨f, rfl⟩ : ∃ f, fuel = f + 1 := ⟨fuel - 1, by omega⟩
      have hrg : runsGo p N (f + 1) at_ = ((at_ : Int), ((nxt p false N at_ : Nat) : Int) - (at_ : Int)) :: runsGo p N f (nxt p true N (nxt p false N at_)) := by
        simp only [runsGo]; rw [if_pos hlt]
      rw [hrg] at hx
      have hlt' : (at_ : Int) < (N : Int) := by omega
      have hplen : pre.length < (runs p N).length := by rw [hx]; simp
      gi_wp2_with (refine ⟨trivial, ?_⟩; gi_at_call 118; refine (callsIn_wide.2 (bits_first g o c nw ws N at_ false p _ hRs.db hRs.ws hW hN)).mono ?_; rintro e w2 ⟨rfl, hF2⟩; have hJ2 : J pre w2 := hJ pre _ w2 none hJs (grown_of_fr hF2) (fun r e => by cases e); have hR2 := hRs.fr hF2; rw [fst3_at hle]; obtain ⟨fn, tmps, assign, body, hy, hRy⟩ := hY pre ((at_ : Int), ((nxt p false N at_ : Nat) : Int) - (at_ : Int)) w2 hJ2 hplen; dsimp only at hy)
      refine hRy.mono ?_
      rintro e W3 (⟨rfl, hJ3, hk3⟩ | ⟨rfl, hJx3⟩)
      · have hR3 := hR2.keep hk3.2
        have hl3 := hR3.len
        have hs3 := hR3.sl
        gi_wp2_with (refine ⟨trivial, ?_⟩; gi_at_call 118; refine (callsIn_wide.2 (bits_first g o c nw ws N (nxt p false N at_ : Nat) true p _ hR3.db hR3.ws hW hN)).mono ?_; rintro e w4 ⟨rfl, hF4⟩; have hJ4 := hJ _ _ w4 none hJ3 (grown_of_fr hF4) (fun r e => by cases e); have hR4 := hR3.fr hF4; rw [fst3_at he2])
        go_roundw
        case rel => exact ⟨_, _, f, rfl, by rw [hx]; simp, nxt_le _ _ he2, by have := nxt_ge p true N (nxt p false N at_); omega, fun h => nxt_hit h, hJ4, hR4⟩
        case measure => have := nxt_ge p true N (nxt p false N at_); simp [intOf]; omega
      · gi_wp2
        refine bodyPost_ret (results_none rfl _ _ _) rfl ?_
        exact ⟨⟨_, rfl⟩, .inr ⟨_, ⟨runsGo p N f (nxt p true N (nxt p false N at_)), by rw [hx]; simp⟩, hJx3⟩⟩
    · obtain rfl : at_ = N := by omega
      gi_wp2
      go_end0
      exact ⟨⟨_, rfl⟩, .inl ⟨pre, by rw [hx, runsGo_end, List.append_nil], hJs⟩⟩

end Go.Proofs.YtlnecfdbmoilbaaDoor.K
