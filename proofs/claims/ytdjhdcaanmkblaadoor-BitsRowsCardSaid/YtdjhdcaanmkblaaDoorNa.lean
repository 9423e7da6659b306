/-
  Lists of blocks, plainly: what stands behind what; members that come and go.
-/
import Derived.Test.YtdjhdcaanmkblaaDoorJg
namespace Go.Proofs.YtdjhdcaanmkblaaDoor.K
set_option linter.unusedSimpArgs false
set_option linter.unusedVariables false

/-- What stands behind a member (0: the first one of a list). -/
def lnx (m : AM) (o z k a : Int) : Int := if a = 0 then IntKind.wrap .i64 (vldV m o z (8 * k) 8) else IntKind.wrap .i64 (ldV m a 8)
/-- The member ahead of a place (0: none). -/
def prevL (L : List Int) : Nat → Int
  | 0 => 0
  | i + 1 => L.getD i 0
/-- A list's members, as the arena tells them. -/
def ChainL (m : AM) (o z k : Int) (L : List Int) : Prop := ∀ i, i ≤ L.length → lnx m o z k (prevL L i) = L.getD i 0
/-- Members whose bytes are there, behind the heads, apart from one another. -/
structure LQ (m : AM) (o z : Int) (n : Nat) (Q : Nat → List Int) : Prop where
  there : thr m o z = true
  o0 : 0 ≤ o
  room : 8 * (n : Int) ≤ z
  mem : ∀ k, k < n → ∀ a, a ∈ Q k → o + z ≤ a ∧ thr m a 16 = true ∧ 0 < a ∧ a ≤ 4611686018427387904
  apart : ∀ k k', k < n → k' < n → ∀ a a', a ∈ Q k → a' ∈ Q k' → (a = a' ∧ k = k') ∨ a + 16 ≤ a' ∨ a' + 16 ≤ a
  rise : ∀ k, k < n → (Q k).Pairwise (· < ·)
  chain : ∀ k, k < n → ChainL m o z (k : Int) (Q k)
theorem getD_mem0 {L : List Int} {i : Nat} (h : i < L.length) : L.getD i 0 ∈ L := by
  rw [List.getD_eq_getElem?_getD, List.getElem?_eq_getElem h]; exact List.getElem_mem h
section
variable {m : AM} {o z : Int} {n : Nat} {Q : Nat → List Int}
theorem LQ.pos (h : LQ m o z n Q) {k i : Nat} (hk : k < n) (hi : i < (Q k).length) : 0 < (Q k).getD i 0 ∧ o + z ≤ (Q k).getD i 0 ∧ thr m ((Q k).getD i 0) 16 = true ∧ (Q k).getD i 0 ≤ 4611686018427387904 := by
  have := h.mem k hk _ (getD_mem0 hi)
  exact ⟨this.2.2.1, this.1, this.2.1, this.2.2.2⟩
end
end Go.Proofs.YtdjhdcaanmkblaaDoor.K
