/-
  Walks, printed by w2.py.
-/
import Derived.Test.YthgkiieenojcpaaDoorHb
import Derived.Test.YthgkiieenojcpaaDoorVa
import Derived.Test.YthgkiieenojcpaaDoorQz
import Derived.Test.YthgkiieenojcpaaDoorSh
import Derived.Test.YthgkiieenojcpaaDoorSf
import Derived.Test.YthgkiieenojcpaaDoorProg
namespace Go.Proofs.YthgkiieenojcpaaDoor.K
set_option linter.unusedVariables false
set_option linter.unusedSimpArgs false

theorem str_Repeat (s : ByteArray) (c : Int) (w : World) (hc : 0 ≤ c ∧ (s.size : Int) * c ≤ 1048576 ∧ c ≤ 1048576) :
    Calls Tryd.prog 53 #[.string s, vi c] w fun e w' => e = .returned (.string (repS s (Int.toNat c))) ∧ Fr w w' no no := by
 obtain ⟨h0, h1, h2⟩ := hc
 obtain ⟨n, rfl⟩ : ∃ n : Nat, c = n := ⟨c.toNat, by omega⟩
 refine (Tryd.strings_Repeat s n w (by omega) ?_).mono fun e w' h9 => ⟨?_, Below_Fr h9.2⟩
 · have h3 : ((s.size * n : Nat) : Int) ≤ 1048576 := by rw [Int.natCast_mul]; exact h1
   omega
 · rw [h9.1, Int.toNat_natCast]; rfl

end Go.Proofs.YthgkiieenojcpaaDoor.K
