import Derived.Test.YtojjkjedcafpeaaGreatDoorYb
import Derived.Test.YtojjkjedcafpeaaGreatDoorYc
import Derived.Test.YtojjkjedcafpeaaGreatDoorProg
namespace Go.Proofs.YtojjkjedcafpeaaGreatDoor.K
set_option linter.unusedVariables false
set_option linter.unusedSimpArgs false
theorem ar_Fill_k (b : Nat) (F : Nat → Prop) (m : AM) (a : Int) (n : Int) (c : Int) (w : World) (hr : (arR b F m).R w) (hc : 0 ≤ c ∧ c ≤ 255) :
    Calls Tryz.prog 30 #[pt b 0, vi a, vi n, v8 c] w fun e w' => ∃ (F' : Nat → Prop), e = .returned (vi (chkE m a n)) ∧ (arR b F' (filM m a n (u8 c))).R w' ∧ Fr w w' F F' := by
 have h_ := ar_Fill b F m a n (u8 c) w hr;rw [u8_toNat hc] at h_;exact h_
end Go.Proofs.YtojjkjedcafpeaaGreatDoor.K
