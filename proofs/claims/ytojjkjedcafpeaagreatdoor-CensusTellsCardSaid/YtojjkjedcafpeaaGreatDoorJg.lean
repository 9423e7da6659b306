import Derived.Test.YtojjkjedcafpeaaGreatDoorM5
namespace Go.Proofs.YtojjkjedcafpeaaGreatDoor.K
set_option linter.unusedSimpArgs false
set_option linter.unusedVariables false
theorem ld_zero {m:AM}(hm:∀x,m.mem x=0)(a k:Int):ldV m a k=0:=by
  cases hw:wholeB k with
  |false=>exact(ld_v1 hw).symm
  |true=>
    cases ht:thr m a k with
    |false=>unfold ldV;rw [ht,Bool.and_false];rfl
    |true=>
      obtain⟨g1,g8⟩:=wholeB_le hw;rw [←ld_v4 hw ht]
      unfold bytS
      rw [ht,if_pos rfl]
      have e:bs (fun j=>m.mem (a.toNat+j)) k.toNat=bs (stB ((0:Nat):Int)) k.toNat:=bs_congr fun j hj=>by
        rw [hm]
        apply UInt8.toNat_inj.1
        rw [stB_nat];simp
      rw [e,ldN_num (by omega) _ (Nat.le_refl _)];simp
theorem vst_at {m:AM}{o z a v:Int}(ht:thr m (o+a) 8=true)(h0:0≤a)(h1:a≤z-8):vstE m o z a 8=0∧vstM m o z a 8 v=stM m (o+a) 8 v:=by
  have hv:vchE z a 8=0:=(vch_yes (by omega)).symm
  unfold vstE vstM
  rw [show wholeB 8=true from rfl,if_pos rfl,if_pos rfl,if_pos hv,if_pos hv];exact⟨by unfold stE;rw [show wholeB 8=true from rfl,if_pos rfl,chk_thr ht],rfl⟩
section
variable {m:AM}{kf:Nat→UInt8}{i:Nat}
end
end Go.Proofs.YtojjkjedcafpeaaGreatDoor.K
