import Derived.Test.YtojjkjedcafpeaaGreatDoorNb
namespace Go.Proofs.YtojjkjedcafpeaaGreatDoor.K
set_option linter.unusedSimpArgs false
set_option linter.unusedVariables false
def hasL (L:List Int)(at_:Int):Bool:=decide (0<at_)&&(L.getD (cntL L at_) 0==at_)
def lsaE (m:AM)(L:List Int)(at_:Int):Int:=if at_<1 then 2 else if chkE m at_ 16≠0 then chkE m at_ 16 else if L.getD (cntL L at_) 0=at_ then 9 else 0
def lsaM (m:AM)(o z k:Int)(L:List Int)(at_:Int):AM:=if lsaE m L at_=0 then ljM (ljM m o z k at_ (L.getD (cntL L at_) 0)) o z k (prevL L (cntL L at_)) at_ else m
theorem lsa_1 {m:AM}{o z k at_:Int}{L:List Int}(h:at_<1):2=lsaE m L at_∧m=lsaM m o z k L at_:=by
  have e:lsaE m L at_=2:=by unfold lsaE;rw [if_pos h]
  unfold lsaM;rw [e];exact⟨rfl,rfl⟩
theorem lsa_2 {m:AM}{o z k at_:Int}{L:List Int}(h:¬at_<1)(h2:chkE m at_ 16≠0):chkE m at_ 16=lsaE m L at_∧m=lsaM m o z k L at_:=by
  have e:lsaE m L at_=chkE m at_ 16:=by unfold lsaE;rw [if_neg h,if_pos h2]
  unfold lsaM;rw [e,if_neg h2];exact⟨rfl,rfl⟩
theorem lsa_3 {m:AM}{o z k at_:Int}{L:List Int}(h:¬at_<1)(h2:¬chkE m at_ 16≠0)(h3:L.getD (cntL L at_) 0=at_):9=lsaE m L at_∧m=lsaM m o z k L at_:=by
  have e:lsaE m L at_=9:=by unfold lsaE;rw [if_neg h,if_neg h2,if_pos h3]
  unfold lsaM;rw [e];exact⟨rfl,rfl⟩
theorem lsa_4 {m:AM}{o z k at_:Int}{L:List Int}(h:¬at_<1)(h2:¬chkE m at_ 16≠0)(h3:¬L.getD (cntL L at_) 0=at_):0=lsaE m L at_∧ljM (ljM m o z k at_ (L.getD (cntL L at_) 0)) o z k (prevL L (cntL L at_)) at_=lsaM m o z k L at_:=by
  have e:lsaE m L at_=0:=by unfold lsaE;rw [if_neg h,if_neg h2,if_neg h3]
  unfold lsaM;rw [e];exact⟨rfl,rfl⟩
def lsrE (L:List Int)(at_:Int):Int:=if at_<1∨L.getD (cntL L at_) 0≠at_ then 8 else 0
def lsrM (m:AM)(o z k:Int)(L:List Int)(at_:Int):AM:=if lsrE L at_=0 then ljM m o z k (prevL L (cntL L at_)) (L.getD (cntL L at_+1) 0)else m
theorem lsr_1 {m:AM}{o z k at_:Int}{L:List Int}(h:at_<1∨L.getD (cntL L at_) 0≠at_):8=lsrE L at_∧m=lsrM m o z k L at_:=by
  have e:lsrE L at_=8:=by unfold lsrE;rw [if_pos h]
  unfold lsrM;rw [e];exact⟨rfl,rfl⟩
theorem lsr_2 {m:AM}{o z k at_:Int}{L:List Int}(h:¬(at_<1∨L.getD (cntL L at_) 0≠at_)):0=lsrE L at_∧ljM m o z k (prevL L (cntL L at_)) (L.getD (cntL L at_+1) 0)=lsrM m o z k L at_:=by
  have e:lsrE L at_=0:=by unfold lsrE;rw [if_neg h]
  unfold lsrM;rw [e];exact⟨rfl,rfl⟩
theorem chain_at {m:AM}{o z k:Int}{L:List Int}(h:ChainL m o z k L){j:Nat}(hj:j<L.length):lnx m o z k (L.getD j 0)=L.getD (j+1) 0:=h (j+1) hj
theorem chain_c {m:AM}{o z k at_:Int}{L:List Int}(h:ChainL m o z k L):lnx m o z k (prevL L (cntL L at_))=L.getD (cntL L at_) 0:=h _ (cntL_le L at_)
theorem chain_0 {m:AM}{o z k:Int}{L:List Int}(h:ChainL m o z k L):lnx m o z k 0=L.getD 0 0:=h 0 (Nat.zero_le _)
theorem getD_pos {L:List Int}(hp:∀a,a∈L→0<a∧a≤4611686018427387904)(j:Nat):0≤L.getD j 0∧L.getD j 0≤4611686018427387904∧(L.getD j 0=0→L.length≤j):=by
  rcases Nat.lt_or_ge j L.length with q|q
  · have:=hp _ (getD_mem0 q);exact⟨by omega,by omega,fun e=>by omega⟩
  · rw [getD_out0 q];exact⟨by omega,by omega,fun _=>q⟩
theorem prevL_pos {L:List Int}(hp:∀a,a∈L→0<a∧a≤4611686018427387904):∀j,0≤prevL L j∧prevL L j≤4611686018427387904
  |0=>by show(0:Int)≤0∧(0:Int)≤_;omega
  |j+1=>by have:=getD_pos hp j;exact⟨this.1,this.2.1⟩
theorem behind_at {L:List Int}{at_:Int}(hp:∀a,a∈L→0<a∧a≤4611686018427387904){j:Nat}(h:LtUp L at_ j)(he:L.getD j 0=0∨at_≤L.getD j 0):cntL L at_=j:=
  cntL_at h (he.imp (fun e=>by have:=(getD_pos hp j).2.2 e;have:=h.1;omega) id)
section
variable {m:AM}{o z:Int}{n:Nat}{Q:Nat→List Int}{L:List Int}{at_:Int}
theorem LQ.ps (h:LQ m o z n Q){k:Nat}(hk:k<n):∀a,a∈Q k→0<a∧a≤4611686018427387904:=fun a ha=>by have:=h.mem k hk a ha;exact⟨this.2.2.1,this.2.2.2⟩
theorem LQ.congr {Q':Nat→List Int}(h:LQ m o z n Q)(e:∀k,k<n→Q k=Q' k):LQ m o z n Q':=by
  refine⟨h.there,h.o0,h.room,fun k hk=>?_,fun k k' hk hk'=>?_,fun k hk=>?_,fun k hk=>?_⟩
  · rw [←e k hk];exact h.mem k hk
  · rw [←e k hk,←e k' hk'];exact h.apart k k' hk hk'
  · rw [←e k hk];exact h.rise k hk
  · rw [←e k hk];exact h.chain k hk
theorem cntL_mem (hr:L.Pairwise (· < ·))(hm:at_∈L):L.getD (cntL L at_) 0=at_∧cntL L at_<L.length:=by
  obtain⟨i,hi,he⟩:=mem_getD hm;have:cntL L at_=i:=cntL_at ⟨by omega,fun q hq=>by rw [←he];exact rise_lt hr hq hi⟩ (.inr (by omega));rw [this];exact⟨he,hi⟩
theorem hasL_iff (hr:L.Pairwise (· < ·))(hp:∀a,a∈L→0<a∧a≤4611686018427387904):hasL L at_=true↔at_∈L:=by
  unfold hasL
  simp only [Bool.and_eq_true,decide_eq_true_eq,beq_iff_eq]
  constructor
  · intro⟨h1,h2⟩
    rcases Nat.lt_or_ge (cntL L at_) L.length with q|q
    · rw [←h2];exact getD_mem0 q
    · rw [getD_out0 q]at h2;omega
  · intro hm
    exact⟨(hp _ hm).1,(cntL_mem hr hm).1⟩
theorem lsr_has (L:List Int)(at_:Int):hasL L at_=(lsrE L at_==0):=by
  unfold hasL lsrE
  by_cases h:at_<1∨L.getD (cntL L at_) 0≠at_
  · rw [if_pos h]
    rw [Bool.eq_iff_iff]
    simp only [Bool.and_eq_true,decide_eq_true_eq,beq_iff_eq]
    constructor
    · intro⟨h1,h2⟩;rcases h with q|q;omega;exact absurd h2 q
    · intro q;simp at q
  · rw [if_neg h]
    rw [Bool.eq_iff_iff]
    simp only [Bool.and_eq_true,decide_eq_true_eq,beq_iff_eq]
    constructor
    · intro _;trivial
    · intro _
      by_cases h1:at_<1
      · exact absurd (.inl h1) h
      · by_cases h2:L.getD (cntL L at_) 0=at_
        · exact⟨by omega,h2⟩
        · exact absurd (.inr h2) h
def addL (L:List Int)(at_:Int):List Int:=if L.getD (cntL L at_) 0=at_ then L else insL L at_
def delL (L:List Int)(at_:Int):List Int:=if lsrE L at_=0 then remL L at_ else L
theorem LQ.put (h:LQ m o z n Q){k:Nat}(hk:k<n)(ha:o+z≤at_∧thr m at_ 16=true∧0<at_∧at_≤4611686018427387904)(hn:∀k',k'<n→∀a,a∈Q k'→a=at_∧k'=k∨a+16≤at_∨at_+16≤a):
    lsaE m (Q k) at_=(if(Q k).getD (cntL (Q k) at_) 0=at_ then 9 else 0)∧LQ (lsaM m o z (k:Int) (Q k) at_) o z n (updQ Q k (addL (Q k) at_)):=by
  have h1:¬at_<1:=by omega
  have h2:¬chkE m at_ 16≠0:=by rw [chk_thr ha.2.1];omega
  unfold addL
  by_cases h3:(Q k).getD (cntL (Q k) at_) 0=at_
  · obtain⟨e1,e2⟩:=lsa_3 (m:=m) (o:=o) (z:=z) (k:=(k:Int)) h1 h2 h3
    rw [←e1,←e2,if_pos h3,if_pos h3];exact⟨rfl,h.congr fun k' _=>by unfold updQ;split;(rename_i q;rw [q]);rfl⟩
  · obtain⟨e1,e2⟩:=lsa_4 (m:=m) (o:=o) (z:=z) (k:=(k:Int)) h1 h2 h3
    rw [←e1,←e2,if_neg h3,if_neg h3];refine⟨rfl,h.add hk ha fun k' hk' a hm=>?_⟩
    rcases hn k' hk' a hm with⟨rfl,rfl⟩|q
    · exact absurd (cntL_mem (h.rise k' hk') hm).1 h3
    · exact q
theorem LQ.del (h:LQ m o z n Q){k:Nat}(hk:k<n)(at_:Int):LQ (lsrM m o z (k:Int) (Q k) at_) o z n (updQ Q k (delL (Q k) at_)):=by
  unfold delL
  by_cases h1:at_<1∨(Q k).getD (cntL (Q k) at_) 0≠at_
  · obtain⟨e1,e2⟩:=lsr_1 (m:=m) (o:=o) (z:=z) (k:=(k:Int)) h1
    rw [←e1,←e2];exact h.congr fun k' _=>by unfold updQ;split;(rename_i q;rw [q];rfl);rfl
  · obtain⟨e1,e2⟩:=lsr_2 (m:=m) (o:=o) (z:=z) (k:=(k:Int)) h1
    rw [←e1,←e2,if_pos rfl]
    have hc:cntL (Q k) at_<(Q k).length:=by
      rcases Nat.lt_or_ge (cntL (Q k) at_) (Q k).length with q|q
      · exact q
      · exfalso;apply h1;right;rw [getD_out0 q];omega
    exact h.rem hk hc
theorem addL_mem {a:Int}(h:a∈addL L at_):a=at_∨a∈L:=by
  unfold addL at h
  split at h
  · exact .inr h
  · exact insL_mem h
theorem delL_mem {a:Int}(hr:L.Pairwise (· < ·))(hp:∀a,a∈L→0<a∧a≤4611686018427387904)(h:a∈delL L at_):a∈L∧a≠at_:=by
  unfold delL at h
  split at h
  · rename_i he
    have h1:¬(at_<1∨L.getD (cntL L at_) 0≠at_):=fun q=>by unfold lsrE at he;rw [if_pos q]at he;omega
    have h3:L.getD (cntL L at_) 0=at_:=Decidable.not_not.1 fun q=>h1 (.inr q)
    refine⟨remL_mem h,?_⟩;obtain⟨i,hi,rfl⟩:=mem_getD h
    have hc:cntL L at_<L.length:=by
      rcases Nat.lt_or_ge (cntL L at_) L.length with q|q
      · exact q
      · rw [getD_out0 q]at h3;exfalso;apply h1;left;omega
    rw [remL_len hc]at hi
    rcases Nat.lt_or_ge i (cntL L at_)with q|q
    · rw [remL_lt q];have:=rise_lt hr q hc;rw [h3]at this;omega
    · rw [remL_ge q];have:=rise_lt hr (i:=cntL L at_) (j:=i+1) (by omega) (by omega);rw [h3]at this;omega
  · rename_i he
    refine⟨h,fun q=>?_⟩;subst q;have:=(hasL_iff hr hp).2 h;rw [lsr_has]at this;exact he (by simpa using this)
end
end Go.Proofs.YtojjkjedcafpeaaGreatDoor.K
