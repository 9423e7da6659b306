import Derived.Test.YtojjkjedcafpeaaGreatDoorJg
namespace Go.Proofs.YtojjkjedcafpeaaGreatDoor.K
set_option linter.unusedSimpArgs false
set_option linter.unusedVariables false
def lnx (m:AM)(o z k a:Int):Int:=if a=0 then IntKind.wrap .i64 (vldV m o z (8*k) 8)else IntKind.wrap .i64 (ldV m a 8)
theorem lnx_0 {m:AM}{o z k a:Int}(h:a=0):IntKind.wrap .i64 (vldV m o z (8*k) 8)=lnx m o z k a:=by unfold lnx;rw [if_pos h]
theorem lnx_1 {m:AM}{o z k a:Int}(h:a≠0):IntKind.wrap .i64 (ldV m a 8)=lnx m o z k a:=by unfold lnx;rw [if_neg h]
def lj1 (m:AM)(o z k a b:Int):AM:=if a=0 then vstM m o z (8*k) 8 (IntKind.wrap .u64 b)else stM m a 8 (IntKind.wrap .u64 b)
def ljM (m:AM)(o z k a b:Int):AM:=if b=0 then lj1 m o z k a b else stM (lj1 m o z k a b) (b+8) 8 (IntKind.wrap .u64 a)
theorem lj_1 {m:AM}{o z k a b:Int}(h:a=0):vstM m o z (8*k) 8 (IntKind.wrap .u64 b)=lj1 m o z k a b:=by unfold lj1;rw [if_pos h]
theorem lj_2 {m:AM}{o z k a b:Int}(h:a≠0):stM m a 8 (IntKind.wrap .u64 b)=lj1 m o z k a b:=by unfold lj1;rw [if_neg h]
theorem lj_3 {m:AM}{o z k a b:Int}(h:b=0):lj1 m o z k a b=ljM m o z k a b:=by unfold ljM;rw [if_pos h]
theorem lj_4 {m:AM}{o z k a b:Int}(h:b≠0):stM (lj1 m o z k a b) (b+8) 8 (IntKind.wrap .u64 a)=ljM m o z k a b:=by unfold ljM;rw [if_neg h]
theorem lj1_com (m:AM)(o z k a b:Int):(lj1 m o z k a b).cap=m.cap∧(lj1 m o z k a b).com=m.com:=by
  unfold lj1
  split
  · exact vstM_com _ _ _ _ _ _
  · exact stM_com _ _ _ _
theorem ljM_com (m:AM)(o z k a b:Int):(ljM m o z k a b).cap=m.cap∧(ljM m o z k a b).com=m.com:=by
  unfold ljM
  split
  · exact lj1_com _ _ _ _ _ _
  · exact⟨(stM_com _ _ _ _).1.trans (lj1_com m o z k a b).1,(stM_com _ _ _ _).2.trans (lj1_com m o z k a b).2⟩
def lchE (z k:Int):Int:=if k<0∨z/8≤k then 3 else 0
theorem lch_no {z k:Int}(h:k<0∨z/8≤k):3=lchE z k:=by unfold lchE;rw [if_pos h]
theorem lch_yes {z k:Int}(h:¬(k<0∨z/8≤k)):0=lchE z k:=by unfold lchE;rw [if_neg h]
def prevL (L:List Int):Nat→Int
  |0=>0
  |i+1=>L.getD i 0
def cntL (L:List Int)(at_:Int):Nat:=(L.takeWhile fun x=>decide (x<at_)).length
def LtUp (L:List Int)(at_:Int)(j:Nat):Prop:=j≤L.length∧∀i,i<j→L.getD i 0<at_
theorem ltUp_zero (L:List Int)(at_:Int):LtUp L at_ 0:=⟨Nat.zero_le _,fun i hi=>absurd hi (by omega)⟩
theorem ltUp_step {L:List Int}{at_:Int}{j:Nat}(h:LtUp L at_ j)(h1:j<L.length)(h2:L.getD j 0<at_):LtUp L at_ (j+1):=
  ⟨h1,fun i hi=>by rcases Nat.lt_or_ge i j with q|q;exact h.2 i q;(obtain rfl:i=j:=by omega);exact h2⟩
theorem cntL_at:∀ {L:List Int} {at_:Int} {j:Nat},LtUp L at_ j→(j=L.length∨at_≤L.getD j 0)→cntL L at_=j
  |[],at_,j,h,_=>by have:=h.1;simp at this;subst this;rfl
  |x::L,at_,0,h,he=>by
    have hx:¬x<at_:=by
      rcases he with he|he
      · simp at he
      · simpa using he
    unfold cntL
    simp [List.takeWhile_cons,hx]
  |x::L,at_,j+1,h,he=>by
    have hx:x<at_:=by simpa using h.2 0 (by omega)
    have ih:=cntL_at (L:=L) (at_:=at_) (j:=j) ⟨by simpa using h.1,fun i hi=>by simpa using h.2 (i+1) (by omega)⟩ (by simpa using he)
    unfold cntL at*
    simp [List.takeWhile_cons,hx,ih]
theorem cntL_up:∀(L:List Int) (at_:Int),LtUp L at_ (cntL L at_)∧(cntL L at_=L.length∨at_≤L.getD (cntL L at_) 0)
  |[],at_=>⟨⟨Nat.le_refl _,fun i hi=>nomatch hi⟩,.inl rfl⟩
  |x::L,at_=>by
    have ih:=cntL_up L at_
    by_cases hx:x<at_
    · have e:cntL (x::L) at_=cntL L at_+1:=by unfold cntL;simp [List.takeWhile_cons,hx]
      rw [e];refine⟨⟨by simpa using ih.1.1,fun i hi=>?_⟩,by simpa using ih.2⟩
      cases i with
      |zero=>simpa using hx
      |succ i=>simpa using ih.1.2 i (by omega)
    · have e:cntL (x::L) at_=0:=by unfold cntL;simp [List.takeWhile_cons,hx]
      rw [e];exact⟨ltUp_zero _ _,.inr (by simpa using hx)⟩
def ChainL (m:AM)(o z k:Int)(L:List Int):Prop:=∀i,i≤L.length→lnx m o z k (prevL L i)=L.getD i 0
structure LQ (m:AM)(o z:Int)(n:Nat)(Q:Nat→List Int):Prop where
  there:thr m o z=true
  o0:0≤o
  room:8*(n:Int)≤z
  mem:∀k,k<n→∀a,a∈Q k→o+z≤a∧thr m a 16=true∧0<a∧a≤4611686018427387904
  apart:∀k k',k<n→k'<n→∀a a',a∈Q k→a'∈Q k'→(a=a'∧k=k')∨a+16≤a'∨a'+16≤a
  rise:∀k,k<n→(Q k).Pairwise (· < ·)
  chain:∀k,k<n→ChainL m o z (k:Int) (Q k)
theorem getD_mem0 {L:List Int}{i:Nat}(h:i<L.length):L.getD i 0∈L:=by
  rw [List.getD_eq_getElem?_getD,List.getElem?_eq_getElem h];exact List.getElem_mem h
theorem getD_out0 {L:List Int}{i:Nat}(h:L.length≤i):L.getD i 0=0:=by
  rw [List.getD_eq_getElem?_getD,List.getElem?_eq_none h];rfl
theorem rise_lt {L:List Int}(h:L.Pairwise (· < ·)){i j:Nat}(hi:i<j)(hj:j<L.length):L.getD i 0<L.getD j 0:=by
  rw [List.getD_eq_getElem?_getD,List.getD_eq_getElem?_getD,List.getElem?_eq_getElem (by omega:i<L.length),List.getElem?_eq_getElem hj];exact List.pairwise_iff_getElem.1 h i j (by omega) hj hi
section
variable {m:AM}{o z:Int}{n:Nat}{Q:Nat→List Int}
theorem lnx_keep {m m':AM}{k a:Int}(hc:m'.cap=m.cap)(hm:m'.com=m.com)(h0:a=0→∀y:Nat,o+8*k≤(y:Int)→(y:Int)<o+8*k+8→m'.mem y=m.mem y)(h1:a≠0→∀y:Nat,a≤(y:Int)→(y:Int)<a+8→m'.mem y=m.mem y):lnx m' o z k a=lnx m o z k a:=by
  unfold lnx
  split
  · rename_i e
    have:vldV m' o z (8*k) 8=vldV m o z (8*k) 8:=by
      unfold vldV
      rw [ld_mem hc hm (h0 e)]
    rw [this]
  · rename_i e
    rw [ld_mem hc hm (h1 e)]
theorem lnx_st {m:AM}{k b:Int}(hb:0≤b∧b≤9223372036854775807){a:Int}(ha:a≠0)(ht:thr m a 8=true):lnx (stM m a 8 b) o z k a=b:=by
  unfold lnx
  rw [if_neg ha,ld_st rfl ht hb.1,show b%2^(8*(8:Int).toNat)=b by(show b%2^64=b);omega];exact wrap_i64_in hb
theorem lnx_hd {m:AM}{k b:Int}(hb:0≤b∧b≤9223372036854775807)(ht:thr m (o+8*k) 8=true)(hk:0≤k∧8*k+8≤z):vstM m o z (8*k) 8 b=stM m (o+8*k) 8 b∧lnx (stM m (o+8*k) 8 b) o z k 0=b:=by
  refine⟨(vst_at ht (by omega) (by omega)).2,?_⟩
  unfold lnx vldV
  have hv:vchE z (8*k) 8=0:=(vch_yes (by omega)).symm;rw [if_pos rfl,show wholeB 8=true from rfl,if_pos rfl,if_pos hv,ld_st rfl ht hb.1,show b%2^(8*(8:Int).toNat)=b by(show b%2^64=b);omega];exact wrap_i64_in hb
end
def wherL (o k a:Int):Int:=if a=0 then o+8*k else a
theorem lj1_eq {m:AM}{o z k a b:Int}(hb:0≤b∧b≤9223372036854775807)(hk:0≤k∧8*k+8≤z)(ht:thr m (wherL o k a) 8=true):lj1 m o z k a b=stM m (wherL o k a) 8 b∧lnx (lj1 m o z k a b) o z k a=b:=by
  unfold wherL at*
  unfold lj1
  have e:IntKind.wrap .u64 b=b:=u64_in (by omega);rw [e]
  split
  · rename_i h0
    rw [if_pos h0]at ht;subst h0;obtain⟨e1,e2⟩:=lnx_hd hb ht hk;rw [e1];exact⟨rfl,e2⟩
  · rename_i h0
    rw [if_neg h0]at ht;exact⟨rfl,lnx_st hb h0 ht⟩
theorem ljM_far {m:AM}{o z k a b:Int}(ha:0≤a∧a≤9223372036854775807)(hb:0≤b∧b≤9223372036854775799)(hk:0≤k∧8*k+8≤z)(ht:thr m (wherL o k a) 8=true)(hb8:b≠0→thr m (b+8) 8=true){y:Nat}(h1:(y:Int)<wherL o k a∨wherL o k a+8≤(y:Int))(h2:b≠0→(y:Int)<b+8∨b+16≤(y:Int)):(ljM m o z k a b).mem y=m.mem y:=by
  have e1:=(lj1_eq (b:=b) ⟨hb.1,by omega⟩ hk ht).1;have hc:=lj1_com m o z k a b;have f1:(lj1 m o z k a b).mem y=m.mem y:=by rw [e1];exact mem_st rfl ht h1
  unfold ljM
  split
  · exact f1
  · rename_i hb0
    have e:IntKind.wrap .u64 a=a:=u64_in (by omega);rw [e,mem_st rfl ((thr_same hc.1 hc.2 _ _).trans (hb8 hb0)) (by have:=h2 hb0;omega),f1]
theorem ljM_at {m:AM}{o z k a b:Int}(ha:0≤a∧a≤9223372036854775807)(hb:0≤b∧b≤9223372036854775799)(hk:0≤k∧8*k+8≤z)(ht:thr m (wherL o k a) 8=true)(hb8:b≠0→thr m (b+8) 8=true)(hap:b≠0→wherL o k a+8≤b+8∨b+16≤wherL o k a):lnx (ljM m o z k a b) o z k a=b:=by
  obtain⟨e1,e2⟩:=lj1_eq (b:=b) ⟨hb.1,by omega⟩ hk ht;have hc:=lj1_com m o z k a b
  unfold ljM
  split
  · exact e2
  · rename_i hb0
    have e:IntKind.wrap .u64 a=a:=u64_in (by omega);have ht8:=(thr_same hc.1 hc.2 _ _).trans (hb8 hb0);have hsc:=stM_com (lj1 m o z k a b) (b+8) 8 a;rw [e];have h3:=hap hb0
    unfold wherL at h3
    refine(lnx_keep (m:=lj1 m o z k a b) hsc.1 hsc.2 (fun h0 y y1 y2=>mem_st rfl ht8 ?_) (fun h0 y y1 y2=>mem_st rfl ht8 ?_)).trans e2
    · rw [if_pos h0]at h3;omega
    · rw [if_neg h0]at h3;omega
end Go.Proofs.YtojjkjedcafpeaaGreatDoor.K
