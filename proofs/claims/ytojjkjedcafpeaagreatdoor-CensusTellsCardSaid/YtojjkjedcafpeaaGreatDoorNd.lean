import Derived.Test.YtojjkjedcafpeaaGreatDoorNc
namespace Go.Proofs.YtojjkjedcafpeaaGreatDoor.K
set_option linter.unusedSimpArgs false
set_option linter.unusedVariables false
theorem lj1_com2 (m:AM)(o z k:Int)(L:List Int)(at_:Int):(lsaM m o z k L at_).cap=m.cap∧(lsaM m o z k L at_).com=m.com:=by
  unfold lsaM
  split
  · exact⟨(ljM_com _ _ _ _ _ _).1.trans (ljM_com _ _ _ _ _ _).1,(ljM_com _ _ _ _ _ _).2.trans (ljM_com _ _ _ _ _ _).2⟩
  · exact⟨rfl,rfl⟩
theorem lsrM_com (m:AM)(o z k:Int)(L:List Int)(at_:Int):(lsrM m o z k L at_).cap=m.cap∧(lsrM m o z k L at_).com=m.com:=by
  unfold lsrM
  split
  · exact ljM_com _ _ _ _ _ _
  · exact⟨rfl,rfl⟩
def lBase:AM:=comM (AM.new 3) 0 2
theorem lBase_thr {a n:Int}(h:0≤a∧0≤n∧a+n≤8192):thr lBase a n=true:=by
  have h1:thr lBase 0 8192=true:=by decide+kernel
  exact thr_sub h1 (by omega) (by omega) h.2.1
theorem lq_zero {z:Int}{n:Nat}(hz:8*(n:Int)≤z∧64+z≤4096):LQ lBase 64 z n (fun _=>[]):=by
  refine⟨lBase_thr (by omega),by decide,hz.1,fun k hk a ha=>(nomatch ha),fun k k' _ _ a a' ha=>(nomatch ha),fun k hk=>List.Pairwise.nil,fun k hk i hi=>?_⟩;have hi:i=0:=by simpa using hi
  subst hi;have hm:∀x,lBase.mem x=0:=comM_zero (fun _=>rfl) 0 2
  show lnx lBase 64 z (k:Int) 0=0
  unfold lnx vldV
  rw [if_pos rfl,ld_zero hm]
  simp [IntKind.wrap]
  decide
def atA (f:Nat→Nat)(i:Nat):Int:=4096+16*((f i%256:Nat):Int)
structure LO (m:AM)(f:Nat→Nat)(L:List Int)(b:Int):Prop where
  lq:LQ m 64 11 1 (fun _=>L)
  cap:m.cap=lBase.cap
  com:m.com=lBase.com
  of_:∀a,a∈L→∃j:Nat,(j:Int)<b∧a=atA f j
section
variable {m:AM}{f:Nat→Nat}{L:List Int}{b:Int}
theorem lo_zero (f:Nat→Nat):LO lBase f [] 0:=⟨lq_zero (by decide),rfl,rfl,fun a ha=>(nomatch ha)⟩
theorem LO.ps (h:LO m f L b):∀a,a∈L→0<a∧a≤4611686018427387904:=h.lq.ps (k:=0) (by decide)
theorem LO.ch (h:LO m f L b):ChainL m 64 11 0 L:=h.lq.chain 0 (by decide)
theorem LO.thr (h:LO m f L b){a n:Int}(q:0≤a∧0≤n∧a+n≤8192):thr m a n=true:=(thr_same h.cap h.com a n).trans (lBase_thr q)
theorem lo_add {x:Int}(h:LO m f L x)(h0:0≤x):lsaE m L (atA f x.toNat)=(if L.getD (cntL L (atA f x.toNat)) 0=atA f x.toNat then 9 else 0)∧LO (lsaM m 64 11 0 L (atA f x.toNat)) f (addL L (atA f x.toNat)) (x+1)∧addL L (atA f x.toNat)≠[]:=by
  have ha:4096≤atA f x.toNat∧atA f x.toNat+16≤8192:=by unfold atA;omega
  obtain⟨e1,e2⟩:=h.lq.put (k:=0) (at_:=atA f x.toNat) (by decide) ⟨by omega,h.thr (by omega),by omega,by omega⟩ (fun k' hk' a hm=>by
    obtain⟨j,_,rfl⟩:=h.of_ a hm
    unfold atA
    omega)
  have hc:=lj1_com2 m 64 11 0 L (atA f x.toNat);refine⟨e1,⟨e2.congr fun k hk=>?_,hc.1.trans h.cap,hc.2.trans h.com,fun a hm=>?_⟩,?_⟩
  · obtain rfl:k=0:=by omega
    rfl
  · rcases addL_mem hm with rfl|q
    · exact⟨x.toNat,by omega,rfl⟩
    · obtain⟨j,hj,rfl⟩:=h.of_ a q
      exact⟨j,by omega,rfl⟩
  · unfold addL
    split
    · rename_i he
      intro hL;rw [hL]at he;have:(0:Int)=atA f x.toNat:=he;omega
    · intro hL
      have:=congrArg List.length hL;rw [insL_len]at this
      simp at this
end
section
variable {m:AM}{l:List Int}
end
def fAw (i:Nat):Nat:=if i=0 then 2 else 0
theorem lo_awake:lsaE lBase [] 4128=0∧lsaE (lsaM lBase 64 11 0 [] 4128) [4128] 4096=0∧LO (lsaM lBase 64 11 0 [] 4128) fAw [4128] 1∧LO (lsaM (lsaM lBase 64 11 0 [] 4128) 64 11 0 [4128] 4096) fAw [4096,4128] 2:=by
  obtain⟨e1,h1,_⟩:=lo_add (lo_zero fAw) (by decide);have h1:LO (lsaM lBase 64 11 0 [] 4128) fAw [4128] 1:=h1;obtain⟨e2,h2,_⟩:=lo_add h1 (by decide);exact⟨e1,e2,h1,h2⟩
end Go.Proofs.YtojjkjedcafpeaaGreatDoor.K
