import Derived.Test.YtojjkjedcafpeaaGreatDoorM5
import Derived.Test.YtojjkjedcafpeaaGreatDoorVa
import Derived.Test.YtojjkjedcafpeaaGreatDoorNc
import Derived.Test.YtojjkjedcafpeaaGreatDoorTa
import Derived.Test.YtojjkjedcafpeaaGreatDoorSx
import Derived.Test.YtojjkjedcafpeaaGreatDoorJg
namespace Go.Proofs.YtojjkjedcafpeaaGreatDoor.K
set_option linter.unusedSimpArgs false
set_option linter.unusedVariables false
def bpA (p:Nat):Int:=((p:Int)+1)*4096
def Out (Q:Nat→List Int)(y:Nat):Prop:=88≤y∧∀k,k<11→∀a,a∈Q k→(y:Int)<a∨a+16≤(y:Int)
def rfB (m:AM):Int:=if m.armed then(m.refuse:Int)else -1
structure BdM (m:AM)(N g c:Nat)(r:Int)(q:List Tg)(Q:Nat→List Int):Prop where
  cap:m.cap=N+1
  nb:1≤N∧N≤79
  cn:c≤N
  com:∀i,m.com i=decide (i<c+1)
  tg:TgR m 257 (N:Int) q
  lq:LQ m 0 88 11 Q
  mp:∀k,k<11→∀a,a∈Q k→∃p:Nat,p<c∧a=bpA p
  gr:ldV m 96 8=(g:Int)
  mag:ldV m 104 8=6432341300767115597
  rf:rfB m=r
theorem putM_rf (m:AM)(a:Int)(s:ByteArray):rfB (putM m a s)=rfB m:=by unfold putM;split<;>rfl
theorem stM_rf (m:AM)(a k x:Int):rfB (stM m a k x)=rfB m:=by unfold stM;split;exact putM_rf _ _ _;rfl
theorem lj1_rf (m:AM)(o z k a b:Int):rfB (lj1 m o z k a b)=rfB m:=by
  unfold lj1 vstM
  split
  · split
    · split
      · exact stM_rf _ _ _ _
      · rfl
    · rfl
  · exact stM_rf _ _ _ _
theorem ljM_rf (m:AM)(o z k a b:Int):rfB (ljM m o z k a b)=rfB m:=by
  unfold ljM;split
  · exact lj1_rf _ _ _ _ _ _
  · exact(stM_rf _ _ _ _).trans (lj1_rf _ _ _ _ _ _)
theorem lsrM_rf (m:AM)(o z k:Int)(L:List Int)(a:Int):rfB (lsrM m o z k L a)=rfB m:=by
  unfold lsrM;split
  · exact ljM_rf _ _ _ _ _ _
  · rfl
theorem lsaM_rf (m:AM)(o z k:Int)(L:List Int)(a:Int):rfB (lsaM m o z k L a)=rfB m:=by
  unfold lsaM;split
  · exact(ljM_rf _ _ _ _ _ _).trans (ljM_rf _ _ _ _ _ _)
  · rfl
theorem tgLM_rf (m:AM)(o z i a s:Int):rfB (tgLM m o z i a s)=rfB m:=by
  unfold tgLM vptM;split
  · rfl
  · split
    · exact putM_rf _ _ _
    · rfl
theorem TgR.keep {m m':AM}{o z:Int}{q:List Tg}(h:TgR m o z q)(hc:m'.cap=m.cap)(hm:m'.com=m.com)(hy:∀y:Nat,o≤(y:Int)→(y:Int)<o+z→m'.mem y=m.mem y):TgR m' o z q:=by
  have ho:=h.o0;have hl:=h.len;refine⟨hl,(thr_same hc hm _ _).trans h.there,ho,fun j hj=>?_,h.rng⟩;rw [hy _ (by omega) (by omega)];exact h.tag j hj
theorem TgR.keep2 {m m':AM}{o z:Int}{q:List Tg}(h:TgR m o z q)(ht:thr m' o z=true)(hy:∀y:Nat,o≤(y:Int)→(y:Int)<o+z→m'.mem y=m.mem y):TgR m' o z q:=by
  have ho:=h.o0;have hl:=h.len;refine⟨hl,ht,ho,fun j hj=>?_,h.rng⟩;rw [hy _ (by omega) (by omega)];exact h.tag j hj
theorem ldV_keep {m m':AM}{a k:Int}(h1:thr m a k=true)(h2:thr m' a k=true)(h:∀y:Nat,a≤(y:Int)→(y:Int)<a+k→m'.mem y=m.mem y):ldV m' a k=ldV m a k:=by
  have h0:=(inB_facts (thr_in h1)).1
  unfold ldV
  rw [h1,h2]
  have:bytS m' a k=bytS m a k:=by
    unfold bytS
    rw [h1,h2,if_pos rfl,if_pos rfl]
    have:(fun j=>if j<k.toNat then m'.mem (a.toNat+j)else 0)=fun j=>if j<k.toNat then m.mem (a.toNat+j)else 0:=by
      funext j
      split
      · rw [h _ (by omega) (by omega)]
      · rfl
    have e1:∀f:Nat→UInt8,bs f k.toNat=bs (fun j=>if j<k.toNat then f j else 0) k.toNat:=fun f=>bs_congr fun j hj=>by rw [if_pos hj]
    rw [e1 fun j=>m'.mem (a.toNat+j),e1 fun j=>m.mem (a.toNat+j),this]
  rw [this]
section
variable {m:AM}{N g c:Nat}{r:Int}{q:List Tg}{Q:Nat→List Int}
theorem BdM.thr (h:BdM m N g c r q Q){a n:Int}(h0:0≤a)(h1:0≤n)(h2:a+n≤((c:Int)+1)*4096):Go.Proofs.YtojjkjedcafpeaaGreatDoor.K.thr m a n=true:=by
  have hc:=h.cap;have hn:=h.cn;refine thr_mk (inB_yes (by omega) (by omega) (by omega) (by omega)) fun i q1 q2=>?_;rw [h.com];exact decide_eq_true (by omega)
theorem BdM.keep (h:BdM m N g c r q Q){m':AM}{Q':Nat→List Int}(hc:m'.cap=m.cap)(hm:m'.com=m.com)(hrf:rfB m'=rfB m)(hl:LQ m' 0 88 11 Q')(hp:∀k,k<11→∀a,a∈Q' k→∃p:Nat,p<c∧a=bpA p)
    (hy:∀y:Nat,88≤y→y<4096→m'.mem y=m.mem y):BdM m' N g c r q Q':=by
  have hb:=h.nb
  exact⟨hc.trans h.cap,h.nb,h.cn,fun i=>by rw [hm];exact h.com i,h.tg.keep hc hm fun y h1 h2=>hy y (by omega) (by omega),hl,hp,
    (ld_mem hc hm fun y h1 h2=>hy y (by omega) (by omega)).trans h.gr,(ld_mem hc hm fun y h1 h2=>hy y (by omega) (by omega)).trans h.mag,hrf.trans h.rf⟩
theorem BdM.out0 (h:BdM m N g c r q Q){y:Nat}(h1:88≤y)(h2:y<4096):Out Q y:=⟨h1,fun k hk a ha=>by
  obtain⟨p,_,rfl⟩:=h.mp k hk a ha
  unfold bpA;omega⟩
theorem LQ.getB (h:LQ m 0 88 11 Q){k:Nat}(hk:k<11)(i:Nat):0≤(Q k).getD i 0∧(Q k).getD i 0≤4611686018427387904∧((Q k).getD i 0≠0→(Q k).getD i 0∈Q k∧thr m ((Q k).getD i 0) 16=true):=by
  rcases Nat.lt_or_ge i (Q k).length with hi|hi
  · have:=h.mem k hk _ (getD_mem0 hi)
    exact⟨by omega,this.2.2.2,fun _=>⟨getD_mem0 hi,this.2.1⟩⟩
  · rw [getD_out0 hi];exact⟨by omega,by omega,fun q=>absurd rfl q⟩
theorem LQ.join_far (h:LQ m 0 88 11 Q){k:Nat}(hk:k<11){x b:Int}(hx:PlaceL 11 Q k x)(hb:0≤b∧b≤4611686018427387904)(hb2:b≠0→thr m b 16=true){y:Nat}(ho:Out Q y)(hby:b≠0→(y:Int)<b∨b+16≤(y:Int)):
    (ljM m 0 88 (k:Int) x b).mem y=m.mem y:=by
  obtain⟨p1,p2,p3,p4,p5,p6⟩:=h.pl hx;refine ljM_far ⟨p1,by omega⟩ ⟨hb.1,by omega⟩ p4 p3 (fun q=>thr_sub (hb2 q) (by omega) (by omega) (by omega)) ?_ (fun q=>by have:=hby q;omega);have ho1:=ho.1
  by_cases hx0:x=0
  · rw [p5 hx0];omega
  · rw [(p6 hx0).1]
    rcases hx.2 with q|q
    · exact absurd q hx0
    · have:=ho.2 k hk x q;omega
theorem LQ.rem_far (h:LQ m 0 88 11 Q){k:Nat}(hk:k<11){a:Int}{y:Nat}(ho:Out Q y):(lsrM m 0 88 (k:Int) (Q k) a).mem y=m.mem y:=by
  unfold lsrM
  split
  · have hb:=h.getB hk (cntL (Q k) a+1)
    exact h.join_far hk (place_prev Q hk (cntL_le _ _)) ⟨hb.1,hb.2.1⟩ (fun q=>(hb.2.2 q).2) ho (fun q=>ho.2 k hk _ (hb.2.2 q).1)
  · rfl
theorem lsrM_com (m:AM)(o z k:Int)(L:List Int)(a:Int):(lsrM m o z k L a).cap=m.cap∧(lsrM m o z k L a).com=m.com:=by
  unfold lsrM;split
  · exact ljM_com _ _ _ _ _ _
  · exact⟨rfl,rfl⟩
theorem lsaM_com (m:AM)(o z k:Int)(L:List Int)(a:Int):(lsaM m o z k L a).cap=m.cap∧(lsaM m o z k L a).com=m.com:=by
  unfold lsaM;split
  · exact⟨(ljM_com _ _ _ _ _ _).1.trans (ljM_com _ _ _ _ _ _).1,(ljM_com _ _ _ _ _ _).2.trans (ljM_com _ _ _ _ _ _).2⟩
  · exact⟨rfl,rfl⟩
theorem LQ.add_far (h:LQ m 0 88 11 Q){k:Nat}(hk:k<11){a:Int}(ha:88≤a∧thr m a 16=true∧a≤4611686018427387904){y:Nat}(ho:Out Q y)(hy:(y:Int)<a∨a+16≤(y:Int)):(lsaM m 0 88 (k:Int) (Q k) a).mem y=m.mem y:=by
  unfold lsaM
  split
  · have hb:=h.getB hk (cntL (Q k) a)
    have hkk:0≤(k:Int)∧8*(k:Int)+8≤88:=by omega
    have hw:wherL 0 (k:Int) a=a:=by unfold wherL;rw [if_neg (by omega)]
    have f1:(ljM m 0 88 (k:Int) a ((Q k).getD (cntL (Q k) a) 0)).mem y=m.mem y:=by
      refine ljM_far ⟨by omega,by omega⟩ ⟨hb.1,by omega⟩ hkk (by rw [hw];exact thr_sub ha.2.1 (by omega) (by omega) (by omega)) (fun q=>thr_sub (hb.2.2 q).2 (by omega) (by omega) (by omega)) (by rw [hw];omega) (fun q=>by have:=ho.2 k hk _ (hb.2.2 q).1;omega)
    have hcm:=ljM_com m 0 88 (k:Int) a ((Q k).getD (cntL (Q k) a) 0);have hx:=place_prev Q hk (cntL_le (Q k) a);obtain⟨p1,p2,p3,p4,p5,p6⟩:=h.pl hx;rw [←f1];refine ljM_far ⟨p1,by omega⟩ ⟨by omega,by omega⟩ p4 ((thr_same hcm.1 hcm.2 _ _).trans p3) (fun _=>(thr_same hcm.1 hcm.2 _ _).trans (thr_sub ha.2.1 (by omega) (by omega) (by omega))) ?_ (fun _=>by omega);have ho1:=ho.1
    by_cases hx0:prevL (Q k) (cntL (Q k) a)=0
    · rw [p5 hx0];omega
    · rw [(p6 hx0).1]
      rcases hx.2 with q|q
      · exact absurd q hx0
      · have:=ho.2 k hk _ q;omega
  · rfl
theorem BdM.rem (h:BdM m N g c r q Q){k:Nat}(hk:k<11)(a:Int):BdM (lsrM m 0 88 (k:Int) (Q k) a) N g c r q (updQ Q k (delL (Q k) a)):=
  h.keep (lsrM_com _ _ _ _ _ _).1 (lsrM_com _ _ _ _ _ _).2 (lsrM_rf _ _ _ _ _ _) (h.lq.del hk a) (fun k' hk' b hb=>by
    unfold updQ at hb
    split at hb
    · rename_i e;subst e;exact h.mp _ hk' b (delL_mem (h.lq.rise _ hk') (h.lq.ps hk') hb).1
    · exact h.mp k' hk' b hb) (fun y h1 h2=>h.lq.rem_far hk (h.out0 h1 h2))
theorem BdM.add (h:BdM m N g c r q Q){k p:Nat}(hk:k<11)(hp:p<c)(hn:∀k',k'<11→bpA p∈Q k'→k'=k):
    lsaE m (Q k) (bpA p)=(if(Q k).getD (cntL (Q k) (bpA p)) 0=bpA p then 9 else 0)∧BdM (lsaM m 0 88 (k:Int) (Q k) (bpA p)) N g c r q (updQ Q k (addL (Q k) (bpA p))):=by
  have hcn:=h.cn;have hnb:=h.nb;have hA:bpA p=((p:Int)+1)*4096:=rfl;have ha:(0:Int)+88≤bpA p∧Go.Proofs.YtojjkjedcafpeaaGreatDoor.K.thr m (bpA p) 16=true∧0<bpA p∧bpA p≤4611686018427387904:=⟨by omega,h.thr (by omega) (by omega) (by omega),by omega,by omega⟩
  have e:=h.lq.put hk ha (fun k' hk' b hb=>by
    obtain⟨p',hp',rfl⟩:=h.mp k' hk' b hb
    by_cases hpp:p'=p
    · subst hpp;exact .inl ⟨rfl,hn k' hk' hb⟩
    · right;unfold bpA;omega)
  refine⟨e.1,h.keep (lsaM_com _ _ _ _ _ _).1 (lsaM_com _ _ _ _ _ _).2 (lsaM_rf _ _ _ _ _ _) e.2 (fun k' hk' b hb=>?_) (fun y h1 h2=>h.lq.add_far hk ⟨by omega,ha.2.1,ha.2.2.2⟩ (h.out0 h1 h2) (by omega))⟩
  unfold updQ at hb
  split at hb
  · rename_i e;subst e
    rcases addL_mem hb with rfl|hb
    · exact⟨p,hp,rfl⟩
    · exact h.mp _ hk' b hb
  · exact h.mp k' hk' b hb
theorem LQ.same {m':AM}(h:LQ m 0 88 11 Q)(ht:∀a n,thr m a n=true→thr m' a n=true)(hy:∀y:Nat,(y<88∨∃k a,k<11∧a∈Q k∧a≤(y:Int)∧(y:Int)<a+16)→m'.mem y=m.mem y):LQ m' 0 88 11 Q:=by
  refine⟨ht _ _ h.there,h.o0,h.room,fun k hk a ha=>?_,h.apart,h.rise,fun k hk i hi=>?_⟩
  · have:=h.mem k hk a ha;exact⟨this.1,ht _ _ this.2.1,this.2.2⟩
  · rw [←h.chain k hk i hi]
    obtain⟨p1,p2,p3,p4,p5,p6⟩:=h.pl (place_prev Q hk hi);have hx:=(place_prev Q hk hi).2
    generalize prevL (Q k) i=x at*
    unfold lnx
    split
    · rename_i e
      have e2:vldV m' 0 88 (8*(k:Int)) 8=vldV m 0 88 (8*(k:Int)) 8:=by
        unfold vldV
        rw [p5 e]at p3;rw [show(0:Int)+8*(k:Int)=8*(k:Int) by omega]at p3⊢;rw [ldV_keep p3 (ht _ _ p3) fun y h1 h2=>hy y (.inl (by omega))]
      rw [e2]
    · rename_i e
      rcases hx with hx|hx
      · exact absurd hx e
      · rw [(p6 e).1]at p3
        rw [ldV_keep p3 (ht _ _ p3) fun y h1 h2=>hy y (.inr ⟨k,x,hk,hx,h1,by omega⟩)]
theorem tgLM_com (m:AM)(o z i a s:Int):(tgLM m o z i a s).cap=m.cap∧(tgLM m o z i a s).com=m.com:=by
  unfold tgLM vptM putM
  split
  · exact⟨rfl,rfl⟩
  · split
    · split
      · exact⟨rfl,rfl⟩
      · exact⟨rfl,rfl⟩
    · exact⟨rfl,rfl⟩
theorem tgLM_far {m:AM}{o z i a s:Int}(ho:0≤o){y:Nat}(hy:(y:Int)<o∨o+z≤(y:Int)):(tgLM m o z i a s).mem y=m.mem y:=by
  cases hb:rlBad a s with
  |true=>rw [←(tl_1 (m:=m) (o:=o) (z:=z) (i:=i) hb).2]
  |false=>
    rw [←(tl_2 (m:=m) (o:=o) (z:=z) (i:=i) hb).2]
    unfold vptM putM
    split
    · rename_i hv
      have hv2:=vch_in hv
      split
      · show laidF m.mem (o+i).toNat (tagS a s).size (tagS a s) y=m.mem y
        unfold laidF
        rw [if_neg (by omega)]
      · rfl
    · rfl
theorem BdM.lay (h:BdM m N g c r q Q){i a s:Int}(hs:0≤s):tgLE m 257 (N:Int) i a s=rlE q i a s∧BdM (tgLM m 257 (N:Int) i a s) N g c r (rlQ q i a s) Q:=by
  obtain⟨e1,e2⟩:=h.tg.lay (i:=i) (a:=a) hs;obtain⟨c1,c2⟩:=tgLM_com m 257 (N:Int) i a s;have hb:=h.nb
  refine⟨e1,c1.trans h.cap,h.nb,h.cn,fun j=>by rw [c2];exact h.com j,e2,h.lq.same (fun x n hx=>(thr_same c1 c2 x n).trans hx) (fun y hy=>tgLM_far (by omega) ?_),h.mp,
    (ld_mem c1 c2 fun y h1 h2=>tgLM_far (by omega) (by omega)).trans h.gr,(ld_mem c1 c2 fun y h1 h2=>tgLM_far (by omega) (by omega)).trans h.mag,(tgLM_rf _ _ _ _ _ _).trans h.rf⟩
  rcases hy with hy|⟨k,x,hk,hx,h1,h2⟩
  · omega
  · obtain⟨p,hp,rfl⟩:=h.mp k hk x hx
    unfold bpA at h1 h2;omega
theorem BdM.num (h:BdM m N g c r q Q){x:Nat}(hx:x≤1000):vstM m 0 256 96 8 (x:Int)=stM m 96 8 (x:Int)∧vstE m 0 256 96 8=0∧BdM (stM m 96 8 (x:Int)) N x c r q Q:=by
  have hb:=h.nb;have ht:Go.Proofs.YtojjkjedcafpeaaGreatDoor.K.thr m 96 8=true:=h.thr (by omega) (by omega) (by omega);have e:=vst_at (m:=m) (o:=0) (z:=256) (a:=96) (v:=(x:Int)) (by rw [Int.zero_add];exact ht) (by omega) (by omega);rw [Int.zero_add]at e;obtain⟨c1,c2⟩:=stM_com m 96 8 (x:Int);have far:∀y:Nat,(y:Int)<96∨96+8≤(y:Int)→(stM m 96 8 (x:Int)).mem y=m.mem y:=fun y hy=>mem_st rfl ht hy
  refine⟨e.2,e.1,c1.trans h.cap,h.nb,h.cn,fun j=>by rw [c2];exact h.com j,h.tg.keep c1 c2 fun y h1 h2=>far y (by omega),h.lq.same (fun a n ha=>(thr_same c1 c2 a n).trans ha) (fun y hy=>far y ?_),h.mp,?_,(ld_mem c1 c2 fun y h1 h2=>far y (by omega)).trans h.mag,(stM_rf _ _ _ _).trans h.rf⟩
  · rcases hy with hy|⟨k,a,hk,ha,h1,h2⟩
    · omega
    · obtain⟨p,hp,rfl⟩:=h.mp k hk a ha
      unfold bpA at h1 h2;omega
  · rw [ld_st rfl ht (by omega)]
    show(x:Int)%2^(8*(8:Int).toNat)=(x:Int)
    show(x:Int)%2^64=(x:Int)
    omega
theorem BdM.more (h:BdM m N g c r q Q){n:Nat}(hn:1≤n)(hc:c+n≤N)(he:comE m (1+(c:Int)) (n:Int)=0):BdM (comM m (1+(c:Int)) (n:Int)) N g (c+n) (rfB (comM m (1+(c:Int)) (n:Int))) q Q∧(∀y:Nat,y<(c+1)*4096→(comM m (1+(c:Int)) (n:Int)).mem y=m.mem y)∧¬(m.armed=true∧m.refuse=0)∧(comM m (1+(c:Int)) (n:Int)).armed=m.armed∧(comM m (1+(c:Int)) (n:Int)).refuse=m.refuse-1:=by
  have hr:rowE m (1+(c:Int)) (n:Int)=0:=by
    rw [rowE_ge (by omega)];exact trnE_0 (by omega) (by omega) (by rw [h.cap];omega)
  have hz:rowC m (1+(c:Int)) (n:Int)≤0:=by
    rcases Int.lt_or_le 0 (rowC m (1+(c:Int)) (n:Int))with q|q
    · rw [com_e2 hr q]at he;omega
    · exact q
  have ha:¬(m.armed=true∧m.refuse=0):=fun q=>by rw [com_e3 hr hz q.1 q.2]at he;omega
  rw [←com_yes hr hz ha]
  have far:∀y:Nat,y<(c+1)*4096→zeroP m.mem (1+(c:Int)).toNat (n:Int).toNat y=m.mem y:=fun y hy=>by
    unfold zeroP;rw [if_neg (by omega)]
  have hcom:∀i,setR m.com (1+(c:Int)).toNat (n:Int).toNat true i=decide (i<c+n+1):=fun i=>by
    unfold setR
    split
    · exact(decide_eq_true (by omega)).symm
    · rw [h.com i];by_cases q:i<c+1
      · rw [decide_eq_true q,decide_eq_true (by omega)]
      · rw [decide_eq_false q,decide_eq_false (by omega)]
  have hcap:=h.cap;have hcn:=h.cn
  have tt:∀a n2,Go.Proofs.YtojjkjedcafpeaaGreatDoor.K.thr m a n2=true→Go.Proofs.YtojjkjedcafpeaaGreatDoor.K.thr ⟨m.cap,setR m.com (1+(c:Int)).toNat (n:Int).toNat true,zeroP m.mem (1+(c:Int)).toNat (n:Int).toNat,m.armed,m.refuse-1⟩ a n2=true:=fun a n2 hx=>by
    obtain⟨i1,i2,i3,i4⟩:=inB_facts (thr_in hx)
    by_cases hn0:n2=0
    · unfold Go.Proofs.YtojjkjedcafpeaaGreatDoor.K.thr
      refine Bool.and_eq_true_iff.2 ⟨inB_yes i1 i2 i3 i4,?_⟩;rw [decide_eq_true hn0];rfl
    · refine thr_mk (inB_yes i1 i2 i3 i4) fun i q1 q2=>?_
      show setR m.com _ _ true i=true
      unfold setR
      split
      · rfl
      · have:=thr_page hx (x:=max a (4096*(i:Int))) (by omega) (by omega)
        rw [show Int.toNat (max a (4096*(i:Int))/4096)=i by omega]at this;exact this.2
  have hb:=h.nb;have t0:∀a k:Int,0≤a→0≤k→a+k≤4096→Go.Proofs.YtojjkjedcafpeaaGreatDoor.K.thr m a k=true:=fun a k q1 q2 q3=>h.thr q1 q2 (by omega)
  refine⟨⟨h.cap,h.nb,hc,hcom,h.tg.keep2 (tt _ _ h.tg.there) fun y h1 h2=>far y (by omega),h.lq.same tt (fun y hy=>far y ?_),fun k hk a ha=>?_,?_,?_,rfl⟩,far,ha,rfl,rfl⟩
  · rcases hy with hy|⟨k,a,hk,ha,h1,h2⟩
    · omega
    · obtain⟨p,hp,rfl⟩:=h.mp k hk a ha
      unfold bpA at h1 h2;omega
  · obtain⟨p,hp,e⟩:=h.mp k hk a ha;exact⟨p,by omega,e⟩
  · exact(ldV_keep (t0 _ _ (by omega) (by omega) (by omega)) (tt _ _ (t0 _ _ (by omega) (by omega) (by omega))) fun y h1 h2=>far y (by omega)).trans h.gr
  · exact(ldV_keep (t0 _ _ (by omega) (by omega) (by omega)) (tt _ _ (t0 _ _ (by omega) (by omega) (by omega))) fun y h1 h2=>far y (by omega)).trans h.mag
theorem BdM.less (h:BdM m N g c r q Q){i n:Nat}(hn:1≤n)(hc:i+n=c)(hm:∀k,k<11→∀a,a∈Q k→∃p:Nat,p<i∧a=bpA p):BdM (decM m (1+(i:Int)) (n:Int)) N g i r q Q∧(∀y:Nat,(decM m (1+(i:Int)) (n:Int)).mem y=m.mem y):=by
  have hcap:=h.cap;have hcn:=h.cn;have hnb:=h.nb
  have hr:rowE m (1+(i:Int)) (n:Int)=0:=by
    rw [rowE_ge (by omega)];exact trnE_0 (by omega) (by omega) (by omega)
  have hz:(n:Int)≤rowC m (1+(i:Int)) (n:Int):=by
    rw [rowC_ge (by omega),cntV_yes (wth_of (by omega) (by omega) (by omega))];have:=cntR_all (b:=true) (p:=m.com) (n:Int).toNat (1+(i:Int)).toNat (fun x q1 q2=>by rw [h.com];exact decide_eq_true (by omega))
    simp only [if_true]at this
    rw [this];omega
  rw [←dec_yes hr hz]
  have hcom:∀x,setR m.com (1+(i:Int)).toNat (n:Int).toNat false x=decide (x<i+1):=fun x=>by
    unfold setR
    split
    · exact(decide_eq_false (by omega)).symm
    · rw [h.com x];by_cases q:x<c+1
      · rw [decide_eq_true q,decide_eq_true (by omega)]
      · rw [decide_eq_false q,decide_eq_false (by omega)]
  have t0:∀a k:Int,0≤a→0≤k→a+k≤((i:Int)+1)*4096→Go.Proofs.YtojjkjedcafpeaaGreatDoor.K.thr ({ m with com:=setR m.com (1+(i:Int)).toNat (n:Int).toNat false } :AM) a k=true:=fun a k q1 q2 q3=>by
    refine thr_mk (inB_yes q1 q2 (show k≤(m.cap:Int)*4096 by omega) (show a≤(m.cap:Int)*4096-k by omega)) fun j q4 q5=>?_
    show setR m.com _ _ false j=true
    rw [hcom];exact decide_eq_true (by omega)
  have t1:∀a k:Int,0≤a→0≤k→a+k≤((i:Int)+1)*4096→Go.Proofs.YtojjkjedcafpeaaGreatDoor.K.thr m a k=true:=fun a k q1 q2 q3=>h.thr q1 q2 (by omega)
  refine⟨⟨h.cap,h.nb,by omega,hcom,h.tg.keep2 (t0 _ _ (by omega) (by omega) (by omega)) fun y h1 h2=>rfl,?_,hm,?_,?_,h.rf⟩,fun y=>rfl⟩
  · refine⟨t0 _ _ (by omega) (by omega) (by omega),h.lq.o0,h.lq.room,fun k hk a ha=>?_,h.lq.apart,h.lq.rise,fun k hk j hj=>?_⟩
    · have:=h.lq.mem k hk a ha
      obtain⟨p,hp,e⟩:=hm k hk a ha
      unfold bpA at e
      exact⟨this.1,t0 _ _ (by omega) (by omega) (by omega),this.2.2⟩
    · rw [←h.lq.chain k hk j hj]
      have hx:=(place_prev Q hk hj).2
      generalize prevL (Q k) j=x at*
      unfold lnx
      split
      · rename_i e
        have e2:∀m':AM,(∀a k:Int,0≤a→0≤k→a+k≤((i:Int)+1)*4096→Go.Proofs.YtojjkjedcafpeaaGreatDoor.K.thr m' a k=true)→m'.mem=m.mem→vldV m' 0 88 (8*(k:Int)) 8=vldV m 0 88 (8*(k:Int)) 8:=fun m' h1 h2=>by
          unfold vldV
          rw [ldV_keep (m:=m) (m':=m') (t1 _ _ (by omega) (by omega) (by omega)) (h1 _ _ (by omega) (by omega) (by omega)) fun y _ _=>by rw [h2]]
        rw [e2 _ t0 rfl]
      · rename_i e
        rcases hx with hx|hx
        · exact absurd hx e
        · obtain⟨p,hp,e⟩:=hm k hk x hx
          unfold bpA at e
          rw [ldV_keep (m:=m) (t1 _ _ (by omega) (by omega) (by omega)) (t0 _ _ (by omega) (by omega) (by omega)) fun y _ _=>rfl]
  · exact(ldV_keep (m:=m) (t1 _ _ (by omega) (by omega) (by omega)) (t0 _ _ (by omega) (by omega) (by omega)) fun y _ _=>rfl).trans h.gr
  · exact(ldV_keep (m:=m) (t1 _ _ (by omega) (by omega) (by omega)) (t0 _ _ (by omega) (by omega) (by omega)) fun y _ _=>rfl).trans h.mag
end
def wdQ (q:List Tg)(p:Nat):Nat:=2^(gtD q p).2.toNat
structure Tl (N g:Nat)(q:List Tg):Prop where
  len:q.length=N
  st:∀p,2≤(gtD q p).1→0≤(gtD q p).2∧(gtD q p).2≤10∧p%wdQ q p=0∧p+wdQ q p≤g∧∀j,p<j→j<p+wdQ q p→(gtD q j).1=1
  ins:∀p,(gtD q p).1=1→∃s,s<p∧2≤(gtD q s).1∧p<s+wdQ q s
  gn:g≤N
def NF (q:List Tg):Prop:=∀(p k:Nat),gtD q p=(2,(k:Int))→k<10→p%2^(k+1)=0→gtD q (p+2^k)≠(2,(k:Int))
def FrQ (q:List Tg)(Q:Nat→List Int):Prop:=∀k,k<11→∀a,a∈Q k↔∃p:Nat,gtD q p=(2,(k:Int))∧a=bpA p
def FullG (g:Nat)(q:List Tg):Prop:=∀p,p<g→(gtD q p).1≠0
theorem gtD_o0 {q:List Tg}{j:Nat}(h:q.length≤j):gtD q j=(0,0):=by
  unfold gtD;rw [List.getD_eq_getElem?_getD,List.getElem?_eq_none h];rfl
theorem pgsN_nat (k:Nat):pgsN (k:Int)=((2^k:Nat):Int):=by unfold pgsN;rw [Int.toNat_natCast]
theorem pow_le10 {k:Nat}(h:k≤10):1≤2^k∧2^k≤1024:=⟨Nat.one_le_two_pow,by
  have:=Nat.pow_le_pow_right (n:=2) (by decide) h;exact this⟩
theorem dvd_pow {j k:Nat}(h:j≤k):2^k=2^(k-j)*2^j:=by rw [←Nat.pow_add];congr 1;omega
theorem mod_le {p j k:Nat}(h:j≤k)(hp:p%2^k=0):p%2^j=0:=by
  exact Nat.mod_eq_zero_of_dvd (Nat.dvd_trans (Nat.pow_dvd_pow 2 h) (Nat.dvd_of_mod_eq_zero hp))
section
variable {N g:Nat}{q:List Tg}
theorem Tl.lt (h:Tl N g q){p:Nat}(hp:(gtD q p).1≠0):p<N:=by
  rcases Nat.lt_or_ge p N with a|a
  · exact a
  · rw [gtD_o0 (by rw [h.len];exact a)]at hp;exact absurd rfl hp
theorem lay_q (hN:q.length=N){i k s:Nat}(hk:k≤10)(hs:s≠1∧s≤3)(hi:i+2^k≤N):rlE q (i:Int) (k:Int) (s:Int)=0∧(rlQ q (i:Int) (k:Int) (s:Int)).length=N∧
    ∀j,gtD (rlQ q (i:Int) (k:Int) (s:Int)) j=if i≤j∧j<i+2^k then(if j=i then rlF (k:Int) (s:Int)else rlO (s:Int))else gtD q j:=by
  have hb:rlBad (k:Int) (s:Int)=false:=by unfold rlBad;simp;omega
  have hp:=pow_le10 hk;have h3:=rl_3 (q:=q) (i:=(i:Int)) hb (by rw [pgsN_nat];omega);refine⟨h3.2.symm,by rw [rlQ_len];exact hN,fun j=>?_⟩;rw [←h3.1,pgsN_nat]
  rcases Nat.lt_or_ge j N with hj|hj
  · rw [layL_at _ _ _ _ _ (by omega)]
    by_cases e:i≤j∧j<i+2^k
    · rw [if_pos (by omega),if_pos e]
      by_cases e2:j=i
      · rw [if_pos (by omega),if_pos e2]
      · rw [if_neg (by omega),if_neg e2]
    · rw [if_neg (by omega),if_neg e]
  · rw [gtD_o0 (by rw [layL_len];omega),if_neg (by omega),gtD_o0 (by omega)]
theorem Tl.apart (h:Tl N g q){p s:Nat}(hp:2≤(gtD q p).1)(hs:2≤(gtD q s).1)(hl:p<s):p+wdQ q p≤s:=by
  rcases Nat.lt_or_ge s (p+wdQ q p)with a|a
  · have:=(h.st p hp).2.2.2.2 s hl a;omega
  · exact a
theorem Tl.drop (h:Tl N g q){i k:Nat}(hs:2≤(gtD q i).1)(hk:(gtD q i).2=(k:Int)):Tl N g (rlQ q (i:Int) (k:Int) (0:Nat))∧
    rlE q (i:Int) (k:Int) (0:Nat)=0∧∀j,gtD (rlQ q (i:Int) (k:Int) (0:Nat)) j=if i≤j∧j<i+2^k then(0,0)else gtD q j:=by
  obtain⟨a1,a2,a3,a4,a5⟩:=h.st i hs;have hw:wdQ q i=2^k:=by unfold wdQ;rw [hk,Int.toNat_natCast]
  rw [hw]at a3 a4 a5;have hgn:=h.gn;obtain⟨e1,e2,e3⟩:=lay_q (s:=0) h.len (i:=i) (k:=k) (by omega) (by decide) (by omega)
  have e4:∀j,gtD (rlQ q (i:Int) (k:Int) (0:Nat)) j=if i≤j∧j<i+2^k then(0,0)else gtD q j:=fun j=>by
    rw [e3];split
    · split<;>rfl
    · rfl
  refine⟨⟨e2,fun p hp=>?_,fun p hp=>?_,h.gn⟩,e1,e4⟩
  · have hpo:¬(i≤p∧p<i+2^k):=fun q=>by rw [e4,if_pos q]at hp;revert hp;decide
    have e5:=e4 p;rw [if_neg hpo]at e5;have ew:wdQ (rlQ q (i:Int) (k:Int) (0:Nat)) p=wdQ q p:=by unfold wdQ;rw [e5]
    rw [e5]at hp;rw [e5,ew];obtain⟨b1,b2,b3,b4,b5⟩:=h.st p hp;refine⟨b1,b2,b3,b4,fun j q1 q2=>?_⟩;have hj:=b5 j q1 q2;rw [e4,if_neg,hj];rintro⟨r1,r2⟩
    rcases Nat.lt_or_ge p i with t|t
    · have:=h.apart hp hs t;omega
    · have hip:i<p:=by omega
      have:=h.apart hs hp hip;rw [hw]at this;omega
  · have hpo:¬(i≤p∧p<i+2^k):=fun q=>by rw [e4,if_pos q]at hp;revert hp;decide
    rw [e4,if_neg hpo]at hp;obtain⟨s,s1,s2,s3⟩:=h.ins p hp
    have hso:¬(i≤s∧s<i+2^k):=by
      rintro⟨r1,r2⟩
      by_cases hsi:s=i
      · subst hsi;rw [hw]at s3;omega
      · have:=h.apart hs s2 (by omega);rw [hw]at this;omega
    refine⟨s,s1,?_,?_⟩
    · rw [e4,if_neg hso];exact s2
    · unfold wdQ;rw [e4,if_neg hso];exact s3
theorem Tl.put (h:Tl N g q){i k s:Nat}(hk:k≤10)(hs:s=2∨s=3)(hi:i+2^k≤g)(hm:i%2^k=0)(hz:∀j,i≤j→j<i+2^k→(gtD q j).1=0):Tl N g (rlQ q (i:Int) (k:Int) (s:Int))∧
    rlE q (i:Int) (k:Int) (s:Int)=0∧∀j,gtD (rlQ q (i:Int) (k:Int) (s:Int)) j=if i≤j∧j<i+2^k then(if j=i then((s:Int),(k:Int))else(1,0))else gtD q j:=by
  have hgn:=h.gn;have hp2:=pow_le10 hk;obtain⟨e1,e2,e3⟩:=lay_q (s:=s) h.len (i:=i) (k:=k) (by omega) (by omega) (by omega)
  have e4:∀j,gtD (rlQ q (i:Int) (k:Int) (s:Int)) j=if i≤j∧j<i+2^k then(if j=i then((s:Int),(k:Int))else(1,0))else gtD q j:=fun j=>by
    rw [e3];split
    · split
      · unfold rlF;rw [if_neg (by omega)]
      · unfold rlO;rw [if_neg (by omega)]
    · rfl
  refine⟨⟨e2,fun p hp=>?_,fun p hp=>?_,h.gn⟩,e1,e4⟩
  · by_cases hpo:i≤p∧p<i+2^k
    · have e5:=e4 p;rw [if_pos hpo]at e5
      by_cases hpi:p=i
      · rw [if_pos hpi]at e5
        subst hpi;have ew:wdQ (rlQ q (p:Int) (k:Int) (s:Int)) p=2^k:=by unfold wdQ;rw [e5];exact congrArg _ (Int.toNat_natCast k)
        rw [e5,ew];exact⟨by dsimp only;omega,by dsimp only;omega,hm,hi,fun j q1 q2=>by rw [e4,if_pos ⟨by omega,q2⟩,if_neg (by omega)]⟩
      · rw [if_neg hpi]at e5
        rw [e5]at hp;have hp9:(2:Int)≤1:=hp;omega
    · have e5:=e4 p;rw [if_neg hpo]at e5
      have ew:wdQ (rlQ q (i:Int) (k:Int) (s:Int)) p=wdQ q p:=by unfold wdQ;rw [e5]
      rw [e5]at hp;rw [e5,ew];obtain⟨b1,b2,b3,b4,b5⟩:=h.st p hp;refine⟨b1,b2,b3,b4,fun j q1 q2=>?_⟩;have hj:=b5 j q1 q2;rw [e4,if_neg,hj];rintro⟨r1,r2⟩;have:=hz j r1 r2;omega
  · by_cases hpo:i≤p∧p<i+2^k
    · have hpi:p≠i:=fun e=>by
        rw [e4,if_pos hpo,if_pos e]at hp;have:(s:Int)=1:=hp;omega
      refine⟨i,by omega,?_,?_⟩
      · rw [e4,if_pos ⟨Nat.le_refl _,by omega⟩,if_pos rfl];show(2:Int)≤(s:Int);omega
      · unfold wdQ;rw [e4,if_pos ⟨Nat.le_refl _,by omega⟩,if_pos rfl];show p<i+2^(k:Int).toNat;rw [Int.toNat_natCast];omega
    · rw [e4,if_neg hpo]at hp
      obtain⟨t,s1,s2,s3⟩:=h.ins p hp;have hso:¬(i≤t∧t<i+2^k):=fun⟨r1,r2⟩=>by have:=hz t r1 r2;omega
      refine⟨t,s1,?_,?_⟩
      · rw [e4,if_neg hso];exact s2
      · unfold wdQ;rw [e4,if_neg hso];exact s3
end
theorem Tl.two {N g:Nat}{q:List Tg}(h:Tl N g q){p k:Nat}(hp:gtD q p=(2,(k:Int))):k≤10∧p%2^k=0∧p+2^k≤g∧wdQ q p=2^k∧2≤(gtD q p).1:=by
  have h2:2≤(gtD q p).1:=by rw [hp];exact Int.le_refl 2
  have hw:wdQ q p=2^k:=by unfold wdQ;rw [hp];exact congrArg _ (Int.toNat_natCast k)
  obtain⟨a1,a2,a3,a4,a5⟩:=h.st p h2;rw [hw]at a3 a4;rw [hp]at a2;exact⟨by have:(k:Int)≤10:=a2;omega,a3,a4,hw,h2⟩
def buQ (i k:Nat):Nat:=if i%2^(k+1)=0 then i+2^k else i-2^k
theorem half {i k:Nat}(h:i%2^k=0):i%2^(k+1)=0∨(i%2^(k+1)=2^k∧2^k≤i∧(i-2^k)%2^(k+1)=0):=by
  have h1:=Nat.div_add_mod i (2^k);rw [h,Nat.add_zero]at h1
  generalize i/2^k=a at h1
  have hp:2^(k+1)=2^k*2:=Nat.pow_succ 2 k;have h0:0<2^k:=Nat.pow_pos (by decide);rw [hp,←h1]
  generalize 2^k=w at*
  rw [Nat.mul_mod_mul_left]
  rcases Nat.mod_two_eq_zero_or_one a with e|e
  · left;rw [e,Nat.mul_zero]
  · right
    refine⟨by rw [e,Nat.mul_one],?_,?_⟩
    · obtain⟨b,rfl⟩:∃b,a=b+1:=⟨a-1,by omega⟩
      rw [Nat.mul_succ];omega
    · obtain⟨b,rfl⟩:∃b,a=2*b+1:=⟨a/2,by omega⟩
      rw [Nat.mul_add,Nat.mul_one,Nat.add_sub_cancel,Nat.mul_mod_mul_left,Nat.mul_mod_right,Nat.mul_zero]
theorem bpA_inj {p s:Nat}(h:bpA p=bpA s):p=s:=by unfold bpA at h;omega
theorem addL_iff {L:List Int}{x a:Int}(hx0:x≠0):a∈addL L x↔a=x∨a∈L:=by
  refine⟨addL_mem,fun h=>?_⟩
  unfold addL
  split
  · rename_i e
    rcases h with rfl|h
    · rcases Nat.lt_or_ge (cntL L a) L.length with q|q
      · have:=getD_mem0 q;rwa [e]at this
      · rw [getD_out0 q]at e
        exact absurd e.symm hx0
    · exact h
  · unfold insL
    rcases h with rfl|h
    · simp
    · have:a∈L.take (cntL L x)++L.drop (cntL L x):=by rw [List.take_append_drop];exact h
      rcases List.mem_append.1 this with q|q
      · exact List.mem_append.2 (.inl q)
      · exact List.mem_append.2 (.inr (List.mem_cons_of_mem _ q))
theorem delL_iff {L:List Int}{x a:Int}(hr:L.Pairwise (· < ·))(hp:∀a,a∈L→0<a∧a≤4611686018427387904):a∈delL L x↔a∈L∧a≠x:=by
  refine⟨fun h=>delL_mem hr hp h,fun⟨h,hne⟩=>?_⟩
  unfold delL
  split
  · rename_i e
    have hx:L.getD (cntL L x) 0=x:=by
      unfold lsrE at e
      split at e
      · omega
      · rename_i q;exact Decidable.not_not.1 fun e2=>q (.inr e2)
    unfold remL
    have:a∈L.take (cntL L x)++L.drop (cntL L x):=by rw [List.take_append_drop];exact h
    rcases List.mem_append.1 this with q|q
    · exact List.mem_append.2 (.inl q)
    · refine List.mem_append.2 (.inr ?_)
      rcases Nat.lt_or_ge (cntL L x) L.length with hc|hc
      · rw [List.drop_eq_getElem_cons hc]at q
        rcases List.mem_cons.1 q with q|q
        · rw [List.getD_eq_getElem?_getD,List.getElem?_eq_getElem hc]at hx
          exact absurd (q.trans hx) hne
        · exact q
      · rw [List.drop_eq_nil_of_le hc]at q;cases q
  · exact h
section
variable {m:AM}{N g c:Nat}{r:Int}{q:List Tg}{Q:Nat→List Int}
theorem FrQ.rem (h:FrQ q Q)(hl:LQ m 0 88 11 Q){q':List Tg}{o k:Nat}(hk:k<11)(ho:gtD q o=(2,(k:Int)))(he:∀j,(gtD q' j).1=2↔(gtD q j).1=2∧j≠o)(he2:∀j,(gtD q' j).1=2→gtD q' j=gtD q j):FrQ q' (updQ Q k (delL (Q k) (bpA o))):=fun k' hk' a=>by
  have key:(∃p:Nat,gtD q' p=(2,(k':Int))∧a=bpA p)↔(∃p:Nat,gtD q p=(2,(k':Int))∧a=bpA p)∧¬(a=bpA o):=by
    constructor
    · rintro⟨p,h1,h2⟩
      have h3:(gtD q' p).1=2:=by rw [h1]
      refine⟨⟨p,by rw [←he2 p h3];exact h1,h2⟩,fun e=>?_⟩;exact((he p).1 h3).2 (bpA_inj (h2.symm.trans e))
    · rintro⟨⟨p,h1,h2⟩,h3⟩
      have h4:(gtD q' p).1=2:=(he p).2 ⟨by rw [h1],fun e=>h3 (by rw [h2,e])⟩;exact⟨p,by rw [he2 p h4];exact h1,h2⟩
  rw [key,←h k' hk' a]
  unfold updQ
  split
  · rename_i e;subst e
    rw [delL_iff (hl.rise _ hk) (hl.ps hk)]
  · rename_i e
    refine⟨fun ha=>⟨ha,fun e2=>?_⟩,fun ha=>ha.1⟩;obtain⟨p,h1,h2⟩:=(h k' hk' a).1 ha;have:p=o:=bpA_inj (h2.symm.trans e2);rw [this,ho]at h1;exact e (by have:=congrArg Prod.snd h1;dsimp only at this;omega)
theorem FrQ.add (h:FrQ q Q){q':List Tg}{o k:Nat}(hk:k<11)(ho:gtD q' o=(2,(k:Int)))(hn:(gtD q o).1≠2)(he:∀j,j≠o→((gtD q' j).1=2∨(gtD q j).1=2)→gtD q' j=gtD q j):FrQ q' (updQ Q k (addL (Q k) (bpA o))):=fun k' hk' a=>by
  have key:(∃p:Nat,gtD q' p=(2,(k':Int))∧a=bpA p)↔(∃p:Nat,gtD q p=(2,(k':Int))∧a=bpA p)∨(a=bpA o∧k'=k):=by
    constructor
    · rintro⟨p,h1,h2⟩
      by_cases hp:p=o
      · right;subst hp;refine⟨h2,?_⟩
        rw [ho]at h1;have:=congrArg Prod.snd h1;dsimp only at this;omega
      · left;exact⟨p,by rw [←he p hp (.inl (by rw [h1]))];exact h1,h2⟩
    · rintro(⟨p,h1,h2⟩|⟨h1,rfl⟩)
      · have hp:p≠o:=fun e=>hn (by rw [←e,h1])
        exact⟨p,by rw [he p hp (.inr (by rw [h1]))];exact h1,h2⟩
      · exact⟨o,ho,h1⟩
  rw [key,←h k' hk' a]
  unfold updQ
  split
  · rename_i e;subst e
    rw [addL_iff (by unfold bpA;omega)]
    constructor
    · rintro(x|x)
      · exact .inr ⟨x,rfl⟩
      · exact .inl x
    · rintro(x|⟨x,_⟩)
      · exact .inr x
      · exact .inl x
  · rename_i e
    exact⟨.inl,fun x=>x.elim id fun y=>absurd y.2 e⟩
end
def KeepT (m m':AM)(q:List Tg):Prop:=∀(p:Nat) (t:Int),gtD q p=(3,t)→∀y:Nat,4096*(p+1)≤y→y<4096*(p+2)→m'.mem y=m.mem y
theorem KeepT.refl (m:AM)(q:List Tg):KeepT m m q:=fun _ _ _ _ _ _=>rfl
theorem KeepT.trans {m m' m'':AM}{q q':List Tg}(h:KeepT m m' q)(h2:KeepT m' m'' q')(ht:∀j t,gtD q j=(3,t)→gtD q' j=(3,t)):KeepT m m'' q:=fun p t hp y h3 h4=>(h2 p t (ht p t hp) y h3 h4).trans (h p t hp y h3 h4)
structure Bdy (m:AM)(N g:Nat)(r:Int)(q:List Tg)(Q:Nat→List Int):Prop where
  bm:BdM m N g g r q Q
  fr:FrQ q Q
  tl:Tl N g q
  nf:NF q
section
variable {m:AM}{N g c:Nat}{r:Int}{q q0:List Tg}{Q:Nat→List Int}
theorem Bdy.outT (h:BdM m N g c r q Q)(hf:FrQ q Q){p:Nat}{t:Int}(hp:(gtD q p).1≠2){y:Nat}(h1:4096*(p+1)≤y)(h2:y<4096*(p+2)):Out Q y:=⟨by omega,fun k hk a ha=>by
  obtain⟨s,e1,rfl⟩:=(hf k hk a).1 ha;have:s≠p:=fun e=>hp (by rw [←e,e1])
  unfold bpA;omega⟩
theorem NF.sub {q':List Tg}(h:NF q)(he:∀j,(gtD q' j).1=2→gtD q' j=gtD q j):NF q':=fun p k h1 h2 h3 h4=>by
  have e1:=he p (by rw [h1]);have e2:=he (p+2^k) (by rw [h4]);exact h p k (e1.symm.trans h1) h2 h3 (e2.symm.trans h4)
theorem Bdy.drop (h:Bdy m N g r q Q){o k:Nat}(ho:gtD q o=(2,(k:Int))):
    Bdy (tgLM (lsrM m 0 88 (k:Int) (Q k) (bpA o)) 257 (N:Int) (o:Int) (k:Int) (0:Nat)) N g r (rlQ q (o:Int) (k:Int) (0:Nat)) (updQ Q k (delL (Q k) (bpA o)))∧
    (∀j,gtD (rlQ q (o:Int) (k:Int) (0:Nat)) j=if o≤j∧j<o+2^k then(0,0)else gtD q j)∧
    KeepT m (tgLM (lsrM m 0 88 (k:Int) (Q k) (bpA o)) 257 (N:Int) (o:Int) (k:Int) (0:Nat)) q∧k≤10∧o%2^k=0∧o+2^k≤g:=by
  obtain⟨a1,a2,a3,a4,a5⟩:=h.tl.two ho;obtain⟨d1,d2,d3⟩:=h.tl.drop a5 (by rw [ho]);have hp:=pow_le10 a1;have b1:=h.bm.rem (k:=k) (by omega) (bpA o);have b2:=(b1.lay (i:=(o:Int)) (a:=(k:Int)) (s:=(0:Nat)) (by decide)).2
  have e2:∀j,(gtD (rlQ q (o:Int) (k:Int) (0:Nat)) j).1=2↔(gtD q j).1=2∧j≠o:=fun j=>by
    rw [d3]
    split
    · rename_i e
      refine⟨fun x=>by simp at x,fun⟨x1,x2⟩=>?_⟩;have:=(h.tl.st o a5).2.2.2.2 j (by omega) (by rw [a4];omega);omega
    · rename_i e
      exact⟨fun x=>⟨x,fun e3=>e (by omega)⟩,fun x=>x.1⟩
  have e3:∀j,(gtD (rlQ q (o:Int) (k:Int) (0:Nat)) j).1=2→gtD (rlQ q (o:Int) (k:Int) (0:Nat)) j=gtD q j:=fun j hj=>by
    rw [d3]at hj⊢
    split at hj
    · simp at hj
    · rename_i e;rw [if_neg e]
  refine⟨⟨b2,h.fr.rem h.bm.lq (by omega) ho e2 e3,d1,h.nf.sub e3⟩,d3,fun p t hp3 y h1 h2=>?_,a1,a2,a3⟩;have hN:=h.bm.nb;rw [tgLM_far (by omega) (by omega)];exact h.bm.lq.rem_far (by omega) (Bdy.outT (t:=t) h.bm h.fr (by rw [hp3];show(3:Int)≠2;decide) h1 h2)
theorem Bdy.put (h:Bdy m N g r q Q){i k:Nat}(hk:k≤10)(hi:i+2^k≤g)(hm:i%2^k=0)(hz:∀j,i≤j→j<i+2^k→(gtD q j).1=0)(hb:k=10∨gtD q (buQ i k)≠(2,(k:Int))):
    Bdy (lsaM (tgLM m 257 (N:Int) (i:Int) (k:Int) (2:Nat)) 0 88 (k:Int) (Q k) (bpA i)) N g r (rlQ q (i:Int) (k:Int) (2:Nat)) (updQ Q k (addL (Q k) (bpA i)))∧
    (∀j,gtD (rlQ q (i:Int) (k:Int) (2:Nat)) j=if i≤j∧j<i+2^k then(if j=i then(2,(k:Int))else(1,0))else gtD q j)∧
    KeepT m (lsaM (tgLM m 257 (N:Int) (i:Int) (k:Int) (2:Nat)) 0 88 (k:Int) (Q k) (bpA i)) q:=by
  have hp:=pow_le10 hk;obtain⟨d1,d2,d3⟩:=h.tl.put hk (s:=2) (.inl rfl) hi hm hz;have b1:=(h.bm.lay (i:=(i:Int)) (a:=(k:Int)) (s:=(2:Nat)) (by decide)).2
  have hno:∀k',k'<11→¬bpA i∈Q k':=fun k' hk' ha=>by
    obtain⟨s,e1,e2⟩:=(h.fr k' hk' _).1 ha;have:=bpA_inj e2;subst this;have:=hz i (Nat.le_refl _) (by omega);rw [e1]at this;simp at this
  have b2:=(b1.add (k:=k) (p:=i) (by omega) (by omega) (fun k' hk' ha=>absurd ha (hno k' hk'))).2;have hi0:=hz i (Nat.le_refl _) (by omega);have d4:gtD (rlQ q (i:Int) (k:Int) (2:Nat)) i=(2,(k:Int)):=by rw [d3,if_pos ⟨Nat.le_refl _,by omega⟩,if_pos rfl];rfl
  have d5:∀j,j≠i→((gtD (rlQ q (i:Int) (k:Int) (2:Nat)) j).1=2∨(gtD q j).1=2)→gtD (rlQ q (i:Int) (k:Int) (2:Nat)) j=gtD q j:=fun j hj hq=>by
    rw [d3]at hq⊢
    by_cases e:i≤j∧j<i+2^k
    · rw [if_pos e,if_neg hj]at hq
      have:=hz j e.1 e.2
      rcases hq with hq|hq
      · simp at hq
      · omega
    · rw [if_neg e]
  refine⟨⟨b2,h.fr.add (by omega) d4 (by rw [hi0];decide) d5,d1,fun p k' h1 h2 h3 h4=>?_⟩,d3,fun p t hp3 y h1 h2=>?_⟩
  · by_cases hpi:p=i
    · subst hpi
      rw [d4]at h1;have:k'=k:=by have:=congrArg Prod.snd h1;dsimp only at this;omega
      subst this;have hne:p+2^k'≠p:=by omega
      have h5:=d5 _ hne (.inl (by rw [h4]))
      rcases hb with hb|hb
      · omega
      · apply hb;unfold buQ;rw [if_pos h3,←h5];exact h4
    · have h5:=d5 p hpi (.inl (by rw [h1]))
      by_cases hqi:p+2^k'=i
      · rw [hqi,d4]at h4
        have:k'=k:=by have:=congrArg Prod.snd h4;dsimp only at this;omega
        subst this
        rcases hb with hb|hb
        · omega
        · apply hb
          have hp9:2^(k'+1)=2^k'*2:=Nat.pow_succ 2 k'
          have hn:¬i%2^(k'+1)=0:=fun e=>by
            rw [←hqi,Nat.add_mod,h3,Nat.zero_add,Nat.mod_mod,Nat.mod_eq_of_lt (by omega)]at e;omega
          unfold buQ;rw [if_neg hn,←hqi,Nat.add_sub_cancel,←h5];exact h1
      · have h6:=d5 _ hqi (.inl (by rw [h4]))
        exact h.nf p k' (h5.symm.trans h1) h2 h3 (h6.symm.trans h4)
  · have hpi:p≠i:=fun e=>by rw [e]at hp3;rw [hp3]at hi0;simp at hi0
    have hN:=h.bm.nb;have hcn:=h.bm.cn;rw [b1.lq.add_far (by omega) ⟨by unfold bpA;omega,b1.thr (by unfold bpA;omega) (by omega) (by unfold bpA;omega),by unfold bpA;omega⟩ (Bdy.outT (t:=t) h.bm h.fr (by rw [hp3];show(3:Int)≠2;decide) h1 h2) (by unfold bpA;omega)];exact tgLM_far (by omega) (by omega)
end
structure RelI (q0:List Tg)(g i0 k0:Nat)(q:List Tg)(i k:Nat):Prop where
  k10:k≤10
  al:i%2^k=0
  fit:i+2^k≤g
  hole:∀j,i≤j→j<i+2^k→(gtD q j).1=0
  tk:∀j t,gtD q j=(3,t)↔gtD q0 j=(3,t)
  non:∀j,¬(i≤j∧j<i+2^k)→((gtD q j).1=0↔(gtD q0 j).1=0)
  was:∀j,i≤j→j<i+2^k→((gtD q0 j).1=0↔i0≤j∧j<i0+2^k0)
  in0:i≤i0∧i0+2^k0≤i+2^k
structure RelE (q0:List Tg)(i0 k0:Nat)(q:List Tg):Prop where
  tk:∀j t,gtD q j=(3,t)↔gtD q0 j=(3,t)
  non:∀j,(gtD q j).1=0↔(gtD q0 j).1=0∧¬(i0≤j∧j<i0+2^k0)
section
variable {N g:Nat}{q q0:List Tg}{i k i0 k0:Nat}
theorem RelI.zero (hk:k≤10)(ha:i%2^k=0)(hf:i+2^k≤g)(hz:∀j,i≤j→j<i+2^k→(gtD q j).1=0):RelI q g i k q i k:=
  ⟨hk,ha,hf,hz,fun _ _=>Iff.rfl,fun _ _=>Iff.rfl,fun j h1 h2=>⟨fun _=>⟨h1,h2⟩,fun _=>hz j h1 h2⟩,⟨Nat.le_refl _,Nat.le_refl _⟩⟩
theorem bu_facts (ha:i%2^k=0):min i (buQ i k)%2^(k+1)=0∧min i (buQ i k)+2^(k+1)=max i (buQ i k)+2^k∧(buQ i k=i+2^k∨(buQ i k+2^k=i))∧2^(k+1)=2^k*2∧0<2^k:=by
  have hp:2^(k+1)=2^k*2:=Nat.pow_succ 2 k;have h0:0<2^k:=Nat.pow_pos (by decide)
  unfold buQ
  rcases half ha with h|⟨h1,h2,h3⟩
  · rw [if_pos h,Nat.min_eq_left (by omega),Nat.max_eq_right (by omega)]
    exact⟨h,by omega,.inl rfl,hp,h0⟩
  · rw [if_neg (by omega),Nat.min_eq_right (by omega),Nat.max_eq_left (by omega)]
    exact⟨h3,by omega,.inr (by omega),hp,h0⟩
theorem RelI.step (h:RelI q0 g i0 k0 q i k)(ht:Tl N g q)(hk:k<10)(ho:gtD q (buQ i k)=(2,(k:Int))){q':List Tg}(hq:∀j,gtD q' j=if buQ i k≤j∧j<buQ i k+2^k then(0,0)else gtD q j):RelI q0 g i0 k0 q' (min i (buQ i k)) (k+1):=by
  obtain⟨f1,f2,f3,f4,f5⟩:=bu_facts h.al;obtain⟨a1,a2,a3,a4,a5⟩:=ht.two ho;have hfit:=h.fit;have hin:=h.in0
  generalize buQ i k=o at*
  have hin2:∀j,o≤j→j<o+2^k→(gtD q j).1≠0∧∀t,gtD q j≠(3,t):=fun j h1 h2=>by
    by_cases e:j=o
    · subst e;rw [ho];exact⟨by simp,fun t e=>by have:=congrArg Prod.fst e;simp at this⟩
    · have:=(ht.st o a5).2.2.2.2 j (by omega) (by rw [a4];omega)
      exact⟨by omega,fun t e2=>by rw [e2]at this;simp at this⟩
  refine⟨by omega,f1,by omega,fun j h1 h2=>?_,fun j t=>?_,fun j hj=>?_,fun j h1 h2=>?_,by omega⟩
  · rw [hq];split
    · rfl
    · exact h.hole j (by omega) (by omega)
  · rw [hq];split
    · rename_i e
      refine⟨fun x=>by have:=congrArg Prod.fst x;simp at this,fun x=>?_⟩;exact absurd ((h.tk j t).2 x) ((hin2 j e.1 e.2).2 t)
    · exact h.tk j t
  · rw [hq,if_neg (by omega)];exact h.non j (by omega)
  · by_cases e:i≤j∧j<i+2^k
    · exact h.was j e.1 e.2
    · have hjo:o≤j∧j<o+2^k:=by omega
      have h3:=h.non j e;exact⟨fun x=>absurd (h3.2 x) (hin2 j hjo.1 hjo.2).1,fun x=>by omega⟩
theorem RelI.fin (h:RelI q0 g i0 k0 q i k){q':List Tg}(hq:∀j,gtD q' j=if i≤j∧j<i+2^k then(if j=i then(2,(k:Int))else(1,0))else gtD q j):RelE q0 i0 k0 q':=by
  have hin:=h.in0;refine⟨fun j t=>?_,fun j=>?_⟩
  · rw [hq];split
    · rename_i e
      refine⟨fun x=>?_,fun x=>?_⟩
      · split at x<;>(have:=congrArg Prod.fst x;simp at this)
      · have:=(h.tk j t).2 x;have h2:=h.hole j e.1 e.2;rw [this]at h2;simp at h2
    · exact h.tk j t
  · rw [hq];split
    · rename_i e
      refine⟨fun x=>?_,fun x=>absurd ((h.was j e.1 e.2).1 x.1) x.2⟩
      split at x<;>(simp at x)
    · rename_i e
      rw [h.non j e];exact⟨fun x=>⟨x,fun y=>by omega⟩,fun x=>x.1⟩
end
theorem bpI {i:Int}(h:0≤i):(1+i)*4096=bpA i.toNat:=by unfold bpA;omega
def buI (i k:Int):Int:=((buQ i.toNat k.toNat:Nat):Int)
theorem xor_all:∀i,i<80→∀k,k<10→i%2^k=0→ixor .i64 ((i:Nat):Int) (1*2^k)=((buQ i k:Nat):Int):=by decide+kernel
theorem xorI {i k:Int}(hi:0≤i∧i<80)(hk:0≤k∧k<10)(ha:i.toNat%2^k.toNat=0):ixor .i64 i (1*(2^Int.toNat k))=buI i k:=by
  have:=xor_all i.toNat (by omega) k.toNat (by omega) ha;rw [show((i.toNat:Nat):Int)=i by omega]at this;exact this
theorem up_all:∀n,n<400→iandNot .i64 (((n+1:Nat):Int)+4096-1) 4095=4096:=by decide+kernel
theorem upI1 {n:Int}(h:1≤n∧n≤400):iandNot .i64 (n+4096-1) 4095=4096:=by
  have:=up_all (n.toNat-1) (by omega)
  rwa [show(((n.toNat-1)+1:Nat):Int)=n by omega]at this
section
variable {m:AM}{N g c i0 k0:Nat}{r:Int}{q q0:List Tg}{Q:Nat→List Int}{k:Int}
theorem BdM.chI (h:BdM m N g c r q Q)(hk:0≤k∧k≤10):ChainL m 0 88 k (Q k.toNat):=by
  have:=h.lq.chain k.toNat (by omega)
  rwa [show((k.toNat:Nat):Int)=k by omega]at this
theorem BdM.psI (h:BdM m N g c r q Q)(hk:0≤k∧k≤10):∀a,a∈Q k.toNat→0<a∧a≤4611686018427387904:=h.lq.ps (by omega)
theorem BdM.remI (h:BdM m N g c r q Q)(hk:0≤k∧k≤10)(a:Int):BdM (lsrM m 0 88 k (Q k.toNat) a) N g c r q (updQ Q k.toNat (delL (Q k.toNat) a)):=by
  have:=h.rem (k:=k.toNat) (by omega) a
  rwa [show((k.toNat:Nat):Int)=k by omega]at this
theorem BdM.layI (h:BdM m N g c r q Q){i a s:Int}(hs:0≤s):BdM (tgLM m 257 (N:Int) i a s) N g c r (rlQ q i a s) Q:=(h.lay hs).2
theorem Bdy.dropI (h:Bdy m N g r q Q){o a:Int}(ho0:0≤o)(hk0:0≤k)(ho:gtD q o.toNat=(2,k))(ha:a=bpA o.toNat):
    Bdy (tgLM (lsrM m 0 88 k (Q k.toNat) a) 257 (N:Int) o k 0) N g r (rlQ q o k 0) (updQ Q k.toNat (delL (Q k.toNat) a))∧
    (∀j,gtD (rlQ q o k 0) j=if o.toNat≤j∧j<o.toNat+2^k.toNat then(0,0)else gtD q j)∧KeepT m (tgLM (lsrM m 0 88 k (Q k.toNat) a) 257 (N:Int) o k 0) q∧k≤10:=by
  subst ha;obtain⟨o,rfl⟩:∃n:Nat,o=n:=⟨o.toNat,by omega⟩;obtain⟨k,rfl⟩:∃n:Nat,k=n:=⟨k.toNat,by omega⟩;rw [Int.toNat_natCast]at*;rw [Int.toNat_natCast]at*;obtain⟨h1,h2,h3,h4,_⟩:=h.drop ho;exact⟨h1,h2,h3,by omega⟩
theorem Bdy.putI (h:Bdy m N g r q Q){i a:Int}(hi0:0≤i)(hk0:0≤k)(hr:RelI q0 g i0 k0 q i.toNat k.toNat)(hb:k=10∨gtD q (buQ i.toNat k.toNat)≠(2,k))(ha:a=bpA i.toNat):
    Bdy (lsaM (tgLM m 257 (N:Int) i k 2) 0 88 k (Q k.toNat) a) N g r (rlQ q i k 2) (updQ Q k.toNat (addL (Q k.toNat) a))∧RelE q0 i0 k0 (rlQ q i k 2)∧KeepT m (lsaM (tgLM m 257 (N:Int) i k 2) 0 88 k (Q k.toNat) a) q:=by
  subst ha;obtain⟨i,rfl⟩:∃n:Nat,i=n:=⟨i.toNat,by omega⟩;obtain⟨k,rfl⟩:∃n:Nat,k=n:=⟨k.toNat,by omega⟩;rw [Int.toNat_natCast,Int.toNat_natCast]at*;obtain⟨h1,h2,h3⟩:=h.put hr.k10 hr.fit hr.al hr.hole (hb.imp (fun x=>by omega) id);exact⟨h1,hr.fin h2,h3⟩
theorem RelI.stepI {i0 k0:Nat}{x:Int}(h:RelI q0 g i0 k0 q x.toNat k.toNat)(ht:Tl N g q)(hx:0≤x)(hk:0≤k∧k<10)(ho:gtD q (buI x k).toNat=(2,k))(hq:∀j,gtD (rlQ q (buI x k) k 0) j=if(buI x k).toNat≤j∧j<(buI x k).toNat+2^k.toNat then(0,0)else gtD q j):RelI q0 g i0 k0 (rlQ q (buI x k) k 0) (imin x (buI x k)).toNat (k+1).toNat:=by
  have e:(buI x k).toNat=buQ x.toNat k.toNat:=by unfold buI;rw [Int.toNat_natCast]
  have h2:=h.step (q':=rlQ q (buI x k) k 0) ht (by omega) (by rw [←e,ho];rw [show((k.toNat:Nat):Int)=k by omega]) (fun j=>by rw [hq,e]);rw [show(k+1).toNat=k.toNat+1 by omega]
  have e2:(imin x (buI x k)).toNat=min x.toNat (buQ x.toNat k.toNat):=by
    unfold imin buI
    split<;>omega
  rw [e2];exact h2
theorem bu_no {x:Int}(h:rgE q (buI x k)≠0):k=10∨gtD q (buQ x.toNat k.toNat)≠(2,k):=.inr fun e=>h (by
  unfold rgE buI
  rw [if_neg];rintro(c|c)
  · omega
  · rw [gtD_o0 (by omega)]at e;simp at e)
theorem bu_ne {x:Int}(h0:rgE q (buI x k)=0)(h:rgV q (buI x k)≠(2,k)):k=10∨gtD q (buQ x.toNat k.toNat)≠(2,k):=.inr fun e=>h (by
  unfold rgV buI
  unfold buI at h0
  rw [if_pos h0,Int.toNat_natCast,e])
theorem bu_eq {x:Int}(h0:rgE q (buI x k)=0)(h:rgV q (buI x k)=(2,k)):gtD q (buI x k).toNat=(2,k):=by
  unfold rgV at h;rwa [if_pos h0]at h
theorem bu_neE {x:Int}(h0:rgE q (buI x k)=0)(h:(!(eqAll [(((rgV q (buI x k)).1:Int),(2:Int)),(((rgV q (buI x k)).2:Int),(k:Int))]))=true):k=10∨gtD q (buQ x.toNat k.toNat)≠(2,k):=bu_ne h0 fun e=>by
  rw [e]at h
  simp [eqAll]at h
theorem bu_eqE {x:Int}(h0:rgE q (buI x k)=0)(h:(!(eqAll [(((rgV q (buI x k)).1:Int),(2:Int)),(((rgV q (buI x k)).2:Int),(k:Int))]))=false):gtD q (buI x k).toNat=(2,k):=bu_eq h0 (by
  simp [eqAll]at h
  exact Prod.ext h.1 h.2)
theorem bu_rng {x:Int}(hx:0≤x∧x≤100)(hk:k≤9):0≤buI x k∧buI x k≤1000:=by
  unfold buI buQ
  have:=Nat.pow_le_pow_right (n:=2) (by decide) (show k.toNat≤9 by omega)
  split<;>omega
theorem RelI.lt {x:Int}(h:RelI q0 g i0 k0 q x.toNat k.toNat):x.toNat<g:=by
  have:=h.fit;have:0<2^k.toNat:=Nat.pow_pos (by decide);omega
theorem imin_nn {a b:Int}(h:0≤a)(h2:0≤b):0≤imin a b:=by unfold imin;split<;>omega
theorem BdM.grV (h:BdM m N g c r q Q):vldV m 0 256 96 8=(g:Int):=by
  unfold vldV
  rw [show wholeB 8=true from rfl,if_pos rfl,show vchE 256 96 8=0 from by decide,if_pos rfl];exact h.gr
def tdq (a b:Int):Int:=Int.tdiv a b
theorem tdq_nn {a b:Int}(h:0≤a):tdq a b=a/b:=Int.tdiv_eq_ediv_of_nonneg h
theorem tdq_rng {a:Int}(h: -9223372036854775808≤a∧a≤9223372036854775807): -2251799813685248≤tdq a 4096∧tdq a 4096≤2251799813685247:=by
  rcases Int.lt_or_le a 0 with h1|h1
  · unfold tdq
    have e:Int.tdiv a 4096= -Int.tdiv (-a) 4096:=by rw [Int.neg_tdiv,Int.neg_neg]
    rw [e,Int.tdiv_eq_ediv_of_nonneg (by omega)];omega
  · rw [tdq_nn h1];omega
theorem tdq_ok {a b:Int}(h: -9223372036854775808≤a∧a≤9223372036854775807)(hb:b=4096):b≠0∧IntKind.i64.wrap (Int.tdiv a b)=tdq a b:=by
  subst hb;have:=tdq_rng h;refine⟨by decide,?_⟩
  show IntKind.i64.wrap (tdq a 4096)=_
  exact i64_in (by omega)
theorem tdq_eq {a:Int}(h: -9223372036854775808≤a∧a≤9223372036854775807):IntKind.wrap .i64 (Int.tdiv a 4096)=tdq a 4096:=(tdq_ok h rfl).2
def tkE (q:List Tg)(a:Int):Int:=if a<0∨a%4096≠0∨rgE q (a/4096-1)≠0∨(rgV q (a/4096-1)).1≠3 then 8 else 0
def tkI (q:List Tg)(a:Int):Int:=if tkE q a=0 then a/4096-1 else 0
def tkK (q:List Tg)(a:Int):Int:=if tkE q a=0 then(rgV q (a/4096-1)).2 else 0
theorem tk_1 {a:Int}(h:((((decide ((a:Int)<0))||(((a%4096):Int)!=0))||(((rgE q ((tdq a 4096)-1)):Int)!=0))||(((rgV q ((tdq a 4096)-1)).1:Int)!=3))=true):0=tkI q a∧0=tkK q a∧8=tkE q a:=by
  have e:tkE q a=8:=by
    unfold tkE
    rw [if_pos]
    simp only [Bool.or_eq_true,decide_eq_true_eq,bne_iff_ne]at h
    by_cases h0:a<0
    · exact .inl h0
    · rw [tdq_nn (by omega)]at h
      rcases h with((h|h)|h)|h
      · exact .inl h
      · exact .inr (.inl h)
      · exact .inr (.inr (.inl h))
      · exact .inr (.inr (.inr h))
  unfold tkI tkK
  rw [e];exact⟨rfl,rfl,rfl⟩
theorem tk_2 {a:Int}(h:((((decide ((a:Int)<0))||(((a%4096):Int)!=0))||(((rgE q ((tdq a 4096)-1)):Int)!=0))||(((rgV q ((tdq a 4096)-1)).1:Int)!=3))=false):tdq a 4096-1=tkI q a∧(rgV q (tdq a 4096-1)).2=tkK q a∧0=tkE q a∧0≤a∧rgE q (tdq a 4096-1)=0:=by
  simp only [Bool.or_eq_false_iff,decide_eq_false_iff_not,bne_eq_false_iff_eq]at h
  obtain⟨⟨⟨h1,h2⟩,h3⟩,h4⟩:=h;have e0:tdq a 4096=a/4096:=tdq_nn (by omega)
  have e:tkE q a=0:=by
    unfold tkE
    rw [if_neg];rw [←e0];rintro(x|x|x|x)
    · exact h1 x
    · exact x h2
    · exact x h3
    · exact x h4
  unfold tkI tkK
  rw [e,e0];exact⟨rfl,rfl,rfl,by omega,by rw [←e0];exact h3⟩
theorem Bdy.ordB (h:Bdy m N g r q Q)(i:Int):0≤(rgV q i).1∧(rgV q i).1≤3∧0≤(rgV q i).2∧(rgV q i).2≤10:=by
  unfold rgV
  split
  · rename_i e
    have:=rgE_in e;exact h.bm.tg.rng _ (by omega)
  · decide
theorem Bdy.dropT (h:Bdy m N g r q Q){i:Nat}{k:Nat}(hi:gtD q i=(3,(k:Int))):Bdy (tgLM m 257 (N:Int) (i:Int) (k:Int) (0:Nat)) N g r (rlQ q (i:Int) (k:Int) (0:Nat)) Q∧
    RelI (rlQ q (i:Int) (k:Int) (0:Nat)) g i k (rlQ q (i:Int) (k:Int) (0:Nat)) i k∧(∀j,gtD (rlQ q (i:Int) (k:Int) (0:Nat)) j=if i≤j∧j<i+2^k then(0,0)else gtD q j)∧(∀y:Nat,4096≤y→(tgLM m 257 (N:Int) (i:Int) (k:Int) (0:Nat)).mem y=m.mem y)∧(∀j,i≤j→j<i+2^k→(gtD q j).1≠0∧(j≠i→(gtD q j).1=1)):=by
  have h3:2≤(gtD q i).1:=by rw [hi];show(2:Int)≤3;decide
  have hw:wdQ q i=2^k:=by unfold wdQ;rw [hi];exact congrArg _ (Int.toNat_natCast k)
  obtain⟨a1,a2,a3,a4,a5⟩:=h.tl.st i h3;rw [hw]at a3 a4 a5;have hk:k≤10:=by rw [hi]at a2;have:(k:Int)≤10:=a2;omega
  obtain⟨d1,d2,d3⟩:=h.tl.drop h3 (by rw [hi])
  have hin:∀j,i≤j→j<i+2^k→(gtD q j).1≠0∧(j≠i→(gtD q j).1=1):=fun j h1 h2=>by
    by_cases e:j=i
    · subst e;exact⟨by omega,fun x=>absurd rfl x⟩
    · have:=a5 j (by omega) h2;exact⟨by omega,fun _=>this⟩
  have hne:∀j,(gtD (rlQ q (i:Int) (k:Int) (0:Nat)) j).1=2→gtD (rlQ q (i:Int) (k:Int) (0:Nat)) j=gtD q j:=fun j hj=>by
    rw [d3]at hj⊢
    split at hj
    · simp at hj
    · rename_i e;rw [if_neg e]
  have hN:=h.bm.nb;refine⟨⟨h.bm.layI (by decide),fun k' hk' a=>?_,d1,h.nf.sub hne⟩,RelI.zero hk a3 a4 fun j h1 h2=>by rw [d3,if_pos ⟨h1,h2⟩],d3,fun y hy=>tgLM_far (by omega) (by omega),hin⟩;rw [h.fr k' hk' a];refine⟨fun⟨p,h1,h2⟩=>⟨p,?_,h2⟩,fun⟨p,h1,h2⟩=>⟨p,by rw [←hne p (by rw [h1])];exact h1,h2⟩⟩;rw [d3,if_neg]
  · exact h1
  · rintro⟨x1,x2⟩
    by_cases e:p=i
    · subst e;rw [hi]at h1;simp at h1
    · have:=(hin p x1 x2).2 e;rw [h1]at this;simp at this
def FreeP (q:List Tg)(a:Int)(q2:List Tg):Prop:=(tkE q a≠0∧q2=q)∨(tkE q a=0∧(∀(j:Nat) (t:Int),gtD q2 j=(3,t)↔gtD q j=(3,t)∧j≠(tkI q a).toNat)∧∀j,(gtD q2 j).1=0↔(gtD q j).1=0)
theorem tkE_or (q:List Tg)(a:Int):tkE q a=0∨tkE q a=8:=by unfold tkE;split<;>simp
theorem Bdy.tk (h:Bdy m N g r q Q){a:Int}(he:tkE q a=0):0≤tkI q a∧tkI q a<79∧0≤tkK q a∧tkK q a≤10∧gtD q (tkI q a).toNat=(3,tkK q a)∧a=(1+tkI q a)*4096:=by
  have hN:=h.bm.nb;have hl:=h.tl.len
  unfold tkI tkK
  rw [if_pos he,if_pos he]
  unfold tkE at he
  split at he
  · omega
  · rename_i hn
    have h0:0≤a:=Int.not_lt.1 fun x=>hn (.inl x)
    have h1:a%4096=0:=Decidable.not_not.1 fun x=>hn (.inr (.inl x))
    have h2:rgE q (a/4096-1)=0:=Decidable.not_not.1 fun x=>hn (.inr (.inr (.inl x)))
    have h3:(rgV q (a/4096-1)).1=3:=Decidable.not_not.1 fun x=>hn (.inr (.inr (.inr x)))
    have h4:=rgE_in h2;have h5:=h.ordB (a/4096-1);have h6:rgV q (a/4096-1)=gtD q (a/4096-1).toNat:=by unfold rgV;rw [if_pos h2]
    refine⟨h4.1,by omega,h5.2.2.1,h5.2.2.2,?_,by omega⟩;rw [←h6];exact Prod.ext h3 rfl
theorem Bdy.dropTI (h:Bdy m N g r q Q){a:Int}(he:tkE q a=0):Bdy (tgLM m 257 (N:Int) (tkI q a) (tkK q a) 0) N g r (rlQ q (tkI q a) (tkK q a) 0) Q∧
    RelI (rlQ q (tkI q a) (tkK q a) 0) g (tkI q a).toNat (tkK q a).toNat (rlQ q (tkI q a) (tkK q a) 0) (tkI q a).toNat (tkK q a).toNat∧
    ∀(mo:AM) (q2:List Tg),RelE (rlQ q (tkI q a) (tkK q a) 0) (tkI q a).toNat (tkK q a).toNat q2→KeepT (tgLM m 257 (N:Int) (tkI q a) (tkK q a) 0) mo (rlQ q (tkI q a) (tkK q a) 0)→FreeP q a q2∧KeepT m mo q2:=by
  obtain⟨t1,t2,t3,t4,t5,t6⟩:=h.tk he;have e1:(((tkI q a).toNat:Nat):Int)=tkI q a:=by omega
  have e2:(((tkK q a).toNat:Nat):Int)=tkK q a:=by omega
  have hd:=h.dropT (i:=(tkI q a).toNat) (k:=(tkK q a).toNat) (by rw [t5,e2]);rw [e1,e2]at hd;obtain⟨d1,d2,d3,d4,d5⟩:=hd;refine⟨d1,d2,fun mo q2 hr hk=>⟨.inr ⟨he,fun j t=>?_,fun j=>?_⟩,fun p t hp y h1 h2=>?_⟩⟩
  · rw [hr.tk]
    show gtD (rlQ q (tkI q a) (tkK q a) (0:Nat)) j=(3,t)↔_
    rw [d3]
    split
    · rename_i e
      refine⟨fun x=>by simp at x,fun⟨x1,x2⟩=>?_⟩;have:=(d5 j e.1 e.2).2 x2;rw [x1]at this;simp at this
    · rename_i e
      refine⟨fun x=>⟨x,fun y=>e ?_⟩,fun x=>x.1⟩;have:0<2^(tkK q a).toNat:=Nat.pow_pos (by decide);omega
  · rw [hr.non]
    show(gtD (rlQ q (tkI q a) (tkK q a) (0:Nat)) j).1=0∧_↔_
    rw [d3]
    split
    · rename_i e
      exact⟨fun x=>absurd e x.2,fun x=>absurd x (d5 j e.1 e.2).1⟩
    · rename_i e
      exact⟨fun x=>x.1,fun x=>⟨x,e⟩⟩
  · rw [hk p t ((hr.tk p t).1 hp) y h1 h2]
    exact d4 y (by omega)
end
abbrev Rn:=Int×Int×Bool
def rnE (q:List Tg)(p:Nat):Rn:=(bpA p,(gtD q p).2,(gtD q p).1==3)
def rnTo (q:List Tg)(x:Nat):List Rn:=((List.range x).filter fun p=>decide (2≤(gtD q p).1)).map (rnE q)
def rnUp (q:List Tg)(x:Nat):Prop:=∀s,s<x→2≤(gtD q s).1→s+wdQ q s≤x
theorem rnTo_len (q:List Tg)(x:Nat):(rnTo q x).length≤x:=by
  unfold rnTo
  rw [List.length_map];refine Nat.le_trans (List.length_filter_le _ _) ?_;rw [List.length_range];exact Nat.le_refl _
theorem rnUp_0 (q:List Tg):rnUp q 0:=fun s h=>absurd h (Nat.not_lt_zero _)
section
variable {m:AM}{N g:Nat}{r:Int}{q:List Tg}{Q:Nat→List Int}
theorem rn_none:∀(n:Nat) {x:Nat},(∀j,x≤j→j<x+n→(gtD q j).1<2)→rnTo q (x+n)=rnTo q x
  |0,x,_=>rfl
  |n+1,x,h=>by
    rw [←Nat.add_assoc];have ih:=rn_none n (x:=x) (fun j h1 h2=>h j h1 (by omega));rw [←ih]
    unfold rnTo
    rw [List.range_succ,List.filter_append,List.map_append];have:=h (x+n) (by omega) (by omega);rw [List.filter_cons_of_neg (by simp;omega)]
    simp
theorem rn_step (h:Tl N g q){x:Nat}(hx:x<g)(hf:(gtD q x).1≠0)(hr:0≤(gtD q x).1)(hu:rnUp q x):2≤(gtD q x).1∧rnTo q (x+wdQ q x)=rnTo q x++[rnE q x]∧rnUp q (x+wdQ q x)∧x+wdQ q x≤g:=by
  have h2:2≤(gtD q x).1:=by
    rcases Int.lt_or_le (gtD q x).1 2 with c|c
    · obtain⟨s,s1,s2,s3⟩:=h.ins x (by omega)
      have:=hu s s1 s2;omega
    · exact c
  obtain⟨a1,a2,a3,a4,a5⟩:=h.st x h2;have hw:0<wdQ q x:=Nat.pow_pos (by decide);refine⟨h2,?_,fun s s1 s2=>?_,a4⟩
  · have e:x+wdQ q x=(x+1)+(wdQ q x-1):=by omega
    rw [e,rn_none _ (fun j j1 j2=>by rw [a5 j (by omega) (by omega)];decide)]
    unfold rnTo
    rw [List.range_succ,List.filter_append,List.map_append,List.filter_cons_of_pos (by simpa using h2)]
    rfl
  · by_cases e:s<x
    · have:=hu s e s2;omega
    · by_cases e2:s=x
      · subst e2;exact Nat.le_refl _
      · have:=a5 s (by omega) s1;omega
theorem Bdy.rnI (h:Bdy m N g r q Q)(hf:FullG g q){x:Int}(h0:0≤x)(hx:x<(g:Int))(hu:rnUp q x.toNat):rgV q x=gtD q x.toNat∧rgE q x=0∧rnTo q (x+1*2^(gtD q x.toNat).2.toNat).toNat=rnTo q x.toNat++[(((1+x)*4096,(gtD q x.toNat).2,(gtD q x.toNat).1==3):Rn)]∧rnUp q (x+1*2^(gtD q x.toNat).2.toNat).toNat∧x+1*2^(gtD q x.toNat).2.toNat≤(g:Int)∧0≤(gtD q x.toNat).2∧(gtD q x.toNat).2≤10∧(0:Int)<2^(gtD q x.toNat).2.toNat:=by
  have hcn:=h.bm.cn;have hl:=h.tl.len;have hlt:x.toNat<q.length:=by omega
  obtain⟨r1,r2,r3,r4⟩:=h.bm.tg.rng x.toNat hlt;obtain⟨a1,a2,a3,a4⟩:=rn_step h.tl (x:=x.toNat) (by omega) (hf _ (by omega)) r1 hu;have e0:rgE q x=0:=by unfold rgE;rw [if_neg (by omega)]
  have ew:(x+1*2^(gtD q x.toNat).2.toNat).toNat=x.toNat+wdQ q x.toNat:=by
    have:(2:Int)^(gtD q x.toNat).2.toNat=((wdQ q x.toNat:Nat):Int):=by unfold wdQ;rw [Int.natCast_pow];rfl
    rw [this];omega
  have hw:(2:Int)^(gtD q x.toNat).2.toNat=((wdQ q x.toNat:Nat):Int):=by unfold wdQ;rw [Int.natCast_pow];rfl
  have hp:0<wdQ q x.toNat:=Nat.pow_pos (by decide);refine⟨by unfold rgV;rw [if_pos e0],e0,?_,?_,?_,r3,r4,by omega⟩
  · rw [ew,a2];unfold rnE;rw [bpI h0]
  · rw [ew];exact a3
  · omega
theorem Bdy.rnJ (h:Bdy m N g r q Q)(hf:FullG g q){x:Int}(h0:0≤x)(hx:x<(g:Int))(hu:rnUp q x.toNat):rnTo q (x+1*2^(rgV q x).2.toNat).toNat=rnTo q x.toNat++[(((1+x)*4096,(rgV q x).2,(rgV q x).1==3):Rn)]∧rnUp q (x+1*2^(rgV q x).2.toNat).toNat∧x+1*2^(rgV q x).2.toNat≤(g:Int)∧0≤(rgV q x).2∧(rgV q x).2≤10∧(0:Int)<2^(rgV q x).2.toNat:=by
  obtain⟨e,_,h1⟩:=h.rnI hf h0 hx hu;rw [e];exact h1
end
def blen (x:Int):Int:=if x<1 then 0 else if x<2 then 1 else if x<4 then 2 else if x<8 then 3 else if x<16 then 4 else if x<32 then 5 else if x<64 then 6 else if x<128 then 7 else if x<256 then 8 else if x<512 then 9 else 10
def len8:ByteArray:=⟨#[0,1,2,2,3,3,3,3,4,4,4,4,4,4,4,4,5,5,5,5,5,5,5,5,5,5,5,5,5,5,5,5,6,6,6,6,6,6,6,6,6,6,6,6,6,6,6,6,6,6,6,6,6,6,6,6,6,6,6,6,6,6,6,6,7,7,7,7,7,7,7,7,7,7,7,7,7,7,7,7,7,7,7,7,7,7,7,7,7,7,7,7,7,7,7,7,7,7,7,7,7,7,7,7,7,7,7,7,7,7,7,7,7,7,7,7,7,7,7,7,7,7,7,7,7,7,7,7,8,8,8,8,8,8,8,8,8,8,8,8,8,8,8,8,8,8,8,8,8,8,8,8,8,8,8,8,8,8,8,8,8,8,8,8,8,8,8,8,8,8,8,8,8,8,8,8,8,8,8,8,8,8,8,8,8,8,8,8,8,8,8,8,8,8,8,8,8,8,8,8,8,8,8,8,8,8,8,8,8,8,8,8,8,8,8,8,8,8,8,8,8,8,8,8,8,8,8,8,8,8,8,8,8,8,8,8,8,8,8,8,8,8,8,8,8,8,8,8,8,8,8,8,8,8,8,8]⟩
theorem len8_size:len8.size=256:=by kernel_rfl
theorem bat_len8_all:(List.range 256).all (fun y=>bat len8 ((y:Nat):Int)==blen ((y:Nat):Int))=true:=by decide+kernel
theorem bat_len8 {y:Int}(h0:0≤y)(h1:y<256):bat len8 y=blen y:=by
  obtain⟨n,rfl⟩:=Int.eq_ofNat_of_zero_le h0;have:=List.all_eq_true.1 bat_len8_all n (List.mem_range.2 (by omega))
  simpa using this
theorem blen_bd9 (x:Int):0≤blen x∧blen x≤10:=by
  unfold blen
  repeat (first|split|decide)
def hor (x:Int):Int:=((x.toNat|||1024:Nat):Int)
theorem hor_all:∀i,i<128→ior .i64 ((i:Nat):Int) 1024=hor i:=by decide+kernel
theorem horI {x:Int}(h:0≤x∧x<128):ior .i64 x 1024=hor x:=by
  have:=hor_all x.toNat (by omega)
  rwa [show((x.toNat:Nat):Int)=x by omega]at this
theorem hor_rng {x:Int}(h:0≤x∧x<128):0<hor x∧hor x<18446744073709551616:=by
  have:∀i,i<128→0<hor ((i:Nat):Int)∧hor ((i:Nat):Int)<18446744073709551616:=by decide+kernel
  have:=this x.toNat (by omega)
  rwa [show((x.toNat:Nat):Int)=x by omega]at this
def kkI (x y:Int):Int:=imin ((tz (hor x).toNat:Nat):Int) (blen (y-x)-1)
theorem kk_all:((List.range 80).all fun a=>(List.range 80).all fun b=> !decide (a<b)||(decide (0≤kkI (a:Int) (b:Int))&&decide (kkI (a:Int) (b:Int)≤10)&&decide (a%2^(kkI (a:Int) (b:Int)).toNat=0)&&decide (a+2^(kkI (a:Int) (b:Int)).toNat≤b)))=true:=by decide+kernel
theorem kk_facts {x y:Int}(h0:0≤x)(h1:x<y)(h2:y<80):0≤kkI x y∧kkI x y≤10∧x.toNat%2^(kkI x y).toNat=0∧x.toNat+2^(kkI x y).toNat≤y.toNat:=by
  have h:=List.all_eq_true.1 (List.all_eq_true.1 kk_all x.toNat (List.mem_range.2 (by omega))) y.toNat (List.mem_range.2 (by omega));rw [show((x.toNat:Nat):Int)=x by omega,show((y.toNat:Nat):Int)=y by omega]at h
  simp only [Bool.or_eq_true,Bool.and_eq_true,Bool.not_eq_true',decide_eq_true_eq,decide_eq_false_iff_not]at h
  rcases h with h|h
  · omega
  · exact⟨h.1.1.1,h.1.1.2,h.1.2,h.2⟩
def upG (g:Nat)(k:Int):Int:=(((g+2^k.toNat-1)/2^k.toNat*2^k.toNat:Nat):Int)
theorem up_all2:∀g,g<80→∀k,k<11→iandNot .i64 ((((g:Nat):Int)+1*2^k)-1) ((1*2^k)-1)=(((g+2^k-1)/2^k*2^k:Nat):Int):=by decide+kernel
theorem upG_eq {g:Nat}{k:Int}(hg:g<80)(hk:0≤k∧k≤10):iandNot .i64 (((g:Int)+1*(2^Int.toNat k))-1) ((1*(2^Int.toNat k))-1)=upG g k:=up_all2 g hg k.toNat (by omega)
theorem upG_facts (g:Nat)(k:Int):(g:Int)≤upG g k∧upG g k<(g:Int)+1*2^k.toNat∧(upG g k).toNat%2^k.toNat=0∧(0:Int)<2^k.toNat:=by
  have hp:0<2^k.toNat:=Nat.pow_pos (by decide);have e:(2:Int)^k.toNat=((2^k.toNat:Nat):Int):=by rw [Int.natCast_pow];rfl
  unfold upG
  rw [e,Int.toNat_natCast]
  generalize 2^k.toNat=w at*
  have h1:=Nat.div_add_mod (g+w-1) w;have h2:=Nat.mod_lt (g+w-1) hp;have h3:(g+w-1)/w*w=w*((g+w-1)/w):=Nat.mul_comm _ _;refine⟨by omega,by omega,Nat.mul_mod_left _ _,by omega⟩
def gwBad (k:Int):Bool:=decide (k<0)||decide (10<k)
def gwFit (N g:Nat)(k:Int):Bool:= !gwBad k&&decide (upG g k≤(N:Int)-1*2^k.toNat)
def gwE (N g:Nat)(r k:Int):Int:=if gwBad k then 2 else if gwFit N g k=false then 4 else if r=0 then 4 else 0
def gwG (N g:Nat)(r k:Int):Nat:=if gwE N g r k=0 then(upG g k+1*2^k.toNat).toNat else g
def gwR (N g:Nat)(r k:Int):Int:=if gwFit N g k then(if r≤0 then -1 else r-1)else r
theorem gr_1 {N g:Nat}{r k:Int}(h:gwBad k=true):2=gwE N g r k∧gwG N g r k=g∧gwR N g r k=r:=by
  have e:gwE N g r k=2:=by unfold gwE;rw [if_pos h]
  refine⟨e.symm,by unfold gwG;rw [e];rfl,by unfold gwR gwFit;rw [h];rfl⟩
theorem gr_bad {k:Int}(h:gwBad k=false):0≤k∧k≤10:=by unfold gwBad at h;simp at h;omega
theorem gr_2 {N g:Nat}{r k:Int}(h:gwBad k=false)(h2:(N:Int)-1*2^k.toNat<upG g k):4=gwE N g r k∧gwG N g r k=g∧gwR N g r k=r:=by
  have f:gwFit N g k=false:=by unfold gwFit;rw [h,decide_eq_false (by omega)];rfl
  have e:gwE N g r k=4:=by unfold gwE;rw [h,f];rfl
  refine⟨e.symm,by unfold gwG;rw [e];rfl,by unfold gwR;rw [f];rfl⟩
theorem gr_3 {N g:Nat}{r k:Int}(h:gwBad k=false)(h2:upG g k≤(N:Int)-1*2^k.toNat)(hr:r=0):4=gwE N g r k∧gwG N g r k=g∧gwR N g r k= -1:=by
  have f:gwFit N g k=true:=by unfold gwFit;rw [h,decide_eq_true h2];rfl
  have e:gwE N g r k=4:=by unfold gwE;rw [h,f,if_pos hr];rfl
  refine⟨e.symm,by unfold gwG;rw [e];rfl,by unfold gwR;rw [f,if_pos rfl,if_pos (by omega)]⟩
theorem gr_4 {N g:Nat}{r k:Int}(h:gwBad k=false)(h2:upG g k≤(N:Int)-1*2^k.toNat)(hr:r≠0):0=gwE N g r k∧gwG N g r k=(upG g k+1*2^k.toNat).toNat∧gwR N g r k=(if r≤0 then -1 else r-1):=by
  have f:gwFit N g k=true:=by unfold gwFit;rw [h,decide_eq_true h2];rfl
  have e:gwE N g r k=0:=by unfold gwE;rw [h,f,if_neg hr];rfl
  refine⟨e.symm,by unfold gwG;rw [if_pos e],by unfold gwR;rw [f];rfl⟩
section
variable {m:AM}{N g c:Nat}{r:Int}{q:List Tg}{Q:Nat→List Int}
theorem Tl.more (h:Tl N g q){G:Nat}(h1:g≤G)(h2:G≤N):Tl N G q:=⟨h.len,fun p hp=>by obtain⟨a1,a2,a3,a4,a5⟩:=h.st p hp;exact⟨a1,a2,a3,by omega,a5⟩,h.ins,h2⟩
theorem Bdy.zero (h:Bdy m N g r q Q){j:Nat}(hj:g≤j):(gtD q j).1=0:=by
  have hl:=h.tl.len
  rcases Nat.lt_or_ge j N with a|a
  · obtain⟨r1,r2,_⟩:=h.bm.tg.rng j (by omega)
    rcases Int.lt_or_le (gtD q j).1 2 with c|c
    · by_cases e:(gtD q j).1=1
      · obtain⟨s,s1,s2,s3⟩:=h.tl.ins j e
        have:=(h.tl.st s s2).2.2.2.1;omega
      · omega
    · have:=(h.tl.st j c).2.2.2.1
      have:0<wdQ q j:=Nat.pow_pos (by decide);omega
  · rw [gtD_o0 (by omega)]
theorem Bdy.refuse (h:Bdy m N g r q Q){n:Int}(hn:1≤n)(hc:(g:Int)+n≤(N:Int))(he:comE m (1+(g:Int)) n≠0):r=0∧Bdy (comM m (1+(g:Int)) n) N g (-1) q Q∧(comM m (1+(g:Int)) n).mem=m.mem:=by
  have hcap:=h.bm.cap
  have hr:rowE m (1+(g:Int)) n=0:=by
    rw [rowE_ge (by omega)];exact trnE_0 (by omega) (by omega) (by omega)
  have hz:rowC m (1+(g:Int)) n≤0:=by
    rw [rowC_ge (by omega),cntV_yes (wth_of (by omega) (by omega) (by omega))];have:=cntR_none (p:=m.com) (f:=(1+(g:Int)).toNat) (k:=n.toNat) (fun x q1 q2=>by rw [h.bm.com];exact decide_eq_false (by omega));omega
  have ha:m.armed=true∧m.refuse=0:=Decidable.byContradiction fun q=>he (com_e4 hr hz q)
  rw [←com_ref hr hz ha.1 ha.2];have b:=h.bm;refine⟨?_,⟨⟨b.cap,b.nb,b.cn,b.com,b.tg.keep rfl rfl fun y _ _=>rfl,b.lq.same (fun a k hx=>(thr_same rfl rfl a k).trans hx) fun y _=>rfl,b.mp,(ld_mem rfl rfl fun y _ _=>rfl).trans b.gr,(ld_mem rfl rfl fun y _ _=>rfl).trans b.mag,rfl⟩,h.fr,h.tl,h.nf⟩,rfl⟩;rw [←b.rf];unfold rfB;rw [ha.1,ha.2];rfl
theorem Bdy.grow (h:Bdy m N g r q Q){n x:Int}(hn:1≤n)(hc:(g:Int)+n≤(N:Int))(he:comE m (1+(g:Int)) n=0)(hx:x=(g:Int)+n):r≠0∧Bdy (vstM (comM m (1+(g:Int)) n) 0 256 96 8 x) N x.toNat (if r≤0 then -1 else r-1) q Q∧KeepT m (vstM (comM m (1+(g:Int)) n) 0 256 96 8 x) q:=by
  obtain⟨n,rfl⟩:∃k:Nat,n=k:=⟨n.toNat,by omega⟩;subst hx;obtain⟨a1,a2,a3,a4,a5⟩:=h.bm.more (n:=n) (by omega) (by omega) he;have hnb:=h.bm.nb;obtain⟨b1,b2,b3⟩:=a1.num (x:=g+n) (by omega);rw [show((g+n:Nat):Int)=(g:Int)+(n:Int) by omega]at b1 b3;rw [b1,show((g:Int)+(n:Int)).toNat=g+n by omega]
  have hrf:rfB (comM m (1+(g:Int)) (n:Int))=(if r≤0 then -1 else r-1)∧r≠0:=by
    have e:=h.bm.rf
    unfold rfB at e⊢
    rw [a4,a5]
    cases hm:m.armed with
    |false=>rw [hm]at e;simp at e⊢;subst e;decide
    |true=>
      rw [hm]at e a3
      simp only [if_true]at e⊢
      have:m.refuse≠0:=fun z=>a3 ⟨rfl,z⟩
      rw [←e];refine⟨?_,by omega⟩;rw [if_neg (by omega)];omega
  refine⟨hrf.2,⟨hrf.1▸b3,h.fr,h.tl.more (by omega) (by omega),h.nf⟩,fun p t hp y h1 h2=>?_⟩;have ht:2≤(gtD q p).1:=by rw [hp];show(2:Int)≤3;decide
  have:=(h.tl.st p ht).2.2.2.1;have hw:0<wdQ q p:=Nat.pow_pos (by decide);have t9:Go.Proofs.YtojjkjedcafpeaaGreatDoor.K.thr (comM m (1+(g:Int)) (n:Int)) 96 8=true:=a1.thr (by omega) (by omega) (by omega);rw [mem_st rfl t9 (by omega)];exact a2 y (by omega)
theorem fill_0 (h:Bdy m N g r q Q)(hf:FullG g q):∀j,(gtD q j).1=0↔g≤j:=fun j=>⟨fun e=>by
  rcases Nat.lt_or_ge j g with a|a
  · exact absurd e (hf j a)
  · exact a,fun e=>h.zero e⟩
theorem fill_rel {G:Nat}{x k:Int}(hi:∀j,(gtD q j).1=0↔x.toNat≤j)(hk:k≤10)(ha:x.toNat%2^k.toNat=0)(hf:x.toNat+2^k.toNat≤G):RelI q G x.toNat k.toNat q x.toNat k.toNat:=
  RelI.zero (by omega) ha hf fun j h1 _=>(hi j).2 h1
theorem fill_st {x k y:Int}{q2:List Tg}(hi:∀j,(gtD q j).1=0↔x.toNat≤j)(h:RelE q x.toNat k.toNat q2)(h0:0≤x)(hy:y=x+1*2^k.toNat):∀j,(gtD q2 j).1=0↔y.toNat≤j:=fun j=>by
  rw [h.non,hi];have e:(2:Int)^k.toNat=((2^k.toNat:Nat):Int):=by rw [Int.natCast_pow];rfl
  subst hy;rw [e];have:0<2^k.toNat:=Nat.pow_pos (by decide);omega
theorem fill_full {G:Nat}(hi:∀j,(gtD q j).1=0↔G≤j):FullG G q:=fun p hp e=>by have:=(hi p).1 e;omega
end
theorem pw_bd {k:Int}(h:0≤k∧k≤10):(1:Int)≤(1*(2^Int.toNat k))∧(1*(2^Int.toNat k))≤(1024:Int):=by
  have e:(2:Int)^k.toNat=((2^k.toNat:Nat):Int):=by rw [Int.natCast_pow];rfl
  have:=pow_le10 (k:=k.toNat) (by omega);rw [e];omega
theorem fill_fit {x k:Int}(h:0≤x):x.toNat+2^k.toNat≤(x+1*2^k.toNat).toNat:=by
  have e:(2:Int)^k.toNat=((2^k.toNat:Nat):Int):=by rw [Int.natCast_pow];rfl
  rw [e];omega
theorem fill_le {x y k:Int}(h:0≤x)(hy:0≤y)(h2:x.toNat+2^k.toNat≤y.toNat):x+(1*(2^Int.toNat k))≤y:=by
  have e:(2:Int)^k.toNat=((2^k.toNat:Nat):Int):=by rw [Int.natCast_pow];rfl
  rw [e];omega
def Fnd (q:List Tg)(k i kk:Nat):Prop:=k≤kk∧kk≤10∧gtD q i=(2,(kk:Int))∧(∀j:Nat,k≤j→j<kk→∀p,gtD q p≠(2,(j:Int)))∧∀p,p<i→gtD q p≠(2,(kk:Int))
def NoF (q:List Tg)(k:Nat):Prop:=∀j:Nat,k≤j→j≤10→∀p,gtD q p≠(2,(j:Int))
def fdQ (Q:Nat→List Int):Nat→Nat→Int×Int×Bool
  |0,_=>(0,0,false)
  |n+1,k=>if(Q k).getD 0 0=0 then fdQ Q n (k+1)else((Q k).getD 0 0/4096-1,(k:Int),true)
section
variable {m:AM}{N g c:Nat}{r:Int}{q:List Tg}{Q:Nat→List Int}
theorem head_0 (hl:LQ m 0 88 11 Q)(hf:FrQ q Q){k:Nat}(hk:k<11)(h:(Q k).getD 0 0=0):∀p,gtD q p≠(2,(k:Int)):=fun p hp=>by
  have hm:=(hf k hk (bpA p)).2 ⟨p,hp,rfl⟩;have:=hl.mem k hk
  cases hQ:Q k with
  |nil=>rw [hQ]at hm;cases hm
  |cons x L=>
    rw [hQ]at h;have hx:=this x (by rw [hQ];exact List.mem_cons_self);have:x=0:=h;omega
theorem head_1 (hl:LQ m 0 88 11 Q)(hf:FrQ q Q){k:Nat}(hk:k<11)(h:(Q k).getD 0 0≠0):∃i:Nat,(Q k).getD 0 0=bpA i∧gtD q i=(2,(k:Int))∧∀p,p<i→gtD q p≠(2,(k:Int)):=by
  have hr:=hl.rise k hk
  cases hQ:Q k with
  |nil=>rw [hQ]at h;exact absurd rfl h
  |cons x L=>
    obtain⟨i,h1,h2⟩:=(hf k hk x).1 (by rw [hQ];exact List.mem_cons_self);refine⟨i,h2,h1,fun p hp hq=>?_⟩;have hm:=(hf k hk (bpA p)).2 ⟨p,hq,rfl⟩;rw [hQ]at hm hr;have hlt:bpA p<x:=by rw [h2];unfold bpA;omega
    rcases List.mem_cons.1 hm with e|e
    · omega
    · have:=(List.pairwise_cons.1 hr).1 _ e;omega
theorem fd_spec (hl:LQ m 0 88 11 Q)(hf:FrQ q Q):∀(n k:Nat),n+k=11→((fdQ Q n k).2.2=true→∃i kk:Nat,fdQ Q n k=((i:Int),(kk:Int),true)∧Fnd q k i kk)∧((fdQ Q n k).2.2=false→fdQ Q n k=(0,0,false)∧NoF q k)
  |0,k,h=>⟨fun x=>by simp [fdQ]at x,fun _=>⟨rfl,fun j h1 h2=>by omega⟩⟩
  |n+1,k,h=>by
    unfold fdQ
    by_cases e:(Q k).getD 0 0=0
    · rw [if_pos e]
      obtain⟨h1,h2⟩:=fd_spec hl hf n (k+1) (by omega);have h0:=head_0 hl hf (by omega) e;refine⟨fun x=>?_,fun x=>?_⟩
      · obtain⟨i,kk,e1,e2,e3,e4,e5,e6⟩:=h1 x
        exact⟨i,kk,e1,by omega,e3,e4,fun j a b=>by
          by_cases c:j=k
          · subst c;exact h0
          · exact e5 j (by omega) b,e6⟩
      · obtain⟨e1,e2⟩:=h2 x
        exact⟨e1,fun j a b=>by
          by_cases c:j=k
          · subst c;exact h0
          · exact e2 j (by omega) b⟩
    · rw [if_neg e]
      obtain⟨i,e1,e2,e3⟩:=head_1 hl hf (by omega) e;refine⟨fun _=>⟨i,k,?_,Nat.le_refl _,by omega,e2,fun j a b=>by omega,e3⟩,fun x=>by simp at x⟩;rw [e1];have:bpA i/4096-1=(i:Int):=by unfold bpA;omega
      rw [this]
def FrP (q:List Tg)(p:Nat):Prop:=∃s k:Nat,gtD q s=(2,(k:Int))∧s≤p∧p<s+2^k
theorem al_in {a s k j:Nat}(hj:k≤j)(ha:a%2^k=0)(hs:s%2^j=0)(h1:s≤a)(h2:a<s+2^j):a+2^k≤s+2^j:=by
  have hs2:=mod_le hj hs;have e1:=Nat.div_add_mod a (2^k);have e2:=Nat.div_add_mod s (2^k);rw [ha]at e1;rw [hs2]at e2;have e3:=dvd_pow hj;have hp:0<2^k:=Nat.pow_pos (by decide)
  generalize 2^k=w at*
  generalize 2^(j-k)=v at*
  rw [e3]at h2⊢
  generalize a/w=x at*
  generalize s/w=y at*
  rw [←e1,←e2]at h2⊢
  simp only [Nat.add_zero]at*
  have h3:w*x<w*(y+v):=by rw [Nat.mul_add,Nat.mul_comm w v];exact h2
  have h4:x<y+v:=Nat.lt_of_mul_lt_mul_left h3;have h5:w*(x+1)≤w*(y+v):=Nat.mul_le_mul_left w h4;rw [Nat.mul_add,Nat.mul_add,Nat.mul_one,Nat.mul_comm w v]at h5;exact h5
theorem blk (ht:Tl N g q)(hn:NF q):∀(k a:Nat),k≤10→a%2^k=0→(∀p,a≤p→p<a+2^k→FrP q p)→∃s j:Nat,k≤j∧gtD q s=(2,(j:Int))∧s≤a∧a+2^k≤s+2^j
  |0,a,_,_,h=>by
    obtain⟨s,j,h1,h2,h3⟩:=h a (Nat.le_refl _) (by simp);exact⟨s,j,Nat.zero_le _,h1,h2,by simp;omega⟩
  |k+1,a,hk,ha,h=>by
    have hp:2^(k+1)=2^k*2:=Nat.pow_succ 2 k;have h0:0<2^k:=Nat.pow_pos (by decide);have ha1:a%2^k=0:=mod_le (by omega) ha;have ha2:(a+2^k)%2^k=0:=by rw [Nat.add_mod_right];exact ha1
    obtain⟨s1,j1,a1,a2,a3,a4⟩:=blk ht hn k a (by omega) ha1 (fun p x y=>h p x (by omega));obtain⟨s2,j2,b1,b2,b3,b4⟩:=blk ht hn k (a+2^k) (by omega) ha2 (fun p x y=>h p (by omega) (by omega));obtain⟨c1,c2,c3,c4,c5⟩:=ht.two a2;obtain⟨d1,d2,d3,d4,d5⟩:=ht.two b2
    by_cases hj1:k+1≤j1
    · exact⟨s1,j1,hj1,a2,a3,al_in hj1 ha c2 a3 (by omega)⟩
    · have hj:j1=k:=by omega
      subst hj;have e1:s1=a:=by omega
      by_cases hj2:j1+1≤j2
      · have ha9:s2≤a:=by
          rcases Nat.lt_or_ge a s2 with x|x
          · exfalso
            have:=al_in (k:=j1+1) (j:=j1+1) (a:=s2) (s:=a) (Nat.le_refl _) (mod_le hj2 d2) ha (by omega) (by omega);omega
          · exact x
        exact⟨s2,j2,hj2,b2,ha9,by omega⟩
      · have:j2=j1:=by omega
        subst this;have e2:s2=a+2^j2:=by omega
        exact absurd (e2▸b2) (hn a j2 (e1▸a2) (by omega) ha)
def fdK (Q:Nat→List Int)(k:Int):Int×Int×Bool:=fdQ Q (11-k.toNat) k.toNat
theorem fdK_yes {k:Int}(hk:0≤k∧k≤10)(h:((Q k.toNat).getD 0 0:Int)≠0):fdK Q k=((Q k.toNat).getD 0 0/4096-1,k,true):=by
  unfold fdK
  rw [show 11-k.toNat=(10-k.toNat)+1 by omega]
  unfold fdQ
  rw [if_neg h,show((k.toNat:Nat):Int)=k by omega]
theorem fdK_no {k:Int}(hk:0≤k∧k≤10)(h:((Q k.toNat).getD 0 0:Int)=0):fdK Q k=fdK Q (k+1):=by
  unfold fdK
  rw [show 11-k.toNat=(10-k.toNat)+1 by omega,show(k+1).toNat=k.toNat+1 by omega,show 11-(k.toNat+1)=10-k.toNat by omega]
  show fdQ Q ((10-k.toNat)+1) k.toNat=_
  unfold fdQ
  rw [if_pos h]
  cases h:10-k.toNat with
  |zero=>rfl
  |succ n=>rfl
theorem fdK_end {k:Int}(hk:10<k):fdK Q k=(0,0,false):=by
  unfold fdK
  rw [show 11-k.toNat=0 by omega];rfl
def FdP (q:List Tg)(k fi fk:Int)(fo:Bool):Prop:=(fo=true∧∃i kk:Nat,fi=(i:Int)∧fk=(kk:Int)∧Fnd q k.toNat i kk)∨(fo=false∧fi=0∧fk=0∧NoF q k.toNat)
theorem Bdy.fdP (h:Bdy m N g r q Q){k:Int}(hk:0≤k∧k≤10):FdP q k (fdK Q k).1 (fdK Q k).2.1 (fdK Q k).2.2:=by
  obtain⟨h1,h2⟩:=fd_spec h.bm.lq h.fr (11-k.toNat) k.toNat (by omega)
  unfold FdP fdK
  cases e:(fdQ Q (11-k.toNat) k.toNat).2.2 with
  |true=>
    obtain⟨i,kk,e1,e2⟩:=h1 e;exact .inl ⟨rfl,i,kk,by rw [e1],by rw [e1],e2⟩
  |false=>
    obtain⟨e1,e2⟩:=h2 e;exact .inr ⟨rfl,by rw [e1],by rw [e1],e2⟩
theorem Bdy.hdB (h:Bdy m N g r q Q){k:Int}(hk:0≤k∧k≤10):0≤(Q k.toNat).getD 0 0∧(Q k.toNat).getD 0 0≤4611686018427387904:=by
  have:=h.bm.lq.getB (k:=k.toNat) (by omega) 0;exact⟨this.1,this.2.1⟩
end
theorem outT2 {q:List Tg}{Q:Nat→List Int}(hf:FrQ q Q){p:Nat}(hp:(gtD q p).1≠2){y:Nat}(h1:4096*(p+1)≤y)(h2:y<4096*(p+2)):Out Q y:=⟨by omega,fun k hk a ha=>by
  obtain⟨s,e1,rfl⟩:=(hf k hk a).1 ha;have:s≠p:=fun e=>hp (by rw [←e,e1])
  unfold bpA;omega⟩
structure AlI (m:AM)(N g:Nat)(r:Int)(q qa qv:List Tg)(Q:Nat→List Int)(i x:Nat):Prop where
  bm:BdM m N g g r qa Q
  fr:FrQ qv Q
  tl:Tl N g qv
  nf:NF qv
  hole:∀j,i≤j→j<i+2^x→(gtD qv j).1=0
  out:∀j,¬(i≤j∧j<i+2^x)→gtD qa j=gtD qv j
  al:i%2^x=0
  fit:i+2^x≤g
  x10:x≤10
  tk:∀j t,gtD qv j=(3,t)↔gtD q j=(3,t)
  non:∀j,(gtD qv j).1=0↔(gtD q j).1=0∨(i≤j∧j<i+2^x)
  was:∀j,i≤j→j<i+2^x→(gtD q j).1=2∨(gtD q j).1=1
section
variable {m:AM}{N g:Nat}{r:Int}{q qa qv:List Tg}{Q:Nat→List Int}{i x k:Nat}
theorem AlI.zero (h:Bdy m N g r q Q)(ho:gtD q i=(2,(k:Int))):AlI (lsrM m 0 88 (k:Int) (Q k) (bpA i)) N g r q q (rlQ q (i:Int) (k:Int) (0:Nat)) (updQ Q k (delL (Q k) (bpA i))) i k∧KeepT m (lsrM m 0 88 (k:Int) (Q k) (bpA i)) q:=by
  obtain⟨d1,d2,d3,d4,d5,d6⟩:=h.drop ho;obtain⟨a1,a2,a3,a4,a5⟩:=h.tl.two ho
  have hin:∀j,i≤j→j<i+2^k→(gtD q j).1=2∨(gtD q j).1=1:=fun j h1 h2=>by
    by_cases e:j=i
    · subst e;left;rw [ho]
    · right;exact(h.tl.st i a5).2.2.2.2 j (by omega) (by rw [a4];omega)
  have hN:=h.bm.nb;refine⟨⟨h.bm.rem (by omega) _,d1.fr,d1.tl,d1.nf,fun j h1 h2=>by rw [d2,if_pos ⟨h1,h2⟩],fun j hj=>by rw [d2,if_neg hj],d5,d6,d4,fun j t=>?_,fun j=>?_,hin⟩,fun p t hp y h1 h2=>?_⟩
  · rw [d2];split
    · rename_i e
      refine⟨fun y=>by simp at y,fun y=>?_⟩
      rcases hin j e.1 e.2 with z|z<;>(rw [y]at z;simp at z)
    · exact Iff.rfl
  · rw [d2];split
    · rename_i e;exact⟨fun _=>.inr e,fun _=>rfl⟩
    · rename_i e;exact⟨fun y=>.inl y,fun y=>y.elim id fun z=>absurd z e⟩
  · exact h.bm.lq.rem_far (by omega) (outT2 h.fr (by rw [hp];show(3:Int)≠2;decide) h1 h2)
theorem put_pure (hf:FrQ qv Q)(ht:Tl N g qv)(hn:NF qv)(hk:k≤10)(hi:i+2^k≤g)(hm:i%2^k=0)(hz:∀j,i≤j→j<i+2^k→(gtD qv j).1=0)(hb:k=10∨gtD qv (buQ i k)≠(2,(k:Int))):
    FrQ (rlQ qv (i:Int) (k:Int) (2:Nat)) (updQ Q k (addL (Q k) (bpA i)))∧Tl N g (rlQ qv (i:Int) (k:Int) (2:Nat))∧NF (rlQ qv (i:Int) (k:Int) (2:Nat))∧
    (∀j,gtD (rlQ qv (i:Int) (k:Int) (2:Nat)) j=if i≤j∧j<i+2^k then(if j=i then(2,(k:Int))else(1,0))else gtD qv j):=by
  have hp:=pow_le10 hk;obtain⟨d1,d2,d3⟩:=ht.put hk (s:=2) (.inl rfl) hi hm hz;have hi0:=hz i (Nat.le_refl _) (by omega);have d4:gtD (rlQ qv (i:Int) (k:Int) (2:Nat)) i=(2,(k:Int)):=by rw [d3,if_pos ⟨Nat.le_refl _,by omega⟩,if_pos rfl];rfl
  have d5:∀j,j≠i→((gtD (rlQ qv (i:Int) (k:Int) (2:Nat)) j).1=2∨(gtD qv j).1=2)→gtD (rlQ qv (i:Int) (k:Int) (2:Nat)) j=gtD qv j:=fun j hj hq=>by
    rw [d3]at hq⊢
    by_cases e:i≤j∧j<i+2^k
    · rw [if_pos e,if_neg hj]at hq
      have:=hz j e.1 e.2
      rcases hq with hq|hq
      · simp at hq
      · omega
    · rw [if_neg e]
  refine⟨hf.add (by omega) d4 (by rw [hi0];decide) d5,d1,fun p k' h1 h2 h3 h4=>?_,d3⟩
  by_cases hpi:p=i
  · subst hpi
    rw [d4]at h1;have:k'=k:=by have:=congrArg Prod.snd h1;dsimp only at this;omega
    subst this;have hne:p+2^k'≠p:=by omega
    have h5:=d5 _ hne (.inl (by rw [h4]))
    rcases hb with hb|hb
    · omega
    · apply hb;unfold buQ;rw [if_pos h3,←h5];exact h4
  · have h5:=d5 p hpi (.inl (by rw [h1]))
    by_cases hqi:p+2^k'=i
    · rw [hqi,d4]at h4
      have:k'=k:=by have:=congrArg Prod.snd h4;dsimp only at this;omega
      subst this
      rcases hb with hb|hb
      · omega
      · apply hb
        have hp9:2^(k'+1)=2^k'*2:=Nat.pow_succ 2 k'
        have hn:¬i%2^(k'+1)=0:=fun e=>by
          rw [←hqi,Nat.add_mod,h3,Nat.zero_add,Nat.mod_mod,Nat.mod_eq_of_lt (by omega)]at e;omega
        unfold buQ;rw [if_neg hn,←hqi,Nat.add_sub_cancel,←h5];exact h1
    · have h6:=d5 _ hqi (.inl (by rw [h4]))
      exact hn p k' (h5.symm.trans h1) h2 h3 (h6.symm.trans h4)
theorem AlI.step (h:AlI m N g r q qa qv Q i (x+1)):AlI (lsaM (tgLM m 257 (N:Int) ((i+2^x:Nat):Int) (x:Int) (2:Nat)) 0 88 (x:Int) (Q x) (bpA (i+2^x))) N g r q (rlQ qa ((i+2^x:Nat):Int) (x:Int) (2:Nat)) (rlQ qv ((i+2^x:Nat):Int) (x:Int) (2:Nat)) (updQ Q x (addL (Q x) (bpA (i+2^x)))) i x∧
    KeepT m (lsaM (tgLM m 257 (N:Int) ((i+2^x:Nat):Int) (x:Int) (2:Nat)) 0 88 (x:Int) (Q x) (bpA (i+2^x))) qv:=by
  have hx:=h.x10;have hp:2^(x+1)=2^x*2:=Nat.pow_succ 2 x;have h0:0<2^x:=Nat.pow_pos (by decide);have hfit:=h.fit;have hal:=h.al;have hN:=h.bm.nb;have hcn:=h.bm.cn;have hm2:(i+2^x)%2^x=0:=by rw [Nat.add_mod_right];exact mod_le (by omega) hal
  have hbu:buQ (i+2^x) x=i:=by
    unfold buQ
    rw [if_neg,Nat.add_sub_cancel];rw [Nat.add_mod,hal,Nat.zero_add,Nat.mod_mod,Nat.mod_eq_of_lt (by omega)];omega
  have hz:∀j,i+2^x≤j→j<i+2^x+2^x→(gtD qv j).1=0:=fun j h1 h2=>h.hole j (by omega) (by omega)
  obtain⟨p1,p2,p3,p4⟩:=put_pure h.fr h.tl h.nf (by omega) (by omega) hm2 hz (.inr (by rw [hbu];intro e;have:=h.hole i (Nat.le_refl _) (by omega);rw [e]at this;simp at this));have hl:=h.bm.tg.len;obtain⟨q1,q2,q3⟩:=lay_q (q:=qa) (N:=N) (s:=2) (i:=i+2^x) (k:=x) (by omega) (by omega) (by decide) (by omega);have b1:=(h.bm.lay (i:=((i+2^x:Nat):Int)) (a:=(x:Int)) (s:=(2:Nat)) (by decide)).2
  have hno:∀k',k'<11→¬bpA (i+2^x)∈Q k':=fun k' hk' ha=>by
    obtain⟨s,e1,e2⟩:=(h.fr k' hk' _).1 ha;have:=bpA_inj e2;subst this;have:=hz (i+2^x) (Nat.le_refl _) (by omega);rw [e1]at this;simp at this
  have b2:=(b1.add (k:=x) (p:=i+2^x) (by omega) (by omega) (fun k' hk' ha=>absurd ha (hno k' hk'))).2;refine⟨⟨b2,p1,p2,p3,fun j h1 h2=>by rw [p4,if_neg (by omega)];exact h.hole j (by omega) (by omega),fun j hj=>?_,mod_le (by omega) hal,by omega,by omega,fun j t=>?_,fun j=>?_,fun j h1 h2=>h.was j h1 (by omega)⟩,fun p t hp3 y h1 h2=>?_⟩
  · rw [q3,p4]
    by_cases e:i+2^x≤j∧j<i+2^x+2^x
    · rw [if_pos e,if_pos e]
      by_cases e2:j=i+2^x
      · rw [if_pos e2,if_pos e2];rfl
      · rw [if_neg e2,if_neg e2];rfl
    · rw [if_neg e,if_neg e];exact h.out j (by omega)
  · rw [p4]
    by_cases e:i+2^x≤j∧j<i+2^x+2^x
    · rw [if_pos e]
      have hw:=h.was j (by omega) (by omega);refine⟨fun y=>?_,fun y=>?_⟩
      · split at y<;>simp at y
      · rcases hw with z|z<;>(rw [y]at z;simp at z)
    · rw [if_neg e];exact h.tk j t
  · rw [p4]
    by_cases e:i+2^x≤j∧j<i+2^x+2^x
    · rw [if_pos e]
      have hw:=h.was j (by omega) (by omega);refine⟨fun y=>?_,fun y=>?_⟩
      · split at y<;>simp at y
      · rcases y with y|y
        · omega
        · omega
    · rw [if_neg e,h.non j]
      refine⟨fun y=>y.imp id fun z=>by omega,fun y=>y.imp id fun z=>by omega⟩
  · have hpi:¬(i≤p∧p<i+2^(x+1)):=fun e=>by have:=h.hole p e.1 e.2;rw [hp3]at this;simp at this
    rw [b1.lq.add_far (by omega) ⟨by unfold bpA;omega,b1.thr (by unfold bpA;omega) (by omega) (by unfold bpA;omega),by unfold bpA;omega⟩ (outT2 h.fr (by rw [hp3];show(3:Int)≠2;decide) h1 h2) (by unfold bpA;omega)];exact tgLM_far (by omega) (by omega)
structure TkP (q:List Tg)(i k:Nat)(q2:List Tg):Prop where
  tk:∀(j:Nat) (t:Int),gtD q2 j=(3,t)↔gtD q j=(3,t)∨(j=i∧t=(k:Int))
  non:∀j,(gtD q2 j).1=0↔(gtD q j).1=0
  new:∀t,gtD q i≠(3,t)
theorem AlI.fin (h:AlI m N g r q qa qv Q i x):Bdy (tgLM m 257 (N:Int) (i:Int) (x:Int) (3:Nat)) N g r (rlQ qa (i:Int) (x:Int) (3:Nat)) Q∧TkP q i x (rlQ qa (i:Int) (x:Int) (3:Nat))∧KeepT m (tgLM m 257 (N:Int) (i:Int) (x:Int) (3:Nat)) q:=by
  have hx:=h.x10;have hfit:=h.fit;have h0:0<2^x:=Nat.pow_pos (by decide);have hl:=h.bm.tg.len;have hcn:=h.bm.cn;have hN:=h.bm.nb;obtain⟨d1,d2,d3⟩:=h.tl.put (s:=3) hx (.inr rfl) hfit h.al h.hole;obtain⟨q1,q2,q3⟩:=lay_q (q:=qa) (N:=N) (s:=3) (i:=i) (k:=x) (by omega) hx (by decide) (by omega)
  have e:rlQ qa (i:Int) (x:Int) (3:Nat)=rlQ qv (i:Int) (x:Int) (3:Nat):=list_gtD (by rw [q2,d1.len]) fun j _=>by
    rw [q3,d3]
    split
    · split
      · rfl
      · rfl
    · rename_i e;exact h.out j e
  have b1:=(h.bm.lay (i:=(i:Int)) (a:=(x:Int)) (s:=(3:Nat)) (by decide)).2;rw [e]at b1⊢
  have hne:∀j,(gtD (rlQ qv (i:Int) (x:Int) (3:Nat)) j).1=2→gtD (rlQ qv (i:Int) (x:Int) (3:Nat)) j=gtD qv j:=fun j hj=>by
    rw [d3]at hj⊢
    split at hj
    · split at hj<;>simp at hj
    · rename_i e;rw [if_neg e]
  refine⟨⟨b1,fun k' hk' a=>?_,d1,h.nf.sub hne⟩,⟨fun j t=>?_,fun j=>?_,fun t y=>?_⟩,fun p t _ y h1 h2=>tgLM_far (by omega) (by omega)⟩
  · rw [h.fr k' hk' a]
    refine⟨fun⟨p,h1,h2⟩=>⟨p,?_,h2⟩,fun⟨p,h1,h2⟩=>⟨p,by rw [←hne p (by rw [h1])];exact h1,h2⟩⟩;rw [d3,if_neg]
    · exact h1
    · rintro⟨x1,x2⟩
      have:=h.hole p x1 x2;rw [h1]at this;simp at this
  · rw [d3]
    by_cases e:i≤j∧j<i+2^x
    · rw [if_pos e]
      have hw:=h.was j e.1 e.2
      by_cases e2:j=i
      · rw [if_pos e2]
        refine⟨fun y=>.inr ⟨e2,by have:=congrArg Prod.snd y;exact this.symm⟩,fun y=>?_⟩
        rcases y with y|⟨_,y⟩
        · rcases hw with z|z<;>(rw [y]at z;simp at z)
        · rw [y];rfl
      · rw [if_neg e2]
        refine⟨fun y=>by simp at y,fun y=>?_⟩
        rcases y with y|⟨y,_⟩
        · rcases hw with z|z<;>(rw [y]at z;simp at z)
        · exact absurd y e2
    · rw [if_neg e,h.tk j t]
      exact⟨fun y=>.inl y,fun y=>y.elim id fun z=>absurd ⟨by omega,by omega⟩ e⟩
  · rw [d3]
    by_cases e:i≤j∧j<i+2^x
    · rw [if_pos e]
      have hw:=h.was j e.1 e.2;refine⟨fun y=>?_,fun y=>by omega⟩
      split at y<;>simp at y
    · rw [if_neg e,h.non j]
      exact⟨fun y=>y.elim id fun z=>absurd z e,fun y=>.inl y⟩
  · have hw:=h.was i (Nat.le_refl _) (by omega)
    rcases hw with z|z<;>(rw [y]at z;simp at z)
end
def BaseP (N g:Nat)(r:Int)(q:List Tg)(k:Int)(gb:Nat)(rb:Int)(qb:List Tg):Prop:=
  (gb=g∧rb=r∧qb=q)∨(NoF q k.toNat∧gwE N g r k=0∧gb=gwG N g r k∧rb=gwR N g r k∧(∀(j:Nat) (t:Int),gtD qb j=(3,t)↔gtD q j=(3,t)))
theorem BaseP.tk {N g:Nat}{r:Int}{q:List Tg}{k:Int}{gb:Nat}{rb:Int}{qb:List Tg}(h:BaseP N g r q k gb rb qb)(j:Nat)(t:Int):gtD qb j=(3,t)↔gtD q j=(3,t):=by
  rcases h with⟨_,_,rfl⟩|h
  · exact Iff.rfl
  · exact h.2.2.2.2 j t
def AlP (N g:Nat)(r:Int)(q:List Tg)(k a e:Int)(g2:Nat)(r2:Int)(q2:List Tg):Prop:=
  (gwBad k=true∧e=2∧a=0∧g2=g∧r2=r∧q2=q)∨
  (gwBad k=false∧NoF q k.toNat∧gwE N g r k≠0∧e=gwE N g r k∧a=0∧g2=gwG N g r k∧r2=gwR N g r k∧q2=q)∨
  (gwBad k=false∧e=0∧∃(gb:Nat) (rb:Int) (qb:List Tg) (i kk:Nat),BaseP N g r q k gb rb qb∧Tl N gb qb∧NF qb∧FullG gb qb∧Fnd qb k.toNat i kk∧a=bpA i∧g2=gb∧r2=rb∧TkP qb i k.toNat q2∧∀p,0≤(gtD qb p).1∧(gtD qb p).1≤3)
section
variable {m mo:AM}{N g G:Nat}{r r2:Int}{q qa qv q2:List Tg}{Q Q2:Nat→List Int}{i x kk:Nat}
theorem FullG.of (hf:FullG g q){i k:Nat}(h:TkP q i k q2):FullG g q2:=fun p hp e=>hf p hp ((h.non p).1 e)
theorem grown_some (h:Bdy m N g r q Q)(h2:Bdy mo N G r2 q2 Q2)(hf:FullG G q2)(ht:∀(j:Nat) (t:Int),gtD q2 j=(3,t)↔gtD q j=(3,t)){a k:Nat}(ha:g≤a)(hm:a%2^k=0)(hG:a+2^k≤G)(hk:k≤10):¬NoF q2 k:=fun hno=>by
  have hl:=h2.tl.len
  have hfr:∀p,a≤p→p<a+2^k→FrP q2 p:=fun p p1 p2=>by
    have hp0:=hf p (by omega);have hpN:=h2.tl.lt hp0;obtain⟨r1,r2,r3,r4⟩:=h2.bm.tg.rng p (by omega)
    have key:∀s,s≤p→2≤(gtD q2 s).1→p<s+wdQ q2 s→FrP q2 p:=fun s s1 s2 s3=>by
      have hsN:=h2.tl.lt (p:=s) (by omega);obtain⟨t1,t2,t3,t4⟩:=h2.bm.tg.rng s (by omega)
      by_cases e:(gtD q2 s).1=2
      · exact⟨s,(gtD q2 s).2.toNat,Prod.ext e (by omega),s1,s3⟩
      · exfalso
        have e3:gtD q2 s=(3,(gtD q2 s).2):=Prod.ext (by show(gtD q2 s).1=3;omega) rfl;have e4:=(ht s _).1 e3;have e5:=(h.tl.st s (by rw [e4];show(2:Int)≤3;decide)).2.2.2.1;have e6:wdQ q s=wdQ q2 s:=by unfold wdQ;rw [e4]
        omega
    by_cases e:2≤(gtD q2 p).1
    · exact key p (Nat.le_refl _) e (by have:0<wdQ q2 p:=Nat.pow_pos (by decide);omega)
    · obtain⟨s,s1,s2,s3⟩:=h2.tl.ins p (by omega)
      exact key s (by omega) s2 s3
  obtain⟨s,j,j1,j2,j3,j4⟩:=blk h2.tl h2.nf k a hk hm hfr;have:=(h2.tl.two j2).1;exact hno j j1 this s j2
theorem FdP.yes {k fi fk:Int}{fo:Bool}(h:FdP q k fi fk fo)(ho:fo=true):∃i kk:Nat,fi=(i:Int)∧fk=(kk:Int)∧Fnd q k.toNat i kk:=by
  rcases h with h|h
  · exact h.2
  · rw [ho]at h;simp at h
theorem FdP.no {k fi fk:Int}{fo:Bool}(h:FdP q k fi fk fo)(ho:fo=false):NoF q k.toNat:=by
  rcases h with h|h
  · rw [ho]at h;simp at h
  · exact h.2.2.2
theorem FdP.must {k fi fk:Int}{fo:Bool}(h:FdP q k fi fk fo)(hn:¬NoF q k.toNat):∃i kk:Nat,fi=(i:Int)∧fk=(kk:Int)∧Fnd q k.toNat i kk:=by
  rcases h with h|h
  · exact h.2
  · exact absurd h.2.2.2 hn
theorem grown_must (h:Bdy m N g r q Q){k:Int}(hk:gwBad k=false)(he:gwE N g r k=0)(h2:Bdy mo N (gwG N g r k) r2 q2 Q2)(hf:FullG (gwG N g r k) q2)(ht:∀(j:Nat) (t:Int),gtD q2 j=(3,t)↔gtD q j=(3,t)):¬NoF q2 k.toNat:=by
  have hb:=gr_bad hk;obtain⟨u1,u2,u3,u4⟩:=upG_facts g k;have e:gwG N g r k=(upG g k+1*2^k.toNat).toNat:=by unfold gwG;rw [if_pos he]
  refine grown_some h h2 hf ht (a:=(upG g k).toNat) (by omega) u3 ?_ (by omega);rw [e];exact fill_fit (by omega)
theorem Bdy.rgT (h:Bdy m N g r q Q)(p:Nat):0≤(gtD q p).1∧(gtD q p).1≤3:=by
  rcases Nat.lt_or_ge p q.length with c|c
  · obtain⟨r1,r2,_,_⟩:=h.bm.tg.rng p c;exact⟨r1,r2⟩
  · rw [gtD_o0 c];exact⟨by decide,by decide⟩
theorem Bdy.fnd (h:Bdy m N g r q Q){k i kk:Nat}(hf:Fnd q k i kk):i<79∧kk≤10∧k≤kk:=by
  obtain⟨a1,a2,a3,a4,a5⟩:=h.tl.two hf.2.2.1;have:=h.bm.nb;have:=h.bm.cn;have:0<2^kk:=Nat.pow_pos (by decide);exact⟨by omega,a1,hf.1⟩
theorem AlI.zeroI (h:Bdy m N g r q Q){a:Int}(ho:gtD q i=(2,(kk:Int)))(ha:a=bpA i):AlI (lsrM m 0 88 (kk:Int) (Q (Int.toNat (kk:Int))) a) N g r q q (rlQ q (i:Int) (kk:Int) (0:Nat)) (updQ Q kk (delL (Q kk) a)) i (Int.toNat (kk:Int))∧KeepT m (lsrM m 0 88 (kk:Int) (Q (Int.toNat (kk:Int))) a) q:=by
  subst ha;rw [Int.toNat_natCast];exact AlI.zero h ho
theorem pwI {x:Int} :(1*2^x.toNat:Int)=((2^x.toNat:Nat):Int):=by rw [Int.one_mul,Int.natCast_pow];rfl
theorem AlI.bds {x:Int}(h:AlI m N g r q qa qv Q i x.toNat)(hx:1≤x):0≤(i:Int)+(1*(2^Int.toNat (x-1)))∧(i:Int)+(1*(2^Int.toNat (x-1)))≤79∧(1:Int)≤(1*(2^Int.toNat (x-1)))∧(1*(2^Int.toNat (x-1)))≤(79:Int)∧x≤10:=by
  rw [pwI];have h1:=h.fit;have h2:=h.x10;rw [show x.toNat=(x-1).toNat+1 by omega,Nat.pow_succ]at h1;have:0<2^(x-1).toNat:=Nat.pow_pos (by decide);have:=h.bm.nb;have:=h.bm.cn;omega
theorem AlI.stepI {x y a:Int}(h:AlI m N g r q qa qv Q i x.toNat)(hx:1≤x)(hy:y=(i:Int)+(1*(2^Int.toNat (x-1))))(ha:a=(1+y)*4096):
    AlI (lsaM (tgLM m 257 (N:Int) y (x-1) 2) 0 88 (x-1) (Q (Int.toNat (x-1))) a) N g r q (rlQ qa y (x-1) 2) (rlQ qv y (x-1) 2) (updQ Q (Int.toNat (x-1)) (addL (Q (Int.toNat (x-1))) a)) i (Int.toNat (x-1))∧
    KeepT m (lsaM (tgLM m 257 (N:Int) y (x-1) 2) 0 88 (x-1) (Q (Int.toNat (x-1))) a) qv:=by
  obtain⟨n,hn⟩:∃n:Nat,x=(n:Int)+1:=⟨(x-1).toNat,by omega⟩;subst hn;rw [pwI]at hy;rw [show((n:Int)+1-1)=(n:Int) by omega]at*;rw [Int.toNat_natCast]at*;rw [show((n:Int)+1).toNat=n+1 by omega]at h;have ey:y=((i+2^n:Nat):Int):=by rw [hy];omega
  have ea:a=bpA (i+2^n):=by rw [ha,ey];unfold bpA;omega
  subst ey;subst ea;exact h.step
theorem AlI.finI {k:Int}(h:AlI m N g r q qa qv Q i k.toNat)(hk:0≤k):Bdy (tgLM m 257 (N:Int) (i:Int) k 3) N g r (rlQ qa (i:Int) k 3) Q∧TkP q i k.toNat (rlQ qa (i:Int) k 3)∧KeepT m (tgLM m 257 (N:Int) (i:Int) k 3) q:=by
  have:=h.fin;rw [show((k.toNat:Nat):Int)=k by omega]at this;exact this
def AlM (N g:Nat)(r:Int)(q:List Tg)(k:Int)(m mv:AM)(x y:Int):Prop:=∃(gb:Nat) (rb:Int) (qb:List Tg) (Qb:Nat→List Int) (i9 kk9:Nat),x=((i9:Nat):Int)∧y=((kk9:Nat):Int)∧Bdy mv N gb rb qb Qb∧FullG gb qb∧Fnd qb k.toNat i9 kk9∧BaseP N g r q k gb rb qb∧KeepT m mv q
theorem AlM.yes (h:Bdy m N g r q Q)(hf:FullG g q){k x y:Int}{fo:Bool}(hd:FdP q k x y fo)(ho:fo=true):AlM N g r q k m m x y:=by
  obtain⟨i9,kk9,e6,e7,hF⟩:=hd.yes ho;exact⟨g,r,q,Q,i9,kk9,e6,e7,h,hf,hF,.inl ⟨rfl,rfl,rfl⟩,KeepT.refl _ _⟩
theorem AlM.grown (h:Bdy m N g r q Q){k x y:Int}{fo:Bool}(hk:gwBad k=false)(he:gwE N g r k=0)(hn:NoF q k.toNat)(h2:Bdy mo N (gwG N g r k) (gwR N g r k) q2 Q2)(hf:FullG (gwG N g r k) q2)(ht:∀(j:Nat) (t:Int),gtD q2 j=(3,t)↔gtD q j=(3,t))(hK:KeepT m mo q)(hd:FdP q2 k x y fo):AlM N g r q k m mo x y:=by
  obtain⟨i9,kk9,e6,e7,hF⟩:=hd.must (grown_must h hk he h2 hf ht);exact⟨_,_,q2,Q2,i9,kk9,e6,e7,h2,hf,hF,.inr ⟨hn,he,rfl,rfl,ht⟩,hK⟩
end
theorem bnot_t {b:Bool}(h:(!b)=true):b=false:=by simpa using h
theorem bnot_f {b:Bool}(h:(!b)=false):b=true:=by simpa using h
theorem rrAt_run {q:List Tg}{s:Nat}(hs:(gtD q s).1≠1):∀(n:Nat),(∀j,s<j→j≤s+n→(gtD q j).1=1)→rrAt q (s+n)=((s:Nat):Int)
  |0,_=>by
    cases s with
    |zero=>unfold rrAt;rw [if_neg hs];rfl
    |succ s=>unfold rrAt;rw [if_neg hs]
  |n+1,h=>by
    rw [←Nat.add_assoc]
    unfold rrAt
    rw [if_pos (h (s+n+1) (by omega) (by omega))];exact rrAt_run hs n (fun j h1 h2=>h j h1 (by omega))
section
variable {m:AM}{N g:Nat}{r:Int}{q:List Tg}{Q:Nat→List Int}
theorem run_at (h:Tl N g q){p s:Nat}(hs:2≤(gtD q s).1)(h1:s≤p)(h2:p<s+wdQ q s):rrE q (p:Int)=0∧rrV q (p:Int)=((s:Nat):Int)∧rrT q (p:Int)=gtD q s:=by
  obtain⟨a1,a2,a3,a4,a5⟩:=h.st s hs;have hgn:=h.gn;have hl:=h.len
  have e:rrI q (p:Int)=((s:Nat):Int):=by
    unfold rrI
    rw [if_neg (by omega),Int.toNat_natCast,show p=s+(p-s) by omega];exact rrAt_run (by omega) _ fun j x1 x2=>a5 j x1 (by omega)
  have e2:rgE q (p:Int)=0:=by unfold rgE;rw [if_neg (by omega)]
  have hw:pgsN (gtD q s).2=((wdQ q s:Nat):Int):=rfl
  have e3:rrBad q (p:Int)=false:=by
    unfold rrBad
    rw [e,Int.toNat_natCast,decide_eq_false (by omega),decide_eq_true hs,hw,decide_eq_true (by omega)];rfl
  have e4:rrE q (p:Int)=0:=by unfold rrE;rw [if_pos e2,e3];rfl
  refine⟨e4,by unfold rrV;rw [if_pos e4,e],?_⟩
  unfold rrT;rw [if_pos e4,e,Int.toNat_natCast]
theorem Bdy.last (h:Bdy m N g r q Q)(hf:FullG g q)(hg:0<g):∃s:Nat,2≤(gtD q s).1∧s+wdQ q s=g∧s<g∧0≤(gtD q s).1∧(gtD q s).1≤3∧0≤(gtD q s).2∧(gtD q s).2≤10:=by
  have hcn:=h.bm.cn;have hl:=h.tl.len;have h0:=hf (g-1) (by omega);obtain⟨r1,r2,r3,r4⟩:=h.bm.tg.rng (g-1) (by omega)
  have key:∃s:Nat,2≤(gtD q s).1∧s≤g-1∧g-1<s+wdQ q s:=by
    by_cases e:2≤(gtD q (g-1)).1
    · exact⟨g-1,e,Nat.le_refl _,by have:0<wdQ q (g-1):=Nat.pow_pos (by decide);omega⟩
    · obtain⟨s,s1,s2,s3⟩:=h.tl.ins (g-1) (by omega)
      exact⟨s,s2,by omega,s3⟩
  obtain⟨s,s1,s2,s3⟩:=key;have h4:=(h.tl.st s s1).2.2.2.1;obtain⟨t1,t2,t3,t4⟩:=h.bm.tg.rng s (by omega);exact⟨s,s1,by omega,by omega,t1,t2,t3,t4⟩
theorem Bdy.lastR (h:Bdy m N g r q Q)(hf:FullG g q){i:Int}(hg:0≤i)(hi:i=(g:Int)-1):∃s:Nat,rrE q i=0∧rrV q i=((s:Nat):Int)∧rrT q i=gtD q s∧2≤(gtD q s).1∧s+wdQ q s=g∧s<g∧0≤(gtD q s).1∧(gtD q s).1≤3∧0≤(gtD q s).2∧(gtD q s).2≤10:=by
  obtain⟨s,h1,h2,h3,h4⟩:=h.last hf (by omega);obtain⟨e1,e2,e3⟩:=run_at h.tl (p:=g-1) h1 (by omega) (by omega);rw [show((g-1:Nat):Int)=i by omega]at e1 e2 e3;exact⟨s,e1,e2,e3,h1,h2,h3,h4⟩
theorem Bdy.shrink (h:Bdy m N g r q Q)(hf:FullG g q){s:Nat}{a:Int}(h2:(gtD q s).1=2)(hw:s+wdQ q s=g)(hk0:0≤(gtD q s).2)(ha:a=(1+(s:Int))*4096):
    Bdy (vstM (decM (tgLM (lsrM m 0 88 (gtD q s).2 (Q (Int.toNat (gtD q s).2)) a) 257 (N:Int) (s:Int) (gtD q s).2 0) (1+(s:Int)) (1*(2^Int.toNat (gtD q s).2))) 0 256 96 8 (s:Int)) N s r (rlQ q (s:Int) (gtD q s).2 0) (updQ Q (Int.toNat (gtD q s).2) (delL (Q (Int.toNat (gtD q s).2)) a))∧
    FullG s (rlQ q (s:Int) (gtD q s).2 0)∧(∀(j:Nat) (t:Int),gtD (rlQ q (s:Int) (gtD q s).2 0) j=(3,t)↔gtD q j=(3,t))∧
    KeepT m (vstM (decM (tgLM (lsrM m 0 88 (gtD q s).2 (Q (Int.toNat (gtD q s).2)) a) 257 (N:Int) (s:Int) (gtD q s).2 0) (1+(s:Int)) (1*(2^Int.toNat (gtD q s).2))) 0 256 96 8 (s:Int)) q:=by
  have h3:2≤(gtD q s).1:=by omega
  unfold wdQ at hw
  obtain⟨a1,a2,a3,a4,a5⟩:=h.tl.st s h3
  unfold wdQ at a3 a4 a5
  have ek:gtD q s=(2,(gtD q s).2):=Prod.ext h2 rfl;obtain⟨d1,d2,d3,d4⟩:=h.dropI (o:=(s:Int)) (k:=(gtD q s).2) (a:=a) (by omega) hk0 (by rw [Int.toNat_natCast];exact ek) (by rw [Int.toNat_natCast,ha];unfold bpA;omega);rw [Int.toNat_natCast]at d2
  generalize hkk:(gtD q s).2=k at*
  generalize hm2:tgLM (lsrM m 0 88 k (Q k.toNat) a) 257 (N:Int) (s:Int) k 0=m2 at*
  generalize hq':rlQ q (s:Int) k 0=q' at*
  have hp:0<2^k.toNat:=Nat.pow_pos (by decide);have hin:∀j,s≤j→j<g→(gtD q' j).1=0:=fun j x1 x2=>by rw [d2,if_pos ⟨x1,by omega⟩]
  have hz:∀j,s≤j→(gtD q' j).1=0:=fun j x1=>by
    rcases Nat.lt_or_ge j g with x|x
    · exact hin j x1 x
    · exact d1.zero x
  have hmem:∀k',k'<11→∀b,b∈(updQ Q k.toNat (delL (Q k.toNat) a)) k'→∃p:Nat,p<s∧b=bpA p:=fun k' hk' b hb=>by
    obtain⟨p,e1,e2⟩:=(d1.fr k' hk' b).1 hb;refine⟨p,?_,e2⟩
    rcases Nat.lt_or_ge p s with x|x
    · exact x
    · have:=hz p x;rw [e1]at this;simp at this
  have hN:=h.bm.nb;have hcn:=h.bm.cn;obtain⟨l1,l2⟩:=d1.bm.less (i:=s) (n:=2^k.toNat) (by omega) hw hmem;rw [pwI];obtain⟨n1,n2,n3⟩:=l1.num (x:=s) (by omega);rw [n1]
  have tlS:Tl N s q':=⟨d1.tl.len,fun p hp2=>by
    obtain⟨b1,b2,b3,b4,b5⟩:=d1.tl.st p hp2;refine⟨b1,b2,b3,?_,b5⟩
    have hps:p<s:=by
      rcases Nat.lt_or_ge p s with x|x
      · exact x
      · have:=hz p x;omega
    rcases Nat.lt_or_ge s (p+wdQ q' p)with x|x
    · exfalso
      have:=b5 s hps x;have:=hz s (Nat.le_refl _);omega
    · exact x,d1.tl.ins,by omega⟩
  have htk:∀(j:Nat) (t:Int),gtD q' j=(3,t)↔gtD q j=(3,t):=fun j t=>by
    rw [d2]
    split
    · rename_i e
      refine⟨fun x=>by simp at x,fun x=>?_⟩
      by_cases ej:j=s
      · subst ej;rw [x]at h2;simp at h2
      · have:=a5 j (by omega) (by omega);rw [x]at this;simp at this
    · exact Iff.rfl
  refine⟨⟨n3,d1.fr,tlS,d1.nf⟩,fun p hp2=>?_,htk,fun p t hp3 y y1 y2=>?_⟩
  · rw [d2,if_neg (by omega)]
    exact hf p (by omega)
  · have t9:Go.Proofs.YtojjkjedcafpeaaGreatDoor.K.thr (decM m2 (1+(s:Int)) ((2^k.toNat:Nat):Int)) 96 8=true:=l1.thr (by omega) (by omega) (by omega)
    rw [mem_st rfl t9 (by omega),l2];exact d3 p t hp3 y y1 y2
def ShP (q:List Tg)(g g2:Nat)(q2:List Tg):Prop:=g2≤g∧(∀(j:Nat) (t:Int),gtD q2 j=(3,t)↔gtD q j=(3,t))∧(g2=0∨∃s:Nat,(gtD q2 s).1=3∧s+wdQ q2 s=g2)
end
structure FreshA (m:AM)(N:Nat)(r:Int):Prop where
  cap:m.cap=N+1
  com:∀i,m.com i=false
  mem:∀y,m.mem y=0
  rf:rfB m=r
theorem fresh_new {c:Int}{N:Nat}(h:c=(N:Int)+1)(hN:N≤1000):FreshA (AM.new c) N (-1):=
  ⟨by show capN c=_;unfold capN imax imin;subst h;split<;>split<;>omega,fun _=>rfl,fun _=>rfl,rfl⟩
section
variable {m:AM}{N:Nat}{r:Int}
theorem FreshA.row (h:FreshA m N r):rowE m 0 1=0∧rowC m 0 1≤0:=by
  have hcap:=h.cap;refine⟨?_,?_⟩
  · rw [rowE_ge (by omega)];exact trnE_0 (by omega) (by omega) (by omega)
  · rw [rowC_ge (by omega),cntV_yes (wth_of (by omega) (by omega) (by omega))]
    have:=cntR_none (p:=m.com) (f:=(0:Int).toNat) (k:=(1:Int).toNat) (fun x _ _=>h.com x);omega
theorem FreshA.comE (h:FreshA m N r):comE m 0 1=if r=0 then 4 else 0:=by
  obtain⟨h1,h2⟩:=h.row;have e:=h.rf
  unfold rfB at e
  cases hm:m.armed with
  |false=>rw [hm]at e;simp at e;rw [if_neg (by omega)];exact com_e4 h1 h2 (fun x=>by rw [hm]at x;simp at x)
  |true=>
    rw [hm]at e
    simp only [if_true]at e
    by_cases hr:m.refuse=0
    · rw [if_pos (by omega)];exact com_e3 h1 h2 hm hr
    · rw [if_neg (by omega)];exact com_e4 h1 h2 (fun x=>hr x.2)
theorem FreshA.made (h:FreshA m N r)(hN:1≤N∧N≤79)(hr:r≠0):(comM m 0 1).cap=N+1∧(∀i,(comM m 0 1).com i=decide (i<0+1))∧(∀y,(comM m 0 1).mem y=0)∧rfB (comM m 0 1)=(if r≤0 then -1 else r-1):=by
  obtain⟨h1,h2⟩:=h.row;have e:=h.rf;have hz:=comM_zero h.mem 0 1;have ha:¬(m.armed=true∧m.refuse=0):=fun x=>by unfold rfB at e;rw [x.1,x.2]at e;simp at e;exact hr e.symm
  refine⟨?_,fun i=>?_,hz,?_⟩
  · rw [←com_yes h1 h2 ha];exact h.cap
  · rw [←com_yes h1 h2 ha]
    show setR m.com (0:Int).toNat (1:Int).toNat true i=_
    unfold setR
    rw [h.com i]
    split
    · exact(decide_eq_true (by omega)).symm
    · exact(decide_eq_false (by omega)).symm
  · rw [←com_yes h1 h2 ha]
    unfold rfB at e⊢
    show(if m.armed=true then((m.refuse-1:Nat):Int)else -1)=_
    cases hm:m.armed with
    |false=>rw [hm]at e;simp at e;rw [if_neg (by decide),if_pos (by omega)]
    |true=>
      rw [hm]at e ha
      simp only [if_true]at e⊢
      have:m.refuse≠0:=fun z=>ha ⟨rfl,z⟩
      rw [if_neg (by omega)];omega
theorem FreshA.thr0 (h:FreshA m N r)(hN:1≤N∧N≤79)(hr:r≠0){a n:Int}(h0:0≤a)(h1:0≤n)(h2:a+n≤4096):thr (comM m 0 1) a n=true:=by
  obtain⟨c1,c2,_,_⟩:=h.made hN hr;refine thr_mk (inB_yes h0 h1 (by omega) (by omega)) fun i q1 q2=>?_;rw [c2];exact decide_eq_true (by omega)
theorem FreshA.bdy (h:FreshA m N r)(hN:1≤N∧N≤79)(hr:r≠0):Bdy (vstM (comM m 0 1) 0 256 104 8 6432341300767115597) N 0 (if r≤0 then -1 else r-1) (List.replicate N (0,0)) (fun _=>[])∧FullG 0 (List.replicate N ((0,0):Tg)):=by
  obtain⟨c1,c2,c3,c4⟩:=h.made hN hr;have t0:∀ {a n:Int},0≤a→0≤n→a+n≤4096→thr (comM m 0 1) a n=true:=fun h0 h1 h2=>h.thr0 hN hr h0 h1 h2
  generalize comM m 0 1=m1 at*
  have ht:=t0 (a:=104) (n:=8) (by omega) (by omega) (by omega);have e:=(vst_at (m:=m1) (o:=0) (z:=256) (a:=104) (v:=6432341300767115597) (by rw [Int.zero_add];exact ht) (by omega) (by omega)).2;rw [Int.zero_add]at e;rw [e];obtain⟨s1,s2⟩:=stM_com m1 104 8 6432341300767115597;have far:∀y:Nat,(y:Int)<104∨104+8≤(y:Int)→(stM m1 104 8 6432341300767115597).mem y=m1.mem y:=fun y hy=>mem_st rfl ht hy
  have hd:∀j,gtD (List.replicate N ((0,0):Tg)) j=(0,0):=fun j=>by
    unfold gtD;rw [List.getD_eq_getElem?_getD]
    rcases Nat.lt_or_ge j N with a|a
    · rw [List.getElem?_replicate,if_pos a];rfl
    · rw [List.getElem?_eq_none (by simpa using a)];rfl
  have hlq:LQ m1 0 88 11 (fun _=>[]):=⟨t0 (by omega) (by omega) (by omega),by omega,by omega,fun k _ a ha=>(nomatch ha),fun k k' _ _ a a' ha=>(nomatch ha),fun k _=>List.Pairwise.nil,fun k hk i hi=>by
    have hi0:i=0:=by simpa using hi
    subst hi0
    show lnx m1 0 88 (k:Int) 0=0
    have hv:vldV m1 0 88 (8*(k:Int)) 8=0:=by
      unfold vldV
      rw [show wholeB 8=true from rfl,if_pos rfl]
      split
      · exact ld_zero c3 _ _
      · rfl
    rw [←lnx_0 rfl,hv];rfl⟩
  have htg:TgR m1 257 (N:Int) (List.replicate N (0,0)):=TgR.zero c3 (t0 (by omega) (by omega) (by omega)) (by decide) (n:=N) rfl rfl;refine⟨⟨⟨s1.trans c1,hN,by omega,fun i=>by rw [s2];exact c2 i,htg.keep s1 s2 fun y h1 h2=>far y (by omega),hlq.same (fun a n ha=>(thr_same s1 s2 a n).trans ha) (fun y hy=>far y ?_),fun k _ a ha=>(nomatch ha),?_,?_,(stM_rf _ _ _ _).trans c4⟩,fun k _ a=>⟨fun ha=>(nomatch ha),fun⟨p,h1,_⟩=>by rw [hd]at h1;simp at h1⟩,⟨List.length_replicate,fun p hp=>by rw [hd]at hp;simp at hp,fun p hp=>by rw [hd]at hp;simp at hp,by omega⟩,fun p k h1=>by rw [hd]at h1;simp at h1⟩,fun p hp=>absurd hp (Nat.not_lt_zero _)⟩
  · rcases hy with hy|⟨k,a,hk,ha,h1,h2⟩
    · omega
    · cases ha
  · rw [ld_mem s1 s2 fun y h1 h2=>far y (by omega),ld_zero c3];rfl
  · rw [ld_st rfl ht (by decide)];decide
end
theorem WS.outAT {c:Cx}{H:Heap}{A:List Res}{w:World}(h:WS c H A w)(i:Nat){r r':Res}{w':World}(hi:A[i]? =some r)(hr:r'.R w')(hf:Fr w w' r.F r'.F)
    {g:Nat} {z:HE} (hz:z.own=false) (hh:z.holds w' g) (hog:(∃(i:Nat) (y:HE),H[i]? =some (g,y)∧y.own=false)∨w.heap.size≤g) (hnf:¬r'.F g):WS c (H++[(g,z)]) (A.set i r') w':=by
  refine(h.stepA i hi hr hf).add hh (fun q=>by rw [hz]at q;cases q) (fun hin=>?_) (fun e he hoe e1=>?_)
  · rcases inF_set hin with h1|h1
    · exact hnf h1
    · rcases hog with⟨k,q,hk,_⟩|hg
      · exact h.free _ (List.mem_of_getElem? hk) h1
      · have:=h.ars.lt h1;omega
  · have hoe:e.2.own=true:=hoe.resolve_left (fun q=>by rw [hz]at q;cases q)
    obtain⟨k,hk⟩:=List.getElem?_of_mem he
    rcases hog with⟨n,y',hn,hy'⟩|hg
    · have hne:k≠n:=fun q'=>by
        subst q';rw [hn]at hk;obtain rfl:=Option.some.inj hk;rw [show HE.own y'=true from hoe]at hy';cases hy'
      exact pairwise_get h.apart hne hk hn (.inl hoe) e1
    · have:=(h.heap e he).lt
      have e1:e.1=g:=e1;have this:e.1<w.heap.size:=this;omega
theorem gtD_rep0 (N j:Nat):gtD (List.replicate N ((0,0):Tg)) j=(0,0):=by
  rcases Nat.lt_or_ge j N with a|a
  · unfold gtD;rw [List.getD_eq_getElem?_getD,List.getElem?_replicate,if_pos a];rfl
  · exact gtD_o0 (by simpa using a)
theorem noF_zero (N k:Nat):NoF (List.replicate N ((0,0):Tg)) k:=fun j _ _ p h=>by
  rw [gtD_rep0]at h;simp at h
theorem tk_zero (N:Nat)(j:Nat)(t:Int):¬gtD (List.replicate N ((0,0):Tg)) j=(3,t):=fun h=>by
  rw [gtD_rep0]at h;simp at h
section
variable {a e:Int}{g2:Nat}{r2:Int}{q2:List Tg}
theorem aw_1 (h:AlP 8 0 (-1) (List.replicate 8 (0,0)) 1 a e g2 r2 q2):a=4096∧e=0∧g2=2∧r2= -1∧(∀(j:Nat) (t:Int),gtD q2 j=(3,t)↔j=0∧t=1):=by
  rcases h with h|h|h
  · exact absurd h.1 (by decide)
  · exact absurd (show gwE 8 0 (-1) 1=0 by decide) h.2.2.1
  · obtain⟨_,he,gb,rb,qb,i,kk,hb,htl,hnf,hfl,hfn,ha,hg,hr,ht,_⟩:=h
    rcases hb with⟨_,_,rfl⟩|⟨_,_,hgb,hrb,htk⟩
    · exact absurd hfn.2.2.1 (noF_zero 8 1 kk hfn.1 hfn.2.1 i)
    · have e1:gb=2:=hgb.trans (by decide)
      have e2:rb= -1:=hrb.trans (by decide);subst e1;subst e2;obtain⟨b1,b2,b3,b4,b5⟩:=htl.two hfn.2.2.1;have hk1:1≤kk:=hfn.1;have hp:2^1≤2^kk:=Nat.pow_le_pow_right (by decide) hk1;have hi:i=0:=by omega
      subst hi;refine⟨by rw [ha];rfl,he,hg,hr,fun j t=>?_⟩;rw [ht.tk,htk];refine⟨fun x=>x.elim (fun y=>absurd y (tk_zero 8 j t)) id,fun x=>.inr x⟩
theorem aw_2 {q:List Tg}(hT:Tl 8 2 q)(hq:∀(j:Nat) (t:Int),gtD q j=(3,t)↔j=0∧t=1)(h:AlP 8 2 (-1) q 0 a e g2 r2 q2):a=12288∧e=0∧g2=3:=by
  have h3:gtD q 0=(3,1):=(hq 0 1).2 ⟨rfl,rfl⟩
  have key:∀ {G:Nat} {qb:List Tg},Tl 8 G qb→(∀(j:Nat) (t:Int),gtD qb j=(3,t)↔gtD q j=(3,t))→∀ {i kk:Nat},gtD qb i=(2,(kk:Int))→2≤i:=fun {G qb} hb htk {i kk} hi=>by
    have h0:gtD qb 0=(3,1):=(htk 0 1).2 h3;have hs0:2≤(gtD qb 0).1:=by rw [h0];show(2:Int)≤3;decide
    have hi2:2≤(gtD qb i).1:=by rw [hi];exact Int.le_refl 2
    have hw:wdQ qb 0=2:=by unfold wdQ;rw [h0];rfl
    rcases Nat.lt_or_ge 0 i with x|x
    · have:=hb.apart hs0 hi2 x;omega
    · have:i=0:=by omega
      subst this;rw [h0]at hi;simp at hi
  rcases h with h|h|h
  · exact absurd h.1 (by decide)
  · exact absurd (show gwE 8 2 (-1) 0=0 by decide) h.2.2.1
  · obtain⟨_,he,gb,rb,qb,i,kk,hb,htl,hnf,hfl,hfn,ha,hg,hr,ht,_⟩:=h
    obtain⟨b1,b2,b3,b4,b5⟩:=htl.two hfn.2.2.1;have hp:0<2^kk:=Nat.pow_pos (by decide)
    rcases hb with⟨hgb,_,rfl⟩|⟨_,_,hgb,hrb,htk⟩
    · have:=key hT (fun _ _=>Iff.rfl) hfn.2.2.1
      omega
    · have e1:gb=3:=hgb.trans (by decide)
      subst e1;have:=key htl htk hfn.2.2.1;have hi:i=2:=by omega
      subst hi;exact⟨by rw [ha];rfl,he,hg⟩
end
def tkLst (L:List Rn):List Int:=(L.filter fun x=>x.2.2).map fun x=>x.1
theorem tkL_st {L:List Rn}{x:Int}(h0:0≤x)(h1:x<(L.length:Int)):tkLst (L.take (x+1).toNat)=tkLst (L.take x.toNat)++(if(gtD L x.toNat).2.2 then [(gtD L x.toNat).1]else []):=by
  have hlt:x.toNat<L.length:=by omega
  rw [show(x+1).toNat=x.toNat+1 by omega,List.take_succ_eq_append_getElem hlt];have e:gtD L x.toNat=L[x.toNat]:=gtD_lt hlt
  unfold tkLst
  rw [List.filter_append,List.map_append,e]
  congr 1
  cases h:(L[x.toNat]).2.2 with
  |true=>rw [List.filter_cons_of_pos (by simpa using h)];simp
  |false=>rw [List.filter_cons_of_neg (by simpa using h)];simp
theorem tkL_yes {L:List Rn}{lq:List Int}{x:Int}(i1:lq=tkLst (L.take x.toNat))(h0:0≤x)(h1:x<(L.length:Int))(hn:(gtD L x.toNat).2.2=true):lq++[(gtD L x.toNat).1]=tkLst (L.take (x+1).toNat):=by
  rw [tkL_st h0 h1,hn,i1];rfl
theorem tkL_no {L:List Rn}{lq:List Int}{x:Int}(i1:lq=tkLst (L.take x.toNat))(h0:0≤x)(h1:x<(L.length:Int))(hn:(gtD L x.toNat).2.2=false):lq=tkLst (L.take (x+1).toNat):=by
  rw [tkL_st h0 h1,hn,i1];simp
theorem tkL_len (L:List Rn):(tkLst L).length≤L.length:=by
  unfold tkLst;rw [List.length_map];exact List.length_filter_le _ _
theorem tkL_lenT (L:List Rn)(n:Nat):(tkLst (L.take n)).length≤L.length:=Nat.le_trans (tkL_len _) (by rw [List.length_take];exact Nat.min_le_right _ _)
def pkA (L:List Rn)(n:Int):Int:=if(tkLst L).length=0 then 0 else(tkLst L).getD (imax 0 n%((tkLst L).length:Int)).toNat 0
theorem pk_0 {L:List Rn}{n:Int}(h:(tkLst L).length=0):0=pkA L n:=by unfold pkA;rw [if_pos h]
theorem pk_1 {L:List Rn}{n:Int}(h:¬(tkLst L).length=0):(tkLst L).getD (imax 0 n%((tkLst L).length:Int)).toNat 0=pkA L n:=by unfold pkA;rw [if_neg h]
theorem imax_0 (n:Int):0≤imax 0 n:=by unfold imax;split<;>omega
theorem pk_md {L:List Int}(h:¬L.length=0)(n:Int):0≤(imax 0 n)%((L.length:Nat):Int)∧(imax 0 n)%((L.length:Nat):Int)<((L.length:Nat):Int):=
  ⟨Int.emod_nonneg _ (by omega),Int.emod_lt_of_pos _ (by omega)⟩
theorem pk_in {L:List Rn}{n:Int}(h:¬(tkLst L).length=0):pkA L n∈tkLst L:=by
  rw [←pk_1 h];have:=Int.emod_nonneg (imax 0 n) (show(((tkLst L).length:Nat):Int)≠0 by omega);have:=Int.emod_lt_of_pos (imax 0 n) (show(0:Int)<(((tkLst L).length:Nat):Int) by omega);exact getD_mem0 (by omega)
theorem rnTo_mem {q:List Tg}{x:Nat}{e:Rn}(h:e∈rnTo q x):∃p,p<x∧2≤(gtD q p).1∧e=rnE q p:=by
  unfold rnTo at h
  obtain⟨p,h1,h2⟩:=List.mem_map.1 h;obtain⟨h3,h4⟩:=List.mem_filter.1 h1;exact⟨p,List.mem_range.1 h3,by simpa using h4,h2.symm⟩
theorem rnTo_in {q:List Tg}{x p:Nat}(h1:p<x)(h2:2≤(gtD q p).1):rnE q p∈rnTo q x:=by
  unfold rnTo
  exact List.mem_map.2 ⟨p,List.mem_filter.2 ⟨List.mem_range.2 h1,by simpa using h2⟩,rfl⟩
theorem tkL_mem {q:List Tg}{g:Nat}{a:Int}(h:a∈tkLst (rnTo q g)):∃p,p<g∧(gtD q p).1=3∧a=bpA p:=by
  unfold tkLst at h
  obtain⟨e,h1,h2⟩:=List.mem_map.1 h;obtain⟨h3,h4⟩:=List.mem_filter.1 h1;obtain⟨p,p1,p2,rfl⟩:=rnTo_mem h3;refine⟨p,p1,?_,h2.symm⟩;have:((gtD q p).1==3)=true:=h4;exact eq_of_beq this
theorem pk_rng {m:AM}{N g:Nat}{r:Int}{q:List Tg}{Q:Nat→List Int}(h:Bdy m N g r q Q)(n:Int):0≤pkA (rnTo q g) n∧pkA (rnTo q g) n≤1000000:=by
  by_cases hz:(tkLst (rnTo q g)).length=0
  · rw [←pk_0 hz];decide
  · obtain⟨p,p1,p2,p3⟩:=tkL_mem (pk_in (n:=n) hz)
    have:=h.bm.nb;have:=h.bm.cn;rw [p3];unfold bpA;omega
section
variable {m:AM}{N g:Nat}{r:Int}{q q2:List Tg}{Q:Nat→List Int}
theorem FreeP.full {a:Int}(hf:FullG g q)(h:FreeP q a q2):FullG g q2:=by
  rcases h with⟨_,rfl⟩|⟨_,_,h⟩
  · exact hf
  · exact fun p hp e=>hf p hp ((h p).1 e)
theorem Bdy.refM (h:Bdy m N g r q Q)(n:Int):Bdy (Go.Proofs.YtojjkjedcafpeaaGreatDoor.K.refM m n) N g (imax 0 n) q Q:=by
  have b:=h.bm;have h0:=imax_0 n;refine⟨⟨b.cap,b.nb,b.cn,b.com,b.tg.keep rfl rfl fun y _ _=>rfl,b.lq.same (fun a k hx=>(thr_same rfl rfl a k).trans hx) fun y _=>rfl,b.mp,(ld_mem rfl rfl fun y _ _=>rfl).trans b.gr,(ld_mem rfl rfl fun y _ _=>rfl).trans b.mag,?_⟩,h.fr,h.tl,h.nf⟩
  show(((imax 0 n).toNat:Nat):Int)=imax 0 n
  omega
end
end Go.Proofs.YtojjkjedcafpeaaGreatDoor.K
