import Derived.Test.YtojjkjedcafpeaaGreatDoorM8
import Derived.Test.YtojjkjedcafpeaaGreatDoorProg
import Derived.Test.YtojjkjedcafpeaaGreatDoorLj
import Derived.Test.YtojjkjedcafpeaaGreatDoorLm
set_option maxRecDepth 100000
set_option maxHeartbeats 1000000
namespace Go.Proofs.YtojjkjedcafpeaaGreatDoor.K
set_option linter.unusedSimpArgs false
set_option linter.unusedVariables false
def tkAt (q:List Tg)(p:Nat):Bool:=(List.range (p+1)).any fun s=>(gtD q s).1==3&&decide (p<s+wdQ q s)
def sv (q:List Tg)(y j:Nat):Nat:=if j=0 then 1 else if j≤y then(if tkAt q (j-1)then 3 else 2)else 0
def S1 (x:Int)(f:Nat→UInt8):Prop:=∀j:Nat,(f j).toNat=if(j:Int)<x then 1 else 0
def S2 (q:List Tg)(y:Nat)(f:Nat→UInt8):Prop:=∀j,(f j).toNat=sv q y j
def S3 (q:List Tg)(y:Nat)(b:Bool)(x:Int)(f:Nat→UInt8):Prop:=∀j:Nat,(f j).toNat=if y+1≤j∧(j:Int)<(y:Int)+1+x then(if b then 3 else 2)else sv q y j
section
variable {m:AM}{N g y:Nat}{r:Int}{q:List Tg}{Q:Nat→List Int}{x:Int}{f:Nat→UInt8}{b:Bool}
theorem S1.zero:S1 0 (fun _=>0):=fun j=>by rw [if_neg (by omega)];rfl
theorem u8_n {v:Int}(h:0≤v∧v≤255):(u8 v).toNat=v.toNat:=by
  have:=u8_toNat h;omega
theorem S1.st (h:S1 x f)(h0:0≤x):S1 (x+1) (putF f x.toNat (u8 1)):=fun j=>by
  unfold putF
  split
  · rw [if_pos (by omega),u8_n (by omega)];rfl
  · rw [h j]
    by_cases e:(j:Int)<x
    · rw [if_pos e,if_pos (by omega)]
    · rw [if_neg e,if_neg (by omega)]
theorem S1.to (h:S1 x f)(hx:x=1):S2 q 0 f:=fun j=>by
  rw [h j,hx];unfold sv
  by_cases e:j=0
  · rw [if_pos (by omega),if_pos e]
  · rw [if_neg (by omega),if_neg e,if_neg (by omega)]
theorem S2.to (h:S2 q y f)(b:Bool):S3 q y b 0 f:=fun j=>by rw [h j,if_neg (by omega)]
theorem S3.st (h:S3 q y b x f)(h0:0≤x){i:Nat}(hi:i=y+1+x.toNat){v:Int}(hv:v=if b then 3 else 2):S3 q y b (x+1) (putF f i (u8 v)):=fun j=>by
  unfold putF
  split
  · rename_i e
    rw [if_pos (show y+1≤j∧(j:Int)<(y:Int)+1+(x+1) by omega),hv]
    cases b<;>rfl
  · rename_i e
    rw [h j]
    by_cases e2:y+1≤j∧(j:Int)<(y:Int)+1+x
    · rw [if_pos e2,if_pos (show y+1≤j∧(j:Int)<(y:Int)+1+(x+1) by omega)]
    · rw [if_neg e2,if_neg (show¬(y+1≤j∧(j:Int)<(y:Int)+1+(x+1)) by omega)]
theorem tkAt_run (h:Tl N g q)(hy:2≤(gtD q y).1){p:Nat}(h1:y≤p)(h2:p<y+wdQ q y):tkAt q p=((gtD q y).1==3):=by
  cases hb:((gtD q y).1==3)with
  |true=>exact List.any_eq_true.2 ⟨y,List.mem_range.2 (by omega),by rw [hb];simpa using h2⟩
  |false=>
    cases hc:tkAt q p with
    |false=>rfl
    |true=>
      exfalso
      obtain⟨s,s1,s2⟩:=List.any_eq_true.1 hc
      simp only [Bool.and_eq_true,beq_iff_eq,decide_eq_true_eq]at s2
      have hs:=List.mem_range.1 s1;have:=h.one (a:=s) (b:=y) (x:=p) (by omega) hy (by omega) s2.2 h1 h2;subst this;rw [s2.1]at hb;cases hb
theorem S3.fin (h:S3 q y b x f)(ht:Tl N g q)(hy:2≤(gtD q y).1)(hb:b=((gtD q y).1==3))(hx:x=((wdQ q y:Nat):Int)):S2 q (y+wdQ q y) f:=fun j=>by
  rw [h j,hx];unfold sv
  by_cases e:y+1≤j∧(j:Int)<(y:Int)+1+((wdQ q y:Nat):Int)
  · rw [if_pos e,if_neg (show¬j=0 by omega),if_pos (show j≤y+wdQ q y by omega),tkAt_run ht hy (show y≤j-1 by omega) (by omega),hb]
  · rw [if_neg e]
    by_cases e1:j=0
    · rw [if_pos e1,if_pos e1]
    · rw [if_neg e1,if_neg e1]
      by_cases e2:j≤y
      · rw [if_pos e2,if_pos (show j≤y+wdQ q y by omega)]
      · rw [if_neg e2,if_neg (show¬j≤y+wdQ q y by omega)]
theorem sv_at (h:Bdy m N g r q Q)(e:gtD (rnTo q g) x.toNat=rnE q y)(hy:2≤(gtD q y).1):(gtD (rnTo q g) x.toNat).1/4096=(y:Int)+1∧0≤(gtD (rnTo q g) x.toNat).1∧(gtD (rnTo q g) x.toNat).1≤1000000∧0≤(gtD (rnTo q g) x.toNat).2.1∧(gtD (rnTo q g) x.toNat).2.1≤10∧(1*(2^Int.toNat (gtD (rnTo q g) x.toNat).2.1):Int)=((wdQ q y:Nat):Int)∧(gtD (rnTo q g) x.toNat).2.2=((gtD q y).1==3):=by
  obtain⟨a1,a2,a3,a4,a5⟩:=h.tl.st y hy;have:=h.bm.nb;have:=h.bm.cn;have hw:0<wdQ q y:=Nat.pow_pos (by decide);rw [e];refine⟨by show bpA y/4096=_;unfold bpA;omega,by show 0≤bpA y;unfold bpA;omega,by show bpA y≤1000000;unfold bpA;omega,a1,a2,?_,rfl⟩
  show(1*(2^Int.toNat (gtD q y).2):Int)=_
  unfold wdQ;rw [Int.one_mul,Int.natCast_pow];rfl
end
def cntW (f:Nat→UInt8)(w:Int)(n:Nat):Nat:=countTo (fun i=>((f i).toNat:Int)==w) n
theorem cntW_st {f:Nat→UInt8}{w x:Int}(h0:0≤x):((cntW f w (x+1).toNat:Nat):Int)=((cntW f w x.toNat:Nat):Int)+(if(((f x.toNat).toNat:Nat):Int)==w then 1 else 0):=by
  rw [show(x+1).toNat=x.toNat+1 by omega]
  unfold cntW
  show((countTo _ x.toNat+(if _ then 1 else 0):Nat):Int)=_
  split<;>simp
theorem cntW_le (f:Nat→UInt8)(w:Int):∀n,cntW f w n≤n
  |0=>Nat.le_refl _
  |n+1=>by
    have:=cntW_le f w n
    unfold cntW at this⊢
    unfold countTo
    split<;>omega
def cntQ (q:List Tg)(g:Nat)(w:Int)(n:Nat):Nat:=countTo (fun i=>((sv q g i:Nat):Int)==w) n
theorem cntW_q {q:List Tg}{g:Nat}{f:Nat→UInt8}(h:S2 q g f){w:Int}{n:Nat} :cntW f w n=cntQ q g w n:=by
  unfold cntW cntQ
  congr 1
  funext i
  rw [h i]
theorem cntQ_le (q:List Tg)(g:Nat)(w:Int):∀n,cntQ q g w n≤n
  |0=>Nat.le_refl _
  |n+1=>by
    have:=cntQ_le q g w n
    unfold cntQ at this⊢
    unfold countTo
    split<;>omega
def lgF (L:List Rn):Int×Bool:=L.foldl (fun b e=>if e.2.2 then b else(imax b.1 e.2.1,true)) (0,false)
def LgP (q:List Tg)(bk:Int)(bo:Bool):Prop:=(bo=false∧bk=0∧NoF q 0)∨(bo=true∧∃p kk:Nat,gtD q p=(2,(kk:Int))∧bk=(kk:Int)∧∀p' k':Nat,gtD q p'=(2,(k':Int))→k'≤kk)
def CanP (N:Nat)(q:List Tg)(g:Nat)(k:Int)(cb:Bool):Prop:=cb=true↔(gwBad k=false∧(¬NoF q k.toNat∨gwFit N g k=true))
section
variable {m:AM}{N g:Nat}{r:Int}{q:List Tg}{Q:Nat→List Int}{x k bk:Int}{bo:Bool}{L:List Rn}
theorem lg_y (h:((bk,bo):Int×Bool)=lgF (L.take x.toNat))(h0:0≤x)(h1:x<(L.length:Int))(hn:(!(gtD L x.toNat).2.2)=true):((imax bk (gtD L x.toNat).2.1,true):Int×Bool)=lgF (L.take (x+1).toNat):=by
  rw [take_1 h0 h1];unfold lgF at h⊢;rw [List.foldl_append,←h]
  show _=if(gtD L x.toNat).2.2 then _ else _
  have:(gtD L x.toNat).2.2=false:=by simpa using hn
  rw [this];rfl
theorem lg_n (h:((bk,bo):Int×Bool)=lgF (L.take x.toNat))(h0:0≤x)(h1:x<(L.length:Int))(hn:(!(gtD L x.toNat).2.2)=false):((bk,bo):Int×Bool)=lgF (L.take (x+1).toNat):=by
  rw [take_1 h0 h1];unfold lgF at h⊢;rw [List.foldl_append,←h]
  show _=if(gtD L x.toNat).2.2 then _ else _
  have:(gtD L x.toNat).2.2=true:=by simpa using hn
  rw [this];rfl
theorem lg_all (h0:∀e,e∈L→0≤e.2.1):∀n,n≤L.length→(lgF (L.take n)=(0,false)∧∀e,e∈L.take n→e.2.2=true)∨∃e,e∈L.take n∧e.2.2=false∧lgF (L.take n)=(e.2.1,true)∧∀e',e'∈L.take n→e'.2.2=false→e'.2.1≤e.2.1
  |0,_=>.inl ⟨rfl,fun e he=>by cases he⟩
  |n+1,hn=>by
    have ih:=lg_all h0 n (by omega);have hlt:n<L.length:=by omega
    have ht:L.take (n+1)=L.take n++[L[n]]:=List.take_succ_eq_append_getElem hlt;have hz:=h0 _ (List.getElem_mem hlt)
    have hs:lgF (L.take (n+1))=if(L[n]).2.2 then lgF (L.take n)else(imax (lgF (L.take n)).1 (L[n]).2.1,true):=by
      rw [ht];unfold lgF;rw [List.foldl_append];rfl
    rw [hs,ht]
    cases hb:(L[n]).2.2 with
    |true=>
      rw [if_pos rfl]
      rcases ih with⟨i1,i2⟩|⟨e,i1,i2,i3,i4⟩
      · exact .inl ⟨i1,fun e he=>(List.mem_append.1 he).elim (i2 e) fun h=>by rw [List.mem_singleton.1 h];exact hb⟩
      · exact .inr ⟨e,List.mem_append.2 (.inl i1),i2,i3,fun e' he hf=>(List.mem_append.1 he).elim (fun h=>i4 e' h hf) fun h=>by rw [List.mem_singleton.1 h,hb]at hf;cases hf⟩
    |false=>
      rw [if_neg (by decide)]
      rcases ih with⟨i1,i2⟩|⟨e,i1,i2,i3,i4⟩
      · refine .inr ⟨L[n],List.mem_append.2 (.inr (List.mem_singleton.2 rfl)),hb,?_,fun e' he hf=>(List.mem_append.1 he).elim (fun h=>by rw [i2 e' h]at hf;cases hf) fun h=>by rw [List.mem_singleton.1 h];exact Int.le_refl _⟩
        rw [i1];have:imax 0 (L[n]).2.1=(L[n]).2.1:=by unfold imax;split<;>omega
        rw [this]
      · rw [i3]
        by_cases hc:(L[n]).2.1≤e.2.1
        · refine .inr ⟨e,List.mem_append.2 (.inl i1),i2,?_,fun e' he hf=>(List.mem_append.1 he).elim (fun h=>i4 e' h hf) fun h=>by rw [List.mem_singleton.1 h];exact hc⟩
          have:imax e.2.1 (L[n]).2.1=e.2.1:=by unfold imax;split<;>omega
          rw [this]
        · refine .inr ⟨L[n],List.mem_append.2 (.inr (List.mem_singleton.2 rfl)),hb,?_,fun e' he hf=>(List.mem_append.1 he).elim (fun h=>by have:=i4 e' h hf;omega) fun h=>by rw [List.mem_singleton.1 h];exact Int.le_refl _⟩
          have:imax e.2.1 (L[n]).2.1=(L[n]).2.1:=by unfold imax;split<;>omega
          rw [this]
theorem lg_fin (h:Bdy m N g r q Q)(hx:((rnTo q g).length:Int)≤x)(he:((bk,bo):Int×Bool)=lgF ((rnTo q g).take x.toNat)):LgP q bk bo:=by
  have h0:∀e,e∈rnTo q g→0≤e.2.1:=fun e he=>by
    obtain⟨p,p1,p2,rfl⟩:=rnTo_mem he;exact(h.tl.st p p2).1
  have ha:=lg_all h0 (rnTo q g).length (Nat.le_refl _);rw [List.take_length]at ha;rw [List.take_of_length_le (by omega)]at he
  have hin:∀p k:Nat,gtD q p=(2,(k:Int))→rnE q p∈rnTo q g∧(rnE q p).2.2=false∧(rnE q p).2.1=(k:Int):=fun p k hp=>by
    obtain⟨a1,a2,a3,a4,a5⟩:=h.tl.two hp;have hw:0<2^k:=Nat.pow_pos (by decide);refine⟨rnTo_in (by omega) a5,?_,?_⟩
    · show((gtD q p).1==3)=false;rw [hp];rfl
    · show(gtD q p).2=_;rw [hp]
  rcases ha with⟨i1,i2⟩|⟨e,i1,i2,i3,i4⟩
  · rw [i1]at he
    refine .inl ⟨congrArg Prod.snd he,congrArg Prod.fst he,fun j _ _ p hp=>?_⟩;obtain⟨j1,j2,_⟩:=hin p j hp;rw [i2 _ j1]at j2;cases j2
  · rw [i3]at he
    obtain⟨p,p1,p2,rfl⟩:=rnTo_mem i1
    have hp:=(h.tgN p2).resolve_right fun e=>by
      have i2:((gtD q p).1==3)=false:=i2;rw [e]at i2;cases i2
    refine .inr ⟨congrArg Prod.snd he,p,(gtD q p).2.toNat,hp,?_,fun p' k' hp'=>?_⟩
    · have:=(h.tl.st p p2).1
      have h9:bk=(gtD q p).2:=congrArg Prod.fst he;omega
    · obtain⟨j1,j2,j3⟩:=hin p' k' hp'
      have:=i4 _ j1 j2;rw [j3]at this;have h9:(k':Int)≤(gtD q p).2:=this;omega
theorem can_bad (h:gwBad k=true):CanP N q g k false:=⟨fun h1=>(Bool.false_ne_true h1).elim,fun h1=>absurd (h.symm.trans h1.1) (by decide)⟩
theorem can_big (h:Bdy m N g r q Q)(hk:gwBad k=false)(hl:LgP q bk bo)(hb:(bo&&decide (k≤bk))=true):CanP N q g k true:=by
  refine⟨fun _=>⟨hk,.inl fun hn=>?_⟩,fun _=>rfl⟩;have hb:=hb
  rcases hl with⟨e,_⟩|⟨_,p,kk,hp,e,_⟩
  · rw [e]at hb;cases hb
  · simp only [Bool.and_eq_true,decide_eq_true_eq]at hb
    have:=gr_bad hk;exact hn kk (by omega) (h.tl.two hp).1 p hp
theorem can_no (hk:gwBad k=false)(hl:LgP q bk bo)(hb:(bo&&decide (k≤bk))=false):NoF q k.toNat:=by
  have h0:=gr_bad hk
  rcases hl with⟨_,_,hn⟩|⟨e,p,kk,hp,e2,hm⟩
  · exact fun j j1 j2=>hn j (Nat.zero_le _) j2
  · rw [e]at hb
    simp only [Bool.true_and,decide_eq_false_iff_not]at hb
    intro j j1 j2 p' hp';have:=hm p' j hp';omega
theorem can_up {g:Nat}{k:Int}(hk:0≤k):(((g:Int)+1*2^k.toNat-1)/(1*2^k.toNat))*(1*2^k.toNat)=upG g k:=by
  unfold upG
  have hp:0<2^k.toNat:=Nat.pow_pos (by decide);have hc:(1*2^k.toNat:Int)=((2^k.toNat:Nat):Int):=by rw [Int.one_mul,Int.natCast_pow];rfl
  rw [hc]
  generalize 2^k.toNat=w at*
  have:((g:Int)+(w:Int)-1)=((g+w-1:Nat):Int):=by omega
  rw [this,Int.natCast_mul,Int.natCast_ediv]
theorem can_fit (hk:gwBad k=false)(hn:NoF q k.toNat){c:Nat}(hc:c=N+1){u w:Int}(hu:u=upG g k)(hw:w=1*2^k.toNat):CanP N q g k (decide (((1+u)+w)≤(c:Int))):=by
  unfold CanP gwFit
  rw [hk,hu,hw]
  simp only [decide_eq_true_eq,Bool.not_false,Bool.true_and]
  refine⟨fun h=>⟨trivial,.inr (by omega)⟩,fun h=>?_⟩
  rcases h.2 with h|h
  · exact absurd hn h
  · omega
end
section
variable {P:Program}{c:Cx}{n:Nat}{E:Env}{H:Heap}{A:List Res}{w:World}
theorem WS.outN (h:WS c H A w){r':Res}{w':World}(hr:r'.R w')(hf:Fr w w' no r'.F){g:Nat}{z:HE}(hz:z.own=false)(hh:z.holds w' g)(hg:w.heap.size≤g)(hnf:¬r'.F g):WS c (H++[(g,z)]) (A++[r']) w':=by
  refine(h.newA hr hf).add hh (fun q=>by rw [hz]at q;cases q) (fun hin=>?_) (fun e he hoe e1=>?_)
  · obtain⟨r,hr1,hr2⟩:=inF_iff.1 hin
    rcases List.mem_append.1 hr1 with h1|h1
    · have:=h.ars.lt (inF_iff.2 ⟨r,h1,hr2⟩);omega
    · rw [List.mem_singleton.1 h1]at hr2;exact hnf hr2
  · have:=(h.heap e he).lt
    have e1:e.1=g:=e1;have this:e.1<w.heap.size:=this;omega
end
section
variable {a e:Int}{g2:Nat}{r2:Int}{q2:List Tg}{m:AM}{Q:Nat→List Int}{cb:Bool}
theorem aw_9 (h:AlP 8 0 (-1) (List.replicate 8 (0,0)) 0 a e g2 r2 q2):a=4096∧e=0∧g2=1∧r2= -1∧(∀(j:Nat) (t:Int),gtD q2 j=(3,t)↔j=0∧t=0):=by
  rcases h with h|h|h
  · exact absurd h.1 (by decide)
  · exact absurd (show gwE 8 0 (-1) 0=0 by decide) h.2.2.1
  · obtain⟨_,he,gb,rb,qb,i,kk,hb,htl,hnf,hfl,hfn,ha,hg,hr,ht,_⟩:=h
    rcases hb with⟨_,_,rfl⟩|⟨_,_,hgb,hrb,htk⟩
    · exact absurd hfn.2.2.1 (noF_zero 8 0 kk hfn.1 hfn.2.1 i)
    · have e1:gb=1:=hgb.trans (by decide)
      have e2:rb= -1:=hrb.trans (by decide);subst e1;subst e2;obtain⟨b1,b2,b3,b4,b5⟩:=htl.two hfn.2.2.1;have hp:0<2^kk:=Nat.pow_pos (by decide);have hi:i=0:=by omega
      subst hi;refine⟨by rw [ha];rfl,he,hg,hr,fun j t=>?_⟩;rw [ht.tk,htk];refine⟨fun x=>x.elim (fun y=>absurd y (tk_zero 8 j t)) id,fun x=>.inr x⟩
theorem aw_sv {fs:Nat→UInt8}(h:S2 q2 1 fs)(ht:∀(j:Nat) (t:Int),gtD q2 j=(3,t)↔j=0∧t=0){i:Nat}(hi:i<9):(fs i).toNat=((fun i:Nat=>if i=0 then(1:UInt8)else if i=1 then 3 else 0) i).toNat:=by
  rw [h i];have h3:gtD q2 0=(3,0):=(ht 0 0).2 ⟨rfl,rfl⟩;have hk:tkAt q2 0=true:=List.any_eq_true.2 ⟨0,List.mem_range.2 (by decide),by rw [h3];have:0<wdQ q2 0:=Nat.pow_pos (by decide);simpa using this⟩
  unfold sv
  rcases(by omega:i=0∨i=1∨1<i)with rfl|rfl|hc
  · rfl
  · rw [if_neg (by decide),if_pos (by decide),hk];rfl
  · rw [if_neg (by omega),if_neg (by omega)]
    show 0=(if i=0 then(1:UInt8)else if i=1 then 3 else 0).toNat
    rw [if_neg (by omega),if_neg (by omega)];rfl
theorem can9_a (h:Bdy m 8 1 r2 q2 Q)(ht:∀(j:Nat) (t:Int),gtD q2 j=(3,t)↔j=0∧t=0)(hc:CanP 8 q2 1 3 cb):(!cb)=true:=by
  have hn:NoF q2 (3:Int).toNat:=fun j _ _ p hp=>by
    obtain⟨b1,b2,b3,b4,b5⟩:=h.tl.two hp;have hw:0<2^j:=Nat.pow_pos (by decide);have:p=0:=by omega
    subst this;rw [(ht 0 0).2 ⟨rfl,rfl⟩]at hp;have:=congrArg Prod.fst hp
    simp at this
  cases cb with
  |false=>rfl
  |true=>
    rcases(hc.1 rfl).2 with h1|h1
    · exact absurd hn h1
    · exact absurd h1 (by decide)
theorem can9_b (hc:CanP 8 q2 1 2 cb):cb=true:=hc.2 ⟨by decide,.inr (by decide)⟩
end
theorem cs_state (a:Int)(k:Int)(tb:Bool)(w:World):
    Calls Tryz.prog 91 #[.agg #[vi a,vi k,vb tb]] w fun e w'=>e=.returned (v8 (if tb then 3 else 2:Int))∧Fr w w' no no:=by
 refine enter (args:=[.agg #[vi a,vi k,vb tb]]) (D:=no) (A:=[]) Tryz.func91 rfl 5 rfl [] (WS.startL trivial) fun ac hS=>?_;refine hS.regS [0,0] [] fun ν1=>seg [(1,pt (ν1 0) 0)] [(0,some ((ν1 0),.cells [vi a,vi k,vb tb] 41))] [] tv fun ac wd hS=>?_;refine wp_seq ?_;refine hS.regS [0,0] [] fun _=>seg [(4,vb tb)] [] [.e (ν1 0)] tv fun ac wd hS=>?_;refine hS.condC tb (fun hb1o hb1=>?_) (fun hb1o hb1=>?_)
 ·
  have ht9:tb=true:=hb1o;refine hS.regS [0] [] (sg [(2,v8 3)] [] fun ac wd hS=>?_);refine wp_ret ?_;refine zpr ?_;refine St.retC 0 hS (v8 3) [] tv fun hw=>?_;refine⟨retd (vint ?_),hw.fr0⟩
  all_goals (first|rfl|(rw [ht9];rfl))
 ·
  have ht9:tb=false:=hb1o;refine wp_skip ?_;refine zpt ?_;refine hS.regS [0] [] (sg [(2,v8 2)] [] fun ac wd hS=>?_);refine wp_ret ?_;refine St.retC 0 hS (v8 2) [] tv fun hw=>?_;refine⟨retd (vint ?_),hw.fr0⟩
  all_goals (first|rfl|(rw [ht9];rfl))
theorem cs_States (b:Nat)(F:Nat→Prop)(m:AM)(bb:Nat)(N:Nat)(g:Nat)(r:Int)(q:List Tg)(Q:Nat→List Int)(w:World)(hr:(arR b F m).R w)(hh0:HE.holds w 1 (.fn 0 64 dbT))(hh1:HE.holds w bb (.fn 0 12 (roF (zbx b N))))(hB:Bdy m N g r q Q)(hfl:FullG g q):
    Calls Tryz.prog 42 #[pt bb 0] w fun e w'=>∃(g2:Nat) (c2:Nat) (fs:Nat→UInt8),e=.returned (sc g2 0 m.cap c2)∧S2 q g fs∧w.heap.size≤g2∧HE.holds w' g2 (.fn 0 (0+m.cap) (bytes fs 0))∧Fr w w' no no:=by
 have hcap:=hB.bm.cap;have hcn:=hB.bm.cn;have hnb:=hB.bm.nb;have hrl:=rnTo_len q g;refine enter (args:=[pt bb 0]) (D:=no) (A:=[]) Tryz.func42 rfl 50 rfl [(1,.fn 0 64 dbT),(bb,.fn 0 12 (roF (zbx b N)))] (WS.startL ⟨⟨rfl,hh0⟩,⟨rfl,hh1⟩,trivial⟩) fun ac hS=>?_;refine hS.regS [0] [0] (sg [] zn2 fun ac wd hS=>?_);refine wp_seq ?_;refine hS.regS [0,0] [0] (sg [(9,vb false)] zn2 fun ac wd hS=>?_);refine hS.condF ?_;refine wp_skip ?_;refine zpt ?_;refine zwq ?_;refine hS.opsC 4 [0,0,0,100] [0] fun _=>seg [(13,pt b 0)] zn2 [.e bb,.p (0≤0∧0<12)] ⟨(by decide),tv⟩ fun ac wd hS=>?_;refine hS.call0 44 #[pt b 0] 14 (ar_Cap b F m _ (Res.keep hr hS.mem.fr)) fun ac wd hS=>?_;refine hS.opsC 2 [90,0] [0] fun ν4=>seg [(3,sc (ν4 0) 0 m.cap m.cap)] [(0,none),(1,none),(2,some ((ν4 0),.row 5 m.cap m.cap (bytes (fun _=>0) 0)))] [.p (((m.cap:Int):Int)=(m.cap:Int)),.p ((0:Int)≤(m.cap:Int)∧((m.cap:Int):Int)≤2^32∧1≤64)] ⟨rfl,(by omega),tv⟩ fun ac wd hS=>?_;refine zlq ?_;refine wp_seq ?_;refine zwq ?_;refine hS.opsC 1 [0] [0,3] (sg [(16,pt bb 0)] zn3 fun ac wd hS=>?_);refine hS.call0 16 #[pt bb 0] 17 (bu_Base bb b N _ (hS.mem.get 1 bb (.fn 0 12 (roF (zbx b N))))) fun ac wd hS=>?_;refine hS.opsC 1 [0] [0,3,17] (sg [(18,vi 0)] zn3 fun ac wd hS=>?_);refine zlq ?_;refine wp_block ?_;refine St.loopC (σ:=Int×(Nat→UInt8)) (fun(x:Int×(Nat→UInt8))=>match x with|(x18,px)=>⟨[(0,[],pt bb 0),(3,[],sc (ν4 0) 0 m.cap m.cap),(17,[],vi 1),(18,[],vi x18)],[(1,.fn 0 64 dbT),(bb,.fn 0 12 (roF (zbx b N))),((ν4 0),.row 5 m.cap m.cap (bytes px 0))],[],(0≤x18∧x18≤1)∧(S1 x18 px)∧True,1-Int.toNat x18⟩) (0,(fun _=>0)) ⟨(by omega),(by exact S1.zero),trivial⟩ hS ?_;clear hS;rintro⟨x18,px⟩ ⟨i0,i1,-⟩ ac wd hS;replace i0:0≤x18∧x18≤1:=i0;replace i1:S1 x18 px:=i1;refine hS.regS [0] [0,3,17,18] (sg [(19,vb (decide ((x18:Int)<1)))] zn3 fun ac wd hS=>?_);refine wp_seq ?_;refine hS.condC (decide ((x18:Int)<1)) (fun hb1o hb1=>?_) (fun hb1o hb1=>?_)
 ·
  refine wp_skip ?_;refine zpt ?_;refine wp_seq ?_;refine wp_block ?_;refine hS.regS [0,0] [0,3,17,18] (sg [(4,vi x18)] zn3 fun ac wd hS=>?_);refine hS.regC [0,0,10,200] [0,3,17,18] fun _=>seg [] [(0,none),(1,none),(2,some ((ν4 0),.row 5 m.cap m.cap (fun x=>if x=Int.toNat x18 then v8 1 else(bytes px 0) x)))] [.e (ν4 0),.p (Int.toNat x18<m.cap),.p ((0:Int)≤x18∧(x18:Int)<(m.cap:Int))] ⟨(by omega),(by omega),tv⟩ fun ac wd hS=>?_;replace hS:=hS.to (hS.mem.tellR 2 (b:=(ν4 0)) (e:=5) (m:=m.cap) (tot:=m.cap) (f:=(fun x=>if x=Int.toNat x18 then v8 1 else(bytes px 0) x)) (bytes (putF px x18.toNat (u8 1)) 0) (fun o ho=>by first|exact bytes_puti px x18.toNat 1 (by first|omega|(split<;>omega)) o|(rw [Nat.mul_one,Nat.zero_add];exact bytes_puti px x18.toNat 1 (by first|omega|(split<;>omega)) o)));refine zpb ?_;refine zpt ?_;refine hS.regC [20,0] [0,3,17] fun _=>seg [(18,vi (x18+1))] zn3 [.p (fit .i64 (x18+1))] ⟨zf6 (by omega),tv⟩ fun ac wd hS=>?_;exact zpt (hS.next ((x18+1),(putF px x18.toNat (u8 1))) ⟨(by first|omega|assumption|(simp;done)|(simp;omega)),(by exact i1.st i0.1),tv⟩ (by dsimp only;omega))
 ·
  refine wp_exit ?_;refine zpe ?_;refine zpe ?_;refine zph ?_;refine zpt ?_;refine wp_seq ?_;refine zwq ?_;refine hS.opsC 1 [0] [3] (sg [(25,pt bb 0)] zn3 fun ac wd hS=>?_);refine hS.callC 17 #[pt bb 0] (bu_Runs b F m bb N g r q Q _ (Res.keep hr hS.mem.fr) (hS.mem.get 0 1 (.fn 0 64 dbT)) (hS.mem.get 1 bb (.fn 0 12 (roF (zbx b N)))) (by exact hB) (by exact hfl)) ?_;rintro _ wd ⟨ao22,c23,g24,o25,rfl,hv26,hog0,hoh0,hF⟩;have ho7:g24=1∨w.heap.size≤g24:=by have:=hS.mem.fr.size;have:w.heap.size≤_:=this;omega
  refine⟨.slice ao22 (rnTo q g).length c23,rfl,?_⟩;replace hS:=(hS.to (hS.mem.outs hF [(g24,zL (rnTo q g) o25)] ⟨⟨rfl,hoh0,(fun q_=>q_.elim (fun e=>.inl ⟨0,.fn 0 64 dbT,by rw [e];as_aux_lemma=>kernel_rfl,rfl⟩) (fun q_=>.inr q_)) hog0⟩,trivial⟩)).put (d:=26) (v:=.slice ao22 (rnTo q g).length c23) (by decide);clear hF;refine hS.opsC 2 [0,0] [3,26] (sg [(27,vi (((rnTo q g).length:Nat):Int)),(28,vi 0)] [(0,none),(2,none),(3,none)] fun ac wd hS=>?_);refine zlq ?_;refine wp_block ?_;refine St.loopC (σ:=Int×(Nat→UInt8)×Nat) (fun(x:Int×(Nat→UInt8)×Nat)=>match x with|(x28,py,y)=>⟨[(3,[],sc (ν4 0) 0 m.cap m.cap),(26,[],.slice ao22 (rnTo q g).length c23),(27,[],vi (((rnTo q g).length:Nat):Int)),(28,[],vi x28)],[(1,.fn 0 64 dbT),((ν4 0),.row 5 m.cap m.cap (bytes py 0)),(g24,zL (rnTo q g) o25)],[],(0≤x28∧x28≤((rnTo q g).length:Int))∧(RnI q g x28 y)∧(S2 q y py)∧True,(rnTo q g).length-Int.toNat x28⟩) (0,px,0) ⟨(by omega),(by exact RnI.zero q g),(by exact i1.to (by omega)),trivial⟩ hS ?_;clear hS;rintro⟨x28,py,y⟩ ⟨j0,j1,j2,-⟩ ac wd hS;replace j0:0≤x28∧x28≤((rnTo q g).length:Int):=j0;replace j1:RnI q g x28 y:=j1;replace j2:S2 q y py:=j2;refine hS.regS [0] [3,26,27,28] (sg [(29,vb (decide ((x28:Int)<(((rnTo q g).length:Nat):Int))))] zn3 fun ac wd hS=>?_);refine wp_seq ?_;refine hS.condC (decide ((x28:Int)<(((rnTo q g).length:Nat):Int))) (fun hb8o hb8=>?_) (fun hb8o hb8=>?_)
  ·
   refine wp_skip ?_;refine zpt ?_;refine wp_seq ?_;refine wp_block ?_;obtain rfl:ao22=some ⟨g24,o25,none⟩:=Or.resolve_left hv26 (by omega);obtain⟨e1,e2,e3,e4,e5⟩:=RnI.st hB hfl j1 j0.1 (by omega);obtain⟨d1,d2,d3,d4,d5,d6,d7⟩:=sv_at hB e1 e2;refine hS.regS [20,fx 200 (.agg #[vi (gtD (rnTo q g) x28.toNat).1,vi (gtD (rnTo q g) x28.toNat).2.1,vb (gtD (rnTo q g) x28.toNat).2.2]),0,300] [3,26,27,28] fun ν14=>seg [(6,pt (ν14 0) 0)] [(0,none),(1,none),(2,none),(3,some ((ν14 0),.cells [vi (gtD (rnTo q g) x28.toNat).1,vi (gtD (rnTo q g) x28.toNat).2.1,vb (gtD (rnTo q g) x28.toNat).2.2] 41))] [.e (ν14 0),.e (ν14 0),.e (ν14 0),.p ((.agg #[((rnV (gtD (rnTo q g)) o25) (o25+Int.toNat x28*3)),((rnV (gtD (rnTo q g)) o25) (o25+Int.toNat x28*3+1)),((rnV (gtD (rnTo q g)) o25) (o25+Int.toNat x28*3+2))]:Value)=.agg #[vi (gtD (rnTo q g) x28.toNat).1,vi (gtD (rnTo q g) x28.toNat).2.1,vb (gtD (rnTo q g) x28.toNat).2.2]),.e g24,.p (o25≤o25+Int.toNat x28*3+2∧o25+Int.toNat x28*3+2<(o25+(rnTo q g).length*3)),.e g24,.p (o25≤o25+Int.toNat x28*3+1∧o25+Int.toNat x28*3+1<(o25+(rnTo q g).length*3)),.e g24,.p (o25≤o25+Int.toNat x28*3∧o25+Int.toNat x28*3<(o25+(rnTo q g).length*3)),.p ((0:Int)≤x28∧(x28:Int)<(((rnTo q g).length:Nat):Int))] ⟨(agg3 (rnV_0 (gtD (rnTo q g)) o25 x28.toNat) (rnV_1 (gtD (rnTo q g)) o25 x28.toNat) (rnV_2 (gtD (rnTo q g)) o25 x28.toNat)),(by omega),(by omega),(by omega),(by omega),tv⟩ fun ac wd hS=>?_;refine hS.regS [0,300,20,0] [3,6,26,27,28] fun _=>seg [(34,vi (1*(2^Int.toNat (gtD (rnTo q g) x28.toNat).2.1))),(35,vi 0)] zn4 [.p ((0:Int)≤(gtD (rnTo q g) x28.toNat).2.1∧IntKind.i64.wrap (1*2^(min (Int.toNat (gtD (rnTo q g) x28.toNat).2.1) 64))=(1*(2^Int.toNat (gtD (rnTo q g) x28.toNat).2.1))),.e (ν14 0)] ⟨shl2_i64 (by omega) (by omega) (by exact pgsN_sh (by omega)),tv⟩ fun ac wd hS=>?_;refine wp_block ?_;refine St.loopC (σ:=Int×(Nat→UInt8)) (fun(x:Int×(Nat→UInt8))=>match x with|(x35,pz)=>⟨[(3,[],sc (ν4 0) 0 m.cap m.cap),(6,[],pt (ν14 0) 0),(26,[],sc g24 o25 (rnTo q g).length c23),(27,[],vi (((rnTo q g).length:Nat):Int)),(28,[],vi x28),(34,[],vi (1*(2^Int.toNat (gtD (rnTo q g) x28.toNat).2.1))),(35,[],vi x35)],[(1,.fn 0 64 dbT),((ν4 0),.row 5 m.cap m.cap (bytes pz 0)),(g24,zL (rnTo q g) o25),((ν14 0),.cells [vi (gtD (rnTo q g) x28.toNat).1,vi (gtD (rnTo q g) x28.toNat).2.1,vb (gtD (rnTo q g) x28.toNat).2.2] 41)],[],(0≤x35∧x35≤((wdQ q y:Nat):Int))∧(S3 q y (gtD (rnTo q g) x28.toNat).2.2 x35 pz)∧True,wdQ q y-Int.toNat x35⟩) (0,py) ⟨(by omega),(by exact j2.to _),trivial⟩ hS ?_;clear hS;rintro⟨x35,pz⟩ ⟨k0,k1,-⟩ ac wd hS;replace k0:0≤x35∧x35≤((wdQ q y:Nat):Int):=k0;replace k1:S3 q y (gtD (rnTo q g) x28.toNat).2.2 x35 pz:=k1;refine hS.regS [0] [3,6,26,27,28,34,35] (sg [(36,vb (decide ((x35:Int)<(1*(2^Int.toNat (gtD (rnTo q g) x28.toNat).2.1)))))] zn4 fun ac wd hS=>?_);refine wp_seq ?_;refine hS.condC (decide ((x35:Int)<(1*(2^Int.toNat (gtD (rnTo q g) x28.toNat).2.1)))) (fun hb9o hb9=>?_) (fun hb9o hb9=>?_)
   ·
    refine wp_skip ?_;refine zpt ?_;refine wp_seq ?_;refine wp_block ?_;refine hS.regS [0,0] [3,6,26,27,28,34,35] (sg [(7,vi x35)] zn4 fun ac wd hS=>?_);refine St.ordBegin [(0,1),(1,1),(2,1),(3,1),(4,1),(5,1),(6,1),(7,0),(8,1),(9,2)] [(1,.fn 0 64 dbT),((ν4 0),.row 5 m.cap m.cap (bytes pz 0)),(g24,zL (rnTo q g) o25),((ν14 0),.cells [vi (gtD (rnTo q g) x28.toNat).1,vi (gtD (rnTo q g) x28.toNat).2.1,vb (gtD (rnTo q g) x28.toNat).2.2] 41)] [0,1,2,3] hS fun wd hS=>?_;have hap:=hS.mem.pairs (Hf:=[(1,.fn 0 64 dbT),((ν4 0),.row 5 m.cap m.cap (bytes pz 0)),(g24,zL (rnTo q g) o25),((ν14 0),.cells [vi (gtD (rnTo q g) x28.toNat).1,vi (gtD (rnTo q g) x28.toNat).2.1,vb (gtD (rnTo q g) x28.toNat).2.2] 41)]) (l:=[0,1,2,3]);refine St.ordF [0,0,300,20,0,20,300] [0,1,2,3,4,5,6] [3,6,26,27,28,34,35] (rest:=[(7,0),(8,1),(9,2)]) hS hap<|segF [(38,sc (ν4 0) 0 m.cap m.cap),(43,vi (((gtD (rnTo q g) x28.toNat).1/4096)+x35)),(44,.agg #[vi (gtD (rnTo q g) x28.toNat).1,vi (gtD (rnTo q g) x28.toNat).2.1,vb (gtD (rnTo q g) x28.toNat).2.2])] [.e (ν14 0),.e (ν14 0),.e (ν14 0),.p (fit .i64 (((gtD (rnTo q g) x28.toNat).1/4096)+x35)),.p ((4096:Int)≠0∧IntKind.i64.wrap (Int.tdiv (gtD (rnTo q g) x28.toNat).1 4096)=(gtD (rnTo q g) x28.toNat).1/4096),.e (ν14 0)] ⟨zf6 (by omega),quo2 (by omega) (by omega) (by omega),tv⟩ fun ac hS=>?_;refine hS.ordC 7 91 #[.agg #[vi (gtD (rnTo q g) x28.toNat).1,vi (gtD (rnTo q g) x28.toNat).2.1,vb (gtD (rnTo q g) x28.toNat).2.2]] (cs_state (gtD (rnTo q g) x28.toNat).1 (gtD (rnTo q g) x28.toNat).2.1 (gtD (rnTo q g) x28.toNat).2.2 _) ?_;rintro _ wd ⟨rfl,hF⟩;refine⟨v8 (if(gtD (rnTo q g) x28.toNat).2.2 then 3 else 2:Int),rfl,?_⟩;replace hS:=hS.kp hF 45 (v8 (if(gtD (rnTo q g) x28.toNat).2.2 then 3 else 2:Int));clear hF;refine hS.ordV (l:=[0,1,2,3]) ?_;refine St.ordF [10] [8] [3,6,26,27,28,34,35,45] (rest:=[(9,2)]) hS hap<|segF [(46,pt (ν4 0) (Int.toNat (((gtD (rnTo q g) x28.toNat).1/4096)+x35)))] [.p ((0:Int)≤(((gtD (rnTo q g) x28.toNat).1/4096)+x35)∧((((gtD (rnTo q g) x28.toNat).1/4096)+x35):Int)<(m.cap:Int))] ⟨(by omega),tv⟩ fun ac hS=>?_;refine St.ord2 9 [100] [3,6,26,27,28,34,35] hS rfl fun _=>seg [] [(0,none),(1,some ((ν4 0),.row 5 m.cap m.cap (fun x=>if x=Int.toNat (((gtD (rnTo q g) x28.toNat).1/4096)+x35)then v8 (if(gtD (rnTo q g) x28.toNat).2.2 then 3 else 2:Int)else(bytes pz 0) x))),(2,none),(3,none)] [.e (ν4 0),.p (Int.toNat (((gtD (rnTo q g) x28.toNat).1/4096)+x35)<m.cap)] ⟨(by omega),tv⟩ fun ac wd hS=>?_;replace hS:=hS.to (hS.mem.tellR 1 (b:=(ν4 0)) (e:=5) (m:=m.cap) (tot:=m.cap) (f:=(fun x=>if x=Int.toNat (((gtD (rnTo q g) x28.toNat).1/4096)+x35)then v8 (if(gtD (rnTo q g) x28.toNat).2.2 then 3 else 2:Int)else(bytes pz 0) x)) (bytes (putF pz (Int.toNat (((gtD (rnTo q g) x28.toNat).1/4096)+x35)) (u8 (if(gtD (rnTo q g) x28.toNat).2.2 then 3 else 2:Int))) 0) (fun o ho=>by first|exact bytes_puti pz (Int.toNat (((gtD (rnTo q g) x28.toNat).1/4096)+x35)) (if(gtD (rnTo q g) x28.toNat).2.2 then 3 else 2:Int) (by first|omega|(split<;>omega)) o|(rw [Nat.mul_one,Nat.zero_add];exact bytes_puti pz (Int.toNat (((gtD (rnTo q g) x28.toNat).1/4096)+x35)) (if(gtD (rnTo q g) x28.toNat).2.2 then 3 else 2:Int) (by first|omega|(split<;>omega)) o)));refine zon ?_;refine zpb ?_;refine zpt ?_;refine hS.regC [20,0] [3,6,26,27,28,34] fun _=>seg [(35,vi (x35+1))] zn4 [.p (fit .i64 (x35+1))] ⟨zf6 (by omega),tv⟩ fun ac wd hS=>?_;exact zpt (hS.next ((x35+1),(putF pz (Int.toNat (((gtD (rnTo q g) x28.toNat).1/4096)+x35)) (u8 (if(gtD (rnTo q g) x28.toNat).2.2 then 3 else 2:Int)))) ⟨(by first|omega|assumption|(simp;done)|(simp;omega)),(by exact k1.st k0.1 (by omega) rfl),tv⟩ (by dsimp only;omega))
   ·
    refine wp_exit ?_;refine zpe ?_;refine zpe ?_;refine zph ?_;refine zpb ?_;refine zpt ?_;refine hS.regC [20,0] [3,26,27] fun _=>seg [(28,vi (x28+1))] zn3 [.p (fit .i64 (x28+1))] ⟨zf6 (by omega),tv⟩ fun ac wd hS=>?_;exact zpt (hS.next ((x28+1),pz,(y+wdQ q y)) ⟨(by first|omega|assumption|(simp;done)|(simp;omega)),(by exact e4),(by exact k1.fin hB.tl e2 d7 (by omega)),tv⟩ (by dsimp only;omega))
  ·
   refine wp_exit ?_;refine zpe ?_;refine zpe ?_;refine zph ?_;refine zpt ?_;refine hS.regS [0,0] [] (sg [(2,sc (ν4 0) 0 m.cap m.cap)] zn2 fun ac wd hS=>?_);refine wp_ret ?_;refine St.retC 0 hS (sc (ν4 0) 0 m.cap m.cap) [] tv fun hw=>?_;refine⟨(ν4 0),m.cap,py,retd rfl,?_,((hw.getm 1 (ν4 0) (.row 5 m.cap m.cap (bytes py 0))).resolve_right (fun h=>h)),(HE.fn_hi (by omega) (HE.of_row (hw.get 1 (ν4 0) (.row 5 m.cap m.cap (bytes py 0))) (fun _ _=>rfl))),hw.fr0⟩
   all_goals (first|rfl|omega|(rw [←RnI.end_ hB hfl j1 (by omega)];exact j2))
theorem cs_States_nil (w:World):
    Calls Tryz.prog 42 #[pnil] w fun e w'=>e=.returned vnil∧Fr w w' no no:=by
 refine enter (args:=[pnil]) (D:=no) (A:=[]) Tryz.func42 rfl 50 rfl [] (WS.startL trivial) fun ac hS=>?_;refine hS.regS [0] [0] (sg [] [] fun ac wd hS=>?_);refine wp_seq ?_;refine hS.regS [0,0] [0] (sg [(9,vb true)] [] fun ac wd hS=>?_);refine hS.condT ?_;refine hS.regS [0] [] (sg [(2,vnil)] [] fun ac wd hS=>?_);refine wp_ret ?_;refine zpr ?_;refine St.retC 0 hS vnil [] tv fun hw=>?_;refine⟨retd rfl,hw.fr0⟩
theorem cs_Count (b:Nat)(F:Nat→Prop)(m:AM)(bb:Nat)(N:Nat)(what:Int)(g:Nat)(r:Int)(q:List Tg)(Q:Nat→List Int)(w:World)(hr:(arR b F m).R w)(hh0:HE.holds w 1 (.fn 0 64 dbT))(hh1:HE.holds w bb (.fn 0 12 (roF (zbx b N))))(hB:Bdy m N g r q Q)(hfl:FullG g q)(hw:0≤what∧what≤255):
    Calls Tryz.prog 41 #[pt bb 0,v8 what] w fun e w'=>e=.returned (vi ((cntQ q g what m.cap:Nat):Int))∧(((cntQ q g what m.cap:Nat):Int)≤(m.cap:Int))∧Fr w w' no no:=by
 have hcap:=hB.bm.cap;have hcn:=hB.bm.cn;have hnb:=hB.bm.nb;have hcq:=cntQ_le q g what m.cap;refine enter (args:=[pt bb 0,v8 what]) (D:=no) (A:=[]) Tryz.func41 rfl 22 rfl [(1,.fn 0 64 dbT),(bb,.fn 0 12 (roF (zbx b N)))] (WS.startL ⟨⟨rfl,hh0⟩,⟨rfl,hh1⟩,trivial⟩) fun ac hS=>?_;refine hS.regS [0] [0,1] (sg [] zn2 fun ac wd hS=>?_);refine hS.regS [0] [0,1] (sg [(5,vi 0)] zn2 fun ac wd hS=>?_);refine wp_seq ?_;refine zwq ?_;refine hS.opsC 1 [0] [1,5] (sg [(8,pt bb 0)] zn2 fun ac wd hS=>?_);refine hS.callC 42 #[pt bb 0] (cs_States b F m bb N g r q Q _ (Res.keep hr hS.mem.fr) (hS.mem.get 0 1 (.fn 0 64 dbT)) (hS.mem.get 1 bb (.fn 0 12 (roF (zbx b N)))) (by exact hB) (by exact hfl)) ?_;rintro _ wd ⟨g21,c22,fs3,rfl,hfs4,hog0,hoh0,hF⟩;have ho5:w.heap.size≤g21:=Nat.le_trans hS.mem.fr.size hog0;refine⟨sc g21 0 m.cap c22,rfl,?_⟩;replace hS:=(hS.to (hS.mem.outs hF [(g21,.fn 0 (0+m.cap) (bytes fs3 0))] ⟨⟨rfl,hoh0,.inr hog0⟩,trivial⟩)).put (d:=9) (v:=sc g21 0 m.cap c22) (by decide);clear hF;refine hS.opsC 2 [0,0] [1,5,9] (sg [(10,vi (m.cap:Int)),(11,vi 0)] [(0,none),(2,none)] fun ac wd hS=>?_);refine zlq ?_;refine wp_block ?_;refine St.loopC (σ:=Int×Int) (fun(x:Int×Int)=>match x with|(x5,x11)=>⟨[(1,[],v8 what),(5,[],vi x5),(9,[],sc g21 0 m.cap c22),(10,[],vi (m.cap:Int)),(11,[],vi x11)],[(1,.fn 0 64 dbT),(g21,.fn 0 (0+m.cap) (bytes fs3 0))],[],(0≤x11∧x11≤(m.cap:Int))∧(x5=((cntW fs3 what x11.toNat:Nat):Int))∧True,m.cap-Int.toNat x11⟩) (0,0) ⟨(by first|omega|rfl),(by first|omega|rfl),trivial⟩ hS ?_;clear hS;rintro⟨x5,x11⟩ ⟨i0,i1,-⟩ ac wd hS;replace i0:0≤x11∧x11≤(m.cap:Int):=i0;replace i1:x5=((cntW fs3 what x11.toNat:Nat):Int):=i1;have hcl:=cntW_le fs3 what x11.toNat;refine hS.regS [0] [1,5,9,10,11] (sg [(12,vb (decide ((x11:Int)<(m.cap:Int))))] zn2 fun ac wd hS=>?_);refine wp_seq ?_;refine hS.condC (decide ((x11:Int)<(m.cap:Int))) (fun hb6o hb6=>?_) (fun hb6o hb6=>?_)
 ·
  refine wp_skip ?_;refine zpt ?_;refine wp_seq ?_;refine wp_block ?_;refine hS.regS [10,fx 100 (v8 (((fs3 x11.toNat).toNat:Nat):Int)),0] [1,5,9,10,11] fun _=>seg [(7,v8 (((fs3 x11.toNat).toNat:Nat):Int))] zn2 [.p ((((bytes fs3 0) x11.toNat):Value)=v8 (((fs3 x11.toNat).toNat:Nat):Int)),.e g21,.p (0≤Int.toNat x11∧Int.toNat x11<(0+m.cap)),.p ((0:Int)≤x11∧(x11:Int)<(m.cap:Int))] ⟨(bytes_abs fs3 x11.toNat),(by omega),(by omega),tv⟩ fun ac wd hS=>?_;refine hS.regS [0,0,0] [1,5,9,10,11] (sg [(17,vb (((((fs3 x11.toNat).toNat:Nat):Int):Int)==what))] zn2 fun ac wd hS=>?_);refine hS.condC (((((fs3 x11.toNat).toNat:Nat):Int):Int)==what) (fun hb7o hb7=>?_) (fun hb7o hb7=>?_)
  ·
   have hc9:=hb7o;refine hS.regC [0,20,0] [1,9,10,11] fun _=>seg [(5,vi (x5+1))] zn2 [.p (fit .i64 (x5+1))] ⟨zf6 (by omega),tv⟩ fun ac wd hS=>?_;refine zpb ?_;refine zpt ?_;refine hS.regC [20,0] [1,5,9,10] fun _=>seg [(11,vi (x11+1))] zn2 [.p (fit .i64 (x11+1))] ⟨zf6 (by omega),tv⟩ fun ac wd hS=>?_;exact zpt (hS.next ((x5+1),(x11+1)) ⟨(by first|omega|assumption|(simp;done)|(simp;omega)),(by rw [cntW_st i0.1,hc9,i1];first|rfl|simp),tv⟩ (by dsimp only;omega))
  ·
   have hc9:=hb7o;refine wp_skip ?_;refine zpb ?_;refine zpt ?_;refine hS.regC [20,0] [1,5,9,10] fun _=>seg [(11,vi (x11+1))] zn2 [.p (fit .i64 (x11+1))] ⟨zf6 (by omega),tv⟩ fun ac wd hS=>?_;exact zpt (hS.next (x5,(x11+1)) ⟨(by first|omega|assumption|(simp;done)|(simp;omega)),(by rw [cntW_st i0.1,hc9,i1];first|rfl|simp),tv⟩ (by dsimp only;omega))
 ·
  refine wp_exit ?_;refine zpe ?_;refine zpe ?_;refine zph ?_;refine zpt ?_;refine hS.regS [0,0] [] (sg [(4,vi x5)] [(0,none)] fun ac wd hS=>?_);refine wp_ret ?_;refine St.retC 0 hS (vi x5) [] tv fun hw=>?_;refine⟨retd (vint ?_),?_,hw.fr0⟩
  all_goals (first|rfl|omega|(rw [i1,show Int.toNat x11=m.cap by omega,cntW_q (by assumption)]))
theorem cs_Largest (b:Nat)(F:Nat→Prop)(m:AM)(bb:Nat)(N:Nat)(g:Nat)(r:Int)(q:List Tg)(Q:Nat→List Int)(w:World)(hr:(arR b F m).R w)(hh0:HE.holds w 1 (.fn 0 64 dbT))(hh1:HE.holds w bb (.fn 0 12 (roF (zbx b N))))(hB:Bdy m N g r q Q)(hfl:FullG g q):
    Calls Tryz.prog 48 #[pt bb 0] w fun e w'=>∃(bk:Int) (bo:Bool),e=.returned (.tuple #[vi bk,vb bo])∧LgP q bk bo∧Fr w w' no no:=by
 have hcn:=hB.bm.cn;have hnb:=hB.bm.nb;have hrl:=rnTo_len q g;refine enter (args:=[pt bb 0]) (D:=no) (A:=[]) Tryz.func48 rfl 25 rfl [(1,.fn 0 64 dbT),(bb,.fn 0 12 (roF (zbx b N)))] (WS.startL ⟨⟨rfl,hh0⟩,⟨rfl,hh1⟩,trivial⟩) fun ac hS=>?_;refine hS.regS [0,0] [0] (sg [] zn2 fun ac wd hS=>?_);refine hS.regS [0,0] [0] (sg [(4,vi 0),(5,vb false)] zn2 fun ac wd hS=>?_);refine wp_seq ?_;refine zwq ?_;refine hS.opsC 1 [0] [4,5] (sg [(8,pt bb 0)] zn2 fun ac wd hS=>?_);refine hS.callC 17 #[pt bb 0] (bu_Runs b F m bb N g r q Q _ (Res.keep hr hS.mem.fr) (hS.mem.get 0 1 (.fn 0 64 dbT)) (hS.mem.get 1 bb (.fn 0 12 (roF (zbx b N)))) (by exact hB) (by exact hfl)) ?_;rintro _ wd ⟨ao21,c22,g23,o24,rfl,hv25,hog0,hoh0,hF⟩;have ho6:g23=1∨w.heap.size≤g23:=by have:=hS.mem.fr.size;have:w.heap.size≤_:=this;omega
 refine⟨.slice ao21 (rnTo q g).length c22,rfl,?_⟩;replace hS:=(hS.to (hS.mem.outs hF [(g23,zL (rnTo q g) o24)] ⟨⟨rfl,hoh0,(fun q_=>q_.elim (fun e=>.inl ⟨0,.fn 0 64 dbT,by rw [e];as_aux_lemma=>kernel_rfl,rfl⟩) (fun q_=>.inr q_)) hog0⟩,trivial⟩)).put (d:=9) (v:=.slice ao21 (rnTo q g).length c22) (by decide);clear hF;refine hS.opsC 2 [0,0] [4,5,9] (sg [(10,vi (((rnTo q g).length:Nat):Int)),(11,vi 0)] [(0,none),(2,none)] fun ac wd hS=>?_);refine zlq ?_;refine wp_block ?_;refine St.loopC (σ:=Int×Bool×Int) (fun(x:Int×Bool×Int)=>match x with|(x4,x5,x11)=>⟨[(4,[],vi x4),(5,[],vb x5),(9,[],.slice ao21 (rnTo q g).length c22),(10,[],vi (((rnTo q g).length:Nat):Int)),(11,[],vi x11)],[(1,.fn 0 64 dbT),(g23,zL (rnTo q g) o24)],[],(0≤x11∧x11≤((rnTo q g).length:Int))∧(((x4,x5):Int×Bool)=lgF ((rnTo q g).take x11.toNat))∧True,(rnTo q g).length-Int.toNat x11⟩) (0,false,0) ⟨(by first|omega|rfl),(by first|omega|rfl),trivial⟩ hS ?_;clear hS;rintro⟨x4,x5,x11⟩ ⟨i0,i1,-⟩ ac wd hS;replace i0:0≤x11∧x11≤((rnTo q g).length:Int):=i0;replace i1:((x4,x5):Int×Bool)=lgF ((rnTo q g).take x11.toNat):=i1;refine hS.regS [0] [4,5,9,10,11] (sg [(12,vb (decide ((x11:Int)<(((rnTo q g).length:Nat):Int))))] zn2 fun ac wd hS=>?_);refine wp_seq ?_;refine hS.condC (decide ((x11:Int)<(((rnTo q g).length:Nat):Int))) (fun hb7o hb7=>?_) (fun hb7o hb7=>?_)
 ·
  refine wp_skip ?_;refine zpt ?_;refine wp_seq ?_;refine wp_block ?_;obtain rfl:ao21=some ⟨g23,o24,none⟩:=Or.resolve_left hv25 (by omega);refine hS.regS [20,fx 100 (.agg #[vi (gtD (rnTo q g) x11.toNat).1,vi (gtD (rnTo q g) x11.toNat).2.1,vb (gtD (rnTo q g) x11.toNat).2.2]),0,200] [4,5,9,10,11] fun ν6=>seg [(7,pt (ν6 0) 0)] [(0,none),(1,none),(2,some ((ν6 0),.cells [vi (gtD (rnTo q g) x11.toNat).1,vi (gtD (rnTo q g) x11.toNat).2.1,vb (gtD (rnTo q g) x11.toNat).2.2] 41))] [.e (ν6 0),.e (ν6 0),.e (ν6 0),.p ((.agg #[((rnV (gtD (rnTo q g)) o24) (o24+Int.toNat x11*3)),((rnV (gtD (rnTo q g)) o24) (o24+Int.toNat x11*3+1)),((rnV (gtD (rnTo q g)) o24) (o24+Int.toNat x11*3+2))]:Value)=.agg #[vi (gtD (rnTo q g) x11.toNat).1,vi (gtD (rnTo q g) x11.toNat).2.1,vb (gtD (rnTo q g) x11.toNat).2.2]),.e g23,.p (o24≤o24+Int.toNat x11*3+2∧o24+Int.toNat x11*3+2<(o24+(rnTo q g).length*3)),.e g23,.p (o24≤o24+Int.toNat x11*3+1∧o24+Int.toNat x11*3+1<(o24+(rnTo q g).length*3)),.e g23,.p (o24≤o24+Int.toNat x11*3∧o24+Int.toNat x11*3<(o24+(rnTo q g).length*3)),.p ((0:Int)≤x11∧(x11:Int)<(((rnTo q g).length:Nat):Int))] ⟨(agg3 (rnV_0 (gtD (rnTo q g)) o24 x11.toNat) (rnV_1 (gtD (rnTo q g)) o24 x11.toNat) (rnV_2 (gtD (rnTo q g)) o24 x11.toNat)),(by omega),(by omega),(by omega),(by omega),tv⟩ fun ac wd hS=>?_;refine hS.regS [0,200,0] [4,5,7,9,10,11] fun _=>seg [(17,vb (!(gtD (rnTo q g) x11.toNat).2.2))] zn3 [.e (ν6 0)] tv fun ac wd hS=>?_;refine hS.condC (!(gtD (rnTo q g) x11.toNat).2.2) (fun hb8o hb8=>?_) (fun hb8o hb8=>?_)
  ·
   have hn9:=hb8o;refine hS.regC [0,0,200,0,0,0] [9,10,11] fun _=>seg [(4,vi (imax x4 (gtD (rnTo q g) x11.toNat).2.1)),(5,vb true)] zn2 [.e (ν6 0)] tv fun ac wd hS=>?_;refine zpb ?_;refine zpt ?_;refine hS.regC [20,0] [4,5,9,10] fun _=>seg [(11,vi (x11+1))] zn2 [.p (fit .i64 (x11+1))] ⟨zf6 (by omega),tv⟩ fun ac wd hS=>?_;exact zpt (hS.next ((imax x4 (gtD (rnTo q g) x11.toNat).2.1),true,(x11+1)) ⟨(by first|omega|assumption|(simp;done)|(simp;omega)),(by first|exact lg_y i1 i0.1 (by omega) hn9|exact lg_n i1 i0.1 (by omega) hn9),tv⟩ (by dsimp only;omega))
  ·
   have hn9:=hb8o;refine wp_skip ?_;refine zpb ?_;refine zpt ?_;refine hS.regC [20,0] [4,5,9,10] fun _=>seg [(11,vi (x11+1))] zn2 [.p (fit .i64 (x11+1))] ⟨zf6 (by omega),tv⟩ fun ac wd hS=>?_;exact zpt (hS.next (x4,x5,(x11+1)) ⟨(by first|omega|assumption|(simp;done)|(simp;omega)),(by first|exact lg_y i1 i0.1 (by omega) hn9|exact lg_n i1 i0.1 (by omega) hn9),tv⟩ (by dsimp only;omega))
 ·
  refine wp_exit ?_;refine zpe ?_;refine zpe ?_;refine zph ?_;refine zpt ?_;refine hS.regS [0,0,0,0] [] (sg [(2,vi x4),(3,vb x5)] [(0,none)] fun ac wd hS=>?_);refine wp_ret ?_;refine St.retC 0 hS (.tuple #[vi x4,vb x5]) [] tv fun hw=>?_;refine⟨x4,x5,retd rfl,?_,hw.fr0⟩
  all_goals (first|rfl|exact lg_fin hB (by omega) i1)
theorem cs_Can (b:Nat)(F:Nat→Prop)(m:AM)(bb:Nat)(N:Nat)(k:Int)(g:Nat)(r:Int)(q:List Tg)(Q:Nat→List Int)(w:World)(hr:(arR b F m).R w)(hh0:HE.holds w 1 (.fn 0 64 dbT))(hh1:HE.holds w bb (.fn 0 12 (roF (zbx b N))))(hB:Bdy m N g r q Q)(hfl:FullG g q):
    Calls Tryz.prog 45 #[pt bb 0,vi k] w fun e w'=>∃(cb:Bool),e=.returned (vb cb)∧CanP N q g k cb∧Fr w w' no no:=by
 have hcap:=hB.bm.cap;have hcn:=hB.bm.cn;have hnb:=hB.bm.nb;refine enter (args:=[pt bb 0,vi k]) (D:=no) (A:=[]) Tryz.func45 rfl 53 rfl [(1,.fn 0 64 dbT),(bb,.fn 0 12 (roF (zbx b N)))] (WS.startL ⟨⟨rfl,hh0⟩,⟨rfl,hh1⟩,trivial⟩) fun ac hS=>?_;refine hS.regS [0] [0,1] (sg [] zn2 fun ac wd hS=>?_);refine wp_seq ?_;refine hS.regS [0,0,0,1,1,60,0,3,3,80] [0,1] fun _=>seg [(18,vb ((decide ((k:Int)<0))||(decide ((10:Int)<k))))] zn2 [.t false,.t false,.t false] tv fun ac wd hS=>?_;refine hS.condC ((decide ((k:Int)<0))||(decide ((10:Int)<k))) (fun hb1o hb1=>?_) (fun hb1o hb1=>?_)
 ·
  have hbd:gwBad k=true:=hb1o;refine hS.regS [0] [] (sg [(4,vb false)] [(0,none)] fun ac wd hS=>?_);refine wp_ret ?_;refine zpr ?_;refine St.retC 0 hS (vb false) [] tv fun hw=>?_;refine⟨false,retd rfl,?_,hw.fr0⟩
  all_goals (first|rfl|exact can_bad hbd|exact can_big hB hbd (by assumption) hb9|exact can_fit hbd hno hcap hup rfl)
 ·
  have hbd:gwBad k=false:=hb1o;have hk10:=gr_bad hbd;have hpw:=pw_bd hk10;have hup:=can_up (g:=g) hk10.1;have huf:=upG_facts g k;refine wp_skip ?_;refine zpt ?_;refine wp_seq ?_;refine zwq ?_;refine hS.opsC 1 [0] [0,1] (sg [(20,pt bb 0)] zn2 fun ac wd hS=>?_);refine hS.callC 48 #[pt bb 0] (cs_Largest b F m bb N g r q Q _ (Res.keep hr hS.mem.fr) (hS.mem.get 0 1 (.fn 0 64 dbT)) (hS.mem.get 1 bb (.fn 0 12 (roF (zbx b N)))) (by exact hB) (by exact hfl)) ?_;rintro _ wd ⟨bk2,bo3,rfl,hLg4,hF⟩;refine⟨.tuple #[vi bk2,vb bo3],rfl,?_⟩;replace hS:=hS.kp hF 21 (.tuple #[vi bk2,vb bo3]);clear hF;refine hS.opsC 5 [0,0,0,0,0] [0,1] (sg [(5,vi bk2),(6,vb bo3)] zn2 fun ac wd hS=>?_);refine zlq ?_;refine hS.regS [0,0,3,3,3,80] [0,1] (sg [(29,vb (bo3&&(decide ((k:Int)≤bk2))))] zn2 fun ac wd hS=>?_);refine hS.condC (bo3&&(decide ((k:Int)≤bk2))) (fun hb5o hb5=>?_) (fun hb5o hb5=>?_)
  ·
   have hb9:=hb5o;refine hS.regS [0] [] (sg [(4,vb true)] [(0,none)] fun ac wd hS=>?_);refine wp_ret ?_;refine zpr ?_;refine St.retC 0 hS (vb true) [] tv fun hw=>?_;refine⟨true,retd rfl,?_,hw.fr0⟩
   all_goals (first|rfl|exact can_bad hbd|exact can_big hB hbd (by assumption) hb9|exact can_fit hbd hno hcap hup rfl)
  ·
   have hno:=can_no hbd (by assumption) hb5o;refine wp_skip ?_;refine zpt ?_;refine hS.regS [0,20,0] [0] fun _=>seg [(7,vi (1*(2^Int.toNat k)))] zn2 [.p ((0:Int)≤k∧IntKind.i64.wrap (1*2^(min k.toNat 64))=(1*(2^Int.toNat k)))] ⟨shl2_i64 (by omega) (by omega) (by exact pgsN_sh (by omega)),tv⟩ fun ac wd hS=>?_;refine zwq ?_;refine hS.opsC 1 [0] [0,7] (sg [(32,pt bb 0)] zn2 fun ac wd hS=>?_);refine hS.call0 24 #[pt bb 0] 33 (bu_Grown b F m bb N g r q Q _ (Res.keep hr hS.mem.fr) (hS.mem.get 1 bb (.fn 0 12 (roF (zbx b N)))) (by exact hB)) fun ac wd hS=>?_;refine hS.opsC 8 [0,20,20,0,20,0,20,0] [0,7] fun _=>seg [(8,vi (((((g:Int)+(1*(2^Int.toNat k)))-1)/(1*(2^Int.toNat k)))*(1*(2^Int.toNat k))))] zn2 [.p (fit .i64 (((((g:Int)+(1*(2^Int.toNat k)))-1)/(1*(2^Int.toNat k)))*(1*(2^Int.toNat k)))),.p (((1*(2^Int.toNat k)):Int)≠0∧IntKind.i64.wrap (Int.tdiv (((g:Int)+(1*(2^Int.toNat k)))-1) (1*(2^Int.toNat k)))=(((g:Int)+(1*(2^Int.toNat k)))-1)/(1*(2^Int.toNat k))),.p (fit .i64 (((g:Int)+(1*(2^Int.toNat k)))-1)),.p (fit .i64 ((g:Int)+(1*(2^Int.toNat k))))] ⟨zf6 (by omega),quo2 (by omega) (by omega) (by omega),zf6 (by omega),zf6 (by omega),tv⟩ fun ac wd hS=>?_;refine zlq ?_;refine St.ordBeginS [(0,1),(2,1),(4,1),(6,1),(7,1),(8,1),(9,1),(1,0),(3,1),(5,1),(10,0),(11,1),(12,1)] [(1,.fn 0 64 dbT),(bb,.fn 0 12 (roF (zbx b N)))] [0,1] hS fun wd hS=>?_;have hap:=hS.mem.pairs (Hf:=[(1,.fn 0 64 dbT),(bb,.fn 0 12 (roF (zbx b N)))]) (l:=[0,1]);refine St.ordF [0,0,0,0,0,0,100] [0,2,4,6,7,8,9] [] (rest:=[(1,0),(3,1),(5,1),(10,0),(11,1),(12,1)]) hS hap<|segF [(41,pt bb 0),(43,vi (((((g:Int)+(1*(2^Int.toNat k)))-1)/(1*(2^Int.toNat k)))*(1*(2^Int.toNat k)))),(45,vi (1*(2^Int.toNat k))),(50,pt b 0)] [.e bb,.p (0≤0∧0<12)] ⟨(by decide),tv⟩ fun ac hS=>?_;refine hS.ordC 1 16 #[pt bb 0] (bu_Base bb b N _ (hS.mem.get 1 bb (.fn 0 12 (roF (zbx b N))))) ?_;rintro _ wd ⟨rfl,hF⟩;refine⟨vi 1,rfl,?_⟩;replace hS:=hS.kp hF 42 (vi 1);clear hF;refine hS.ordV (l:=[0,1]) ?_;refine St.ordF [20,20] [3,5] [50] (rest:=[(10,0),(11,1),(12,1)]) hS hap<|segF [(46,vi ((1+(((((g:Int)+(1*(2^Int.toNat k)))-1)/(1*(2^Int.toNat k)))*(1*(2^Int.toNat k))))+(1*(2^Int.toNat k))))] [.p (fit .i64 ((1+(((((g:Int)+(1*(2^Int.toNat k)))-1)/(1*(2^Int.toNat k)))*(1*(2^Int.toNat k))))+(1*(2^Int.toNat k)))),.p (fit .i64 (1+(((((g:Int)+(1*(2^Int.toNat k)))-1)/(1*(2^Int.toNat k)))*(1*(2^Int.toNat k)))))] ⟨zf6 (by omega),zf6 (by omega),tv⟩ fun ac hS=>?_;refine hS.ordC 10 44 #[pt b 0] (ar_Cap b F m _ (Res.keep hr hS.mem.fr)) ?_;rintro _ wd ⟨rfl,hF⟩;refine⟨vi (m.cap:Int),rfl,?_⟩;replace hS:=hS.kp hF 51 (vi (m.cap:Int));clear hF;refine hS.ordV (l:=[0,1]) ?_;refine St.ordF [0,0] [11,12] [] (rest:=[]) hS hap<|segF [(4,vb (decide ((((1+(((((g:Int)+(1*(2^Int.toNat k)))-1)/(1*(2^Int.toNat k)))*(1*(2^Int.toNat k))))+(1*(2^Int.toNat k))):Int)≤(m.cap:Int))))] [] tv fun ac hS=>?_;refine zon ?_;refine wp_ret ?_;refine St.retC 0 hS (vb (decide ((((1+(((((g:Int)+(1*(2^Int.toNat k)))-1)/(1*(2^Int.toNat k)))*(1*(2^Int.toNat k))))+(1*(2^Int.toNat k))):Int)≤(m.cap:Int)))) [] tv fun hw=>?_;refine⟨(decide ((((1+(((((g:Int)+(1*(2^Int.toNat k)))-1)/(1*(2^Int.toNat k)))*(1*(2^Int.toNat k))))+(1*(2^Int.toNat k))):Int)≤(m.cap:Int))),retd rfl,?_,hw.fr0⟩
   all_goals (first|rfl|exact can_bad hbd|exact can_big hB hbd (by assumption) hb9|exact can_fit hbd hno hcap hup rfl)
theorem cs_Can_nil (k:Int)(w:World):
    Calls Tryz.prog 45 #[pnil,vi k] w fun e w'=>e=.returned (vb false)∧Fr w w' no no:=by
 refine enter (args:=[pnil,vi k]) (D:=no) (A:=[]) Tryz.func45 rfl 53 rfl [] (WS.startL trivial) fun ac hS=>?_;refine hS.regS [0] [0,1] (sg [] [] fun ac wd hS=>?_);refine wp_seq ?_;refine hS.regS [0,0,0,2,2,70,0,2,2,70] [0,1] fun _=>seg [(18,vb true)] [] [.t true,.t true,.t true,.t true,.t true,.t true] tv fun ac wd hS=>?_;refine hS.condT ?_;refine hS.regS [0] [] (sg [(4,vb false)] [] fun ac wd hS=>?_);refine wp_ret ?_;refine zpr ?_;refine St.retC 0 hS (vb false) [] tv fun hw=>?_;refine⟨retd rfl,hw.fr0⟩
theorem eq_u8 (g1:Nat)(o1:Nat)(c1:Nat)(n1:Nat)(g2:Nat)(o2:Nat)(c2:Nat)(n2:Nat)(f1:Nat→UInt8)(f2:Nat→UInt8)(w:World)(hh0:HE.holds w g1 (.fn o1 (o1+n1) (bytes f1 o1)))(hh1:HE.holds w g2 (.fn o2 (o2+n2) (bytes f2 o2)))(hn:n1=n2∧n1≤100)(he:∀i,i<n1→(f1 i).toNat=(f2 i).toNat):
    Calls Tryz.prog 50 #[sc g1 o1 n1 c1,sc g2 o2 n2 c2] w fun e w'=>e=.returned (vb true)∧Fr w w' no no:=by
 refine enter (args:=[sc g1 o1 n1 c1,sc g2 o2 n2 c2]) (D:=no) (A:=[]) Tryz.func50 rfl 26 rfl [(g1,.fn o1 (o1+n1) (bytes f1 o1)),(g2,.fn o2 (o2+n2) (bytes f2 o2))] (WS.startL ⟨⟨rfl,hh0⟩,⟨rfl,hh1⟩,trivial⟩) fun ac hS=>?_;refine hS.regS [0] [0,1] (sg [] zn2 fun ac wd hS=>?_);refine wp_seq ?_;refine hS.regS [0,0,0,0,0] [0,1] (sg [(10,vb (((n1:Int):Int)!=(n2:Int)))] zn2 fun ac wd hS=>?_);refine hS.condK (((n1:Int):Int)!=(n2:Int)) false (by(rw [hn.1];exact bne_self_eq_false _)) ?_
 show Code.wp _ _ _ _ _
 refine wp_skip ?_;refine zpt ?_;refine wp_seq ?_;refine hS.regS [0,0,0] [0,1] (sg [(12,vi (n1:Int)),(13,vi 0)] zn2 fun ac wd hS=>?_);refine wp_block ?_;refine St.loopC (σ:=Int) (fun(x13:Int)=>⟨[(0,[],sc g1 o1 n1 c1),(1,[],sc g2 o2 n2 c2),(12,[],vi (n1:Int)),(13,[],vi x13)],[(g1,.fn o1 (o1+n1) (bytes f1 o1)),(g2,.fn o2 (o2+n2) (bytes f2 o2))],[],(0≤x13∧x13≤(n1:Int))∧True,n1-Int.toNat x13⟩) 0 ⟨(by omega),trivial⟩ hS ?_;clear hS;rintro x13 ⟨i0,-⟩ ac wd hS;replace i0:0≤x13∧x13≤(n1:Int):=i0;refine hS.regS [0] [0,1,12,13] (sg [(14,vb (decide ((x13:Int)<(n1:Int))))] zn2 fun ac wd hS=>?_);refine wp_seq ?_;refine hS.condC (decide ((x13:Int)<(n1:Int))) (fun hb1o hb1=>?_) (fun hb1o hb1=>?_)
 ·
  refine wp_skip ?_;refine zpt ?_;refine wp_seq ?_;refine wp_block ?_;refine hS.regS [0,0] [0,1,12,13] (sg [(5,vi x13)] zn2 fun ac wd hS=>?_);refine hS.drawS [0,0,20,fx 0 (v8 (((f1 x13.toNat).toNat:Nat):Int)),0,0,20,fx 100 (v8 (((f2 x13.toNat).toNat:Nat):Int)),0] [0,1,12,13]<|seg [(24,vb (((((f1 x13.toNat).toNat:Nat):Int):Int)!=(((f2 x13.toNat).toNat:Nat):Int)))] zn2 [.p ((((bytes f2 o2) (o2+Int.toNat x13*1)):Value)=v8 (((f2 x13.toNat).toNat:Nat):Int)),.e g2,.p (o2≤o2+Int.toNat x13*1∧o2+Int.toNat x13*1<(o2+n2)),.p ((0:Int)≤x13∧(x13:Int)<(n2:Int)),.p ((((bytes f1 o1) (o1+Int.toNat x13*1)):Value)=v8 (((f1 x13.toNat).toNat:Nat):Int)),.e g1,.p (o1≤o1+Int.toNat x13*1∧o1+Int.toNat x13*1<(o1+n1)),.p ((0:Int)≤x13∧(x13:Int)<(n1:Int))] ⟨(bytes_rel f2 o2 x13.toNat),(by omega),(by omega),(bytes_rel f1 o1 x13.toNat),(by omega),(by omega),tv⟩ fun ac wd hS=>?_;refine hS.condK (((((f1 x13.toNat).toNat:Nat):Int):Int)!=(((f2 x13.toNat).toNat:Nat):Int)) false (by(rw [he _ (by omega)];exact bne_self_eq_false _)) ?_
  show Code.wp _ _ _ _ _
  refine wp_skip ?_;refine zpb ?_;refine zpt ?_;refine hS.regC [20,0] [0,1,12] fun _=>seg [(13,vi (x13+1))] zn2 [.p (fit .i64 (x13+1))] ⟨zf6 (by omega),tv⟩ fun ac wd hS=>?_;exact zpt (hS.next (x13+1) ⟨(by first|omega|assumption|(simp;done)|(simp;omega)),tv⟩ (by dsimp only;omega))
 ·
  refine wp_exit ?_;refine zpe ?_;refine zpe ?_;refine zph ?_;refine zpt ?_;refine hS.regS [0] [] (sg [(4,vb true)] [] fun ac wd hS=>?_);refine wp_ret ?_;refine St.retC 0 hS (vb true) [] tv fun hw=>?_;refine⟨retd rfl,hw.fr0⟩
theorem law09_awake (w:World)(hh0:HE.holds w 1 (.fn 0 64 dbT)):
    Calls Tryz.prog 39 #[] w fun e w'=>e=.returned (vb true)∧Fr w w' no no:=by
 have hF9:FreshA (AM.new 9) 8 (-1):=fresh_new (by decide) (by decide);obtain⟨hB9,hfl9⟩:=hF9.bdy (by decide) (by decide);refine enter (args:=[]) (D:=no) (A:=[]) Tryz.func39 rfl 39 rfl [(1,.fn 0 64 dbT)] (WS.startL ⟨⟨rfl,hh0⟩,trivial⟩) fun ac hS=>?_;refine hS.regS [0] [] (sg [] [(0,none)] fun ac wd hS=>?_);refine zwq ?_;refine hS.callC 14 #[vi 9] (ar_New 9 _) ?_;rintro _ wd ⟨b'1,F2,rfl,hN,hF⟩;refine⟨pt b'1 0,rfl,?_⟩;replace hS:=(hS.to (hS.mem.newA hN hF)).put (d:=6) (v:=pt b'1 0) (by decide);clear hF;refine hS.callC 13 #[pt b'1 0] (bu_New_ok b'1 F2 (AM.new 9) 8 (-1) _ (hS.mem.res 0) (by exact hF9) (by decide) (by decide)) ?_;rintro _ wd ⟨bb3,F4,rfl,hA,hog0,hoh0,hnf0,hF⟩;have ho5:w.heap.size≤bb3:=Nat.le_trans hS.mem.fr.size hog0;refine⟨.tuple #[pt bb3 0,vi 0],rfl,?_⟩;replace hS:=(hS.to (hS.mem.outAT 0 rfl hA hF (g:=bb3) (z:=.fn 0 12 (roF (zbx b'1 ((8:Nat):Int)))) rfl hoh0 (.inr hog0) hnf0)).put (d:=7) (v:=.tuple #[pt bb3 0,vi 0]) (by decide);clear hF;refine hS.opsC 5 [0,0,0,0,0] [] (sg [(1,pt bb3 0),(2,vi 0)] zn2 fun ac wd hS=>?_);refine zlq ?_;refine zwq ?_;refine hS.opsC 1 [0] [1,2] (sg [(11,pt bb3 0)] zn2 fun ac wd hS=>?_);refine hS.callC 21 #[pt bb3 0,vi 0] (bu_Alloc b'1 F4 (vstM (comM (AM.new 9) 0 1) 0 256 104 8 6432341300767115597) bb3 8 0 0 (-1) (List.replicate 8 (0,0)) (fun _=>[]) _ (hS.mem.res 0) (hS.mem.get 0 1 (.fn 0 64 dbT)) (hS.mem.get 1 bb3 (.fn 0 12 (roF (zbx b'1 ((8:Nat):Int))))) (hS.mem.nF (g:=1) (r:=arR b'1 F4 (vstM (comM (AM.new 9) 0 1) 0 256 104 8 6432341300767115597)) 0 0) (hS.mem.nF (g:=bb3) (r:=arR b'1 F4 (vstM (comM (AM.new 9) 0 1) 0 256 104 8 6432341300767115597)) 1 0) (by first|exact hB9|exact hBa) (by first|exact hfl9|exact hFa)) ?_;rintro _ wd ⟨ao_6,ae_7,g28,r29,mo10,q211,Q212,F13,rfl,hB214,hF215,hA216,hK217,hA,hF⟩;refine⟨.tuple #[vi ao_6,vi ae_7],rfl,?_⟩;replace hS:=hS.sA 0 rfl hA hF 12 (.tuple #[vi ao_6,vi ae_7]);clear hF;refine hS.opsC 5 [0,0,0,0,0] [1,2] (sg [(4,vi ae_7)] zn2 fun ac wd hS=>?_);refine zlq ?_;obtain⟨ea1,ee1,eg1,er1,ht1⟩:=aw_9 hA216;rw [ea1,ee1]at hS;rw [eg1,er1]at hB214;rw [eg1]at hF215;have hBa:=hB214;have hFa:=hF215;have hca:mo10.cap=9:=hBa.bm.cap;refine zwq ?_;refine hS.call0 90 #[] 15 (law08_Awake _ (hS.mem.get 0 1 (.fn 0 64 dbT))) fun ac wd hS=>?_;refine hS.opsC 9 [0,1,1,70,0,1,1,70,0] [1] fun _=>seg [(24,vb true)] zn2 [.t true,.t true,.t true,.t true,.t true,.t true] tv fun ac wd hS=>?_;refine hS.opsC 1 [1] [1,24] fun _=>seg [(25,pt bb3 0)] zn2 [.t true] tv fun ac wd hS=>?_;refine hS.callG true 42 #[pt bb3 0] (cs_States b'1 F13 mo10 bb3 8 1 (-1) q211 Q212 _ (hS.mem.res 0) (hS.mem.get 0 1 (.fn 0 64 dbT)) (hS.mem.get 1 bb3 (.fn 0 12 (roF (zbx b'1 ((8:Nat):Int))))) (by first|exact hB9|exact hBa) (by first|exact hfl9|exact hFa)) ?_;rintro _ wd ⟨g218,c219,fs20,rfl,hfs21,hog0,hoh0,hF⟩;have ho22:w.heap.size≤g218:=Nat.le_trans hS.mem.fr.size hog0;refine⟨sc g218 0 mo10.cap c219,rfl,?_⟩;replace hS:=(hS.to (hS.mem.outs hF [(g218,.fn 0 (0+mo10.cap) (bytes fs20 0))] ⟨⟨rfl,hoh0,.inr hog0⟩,trivial⟩)).put (d:=26) (v:=sc g218 0 mo10.cap c219) (by decide);clear hF;refine hS.opsC 1 [1] [1,24,26] fun ν7=>seg [(27,sc (ν7 0) 0 9 9)] [(0,none),(1,none),(2,none),(3,some ((ν7 0),.cells [v8 1,v8 3,v8 0,v8 0,v8 0,v8 0,v8 0,v8 0,v8 0] 5))] [.t true] tv fun ac wd hS=>?_;refine hS.callG true 50 #[sc g218 0 mo10.cap c219,sc (ν7 0) 0 9 9] (eq_u8 g218 0 c219 mo10.cap (ν7 0) 0 9 9 fs20 (fun i:Nat=>if i=0 then(1:UInt8)else if i=1 then 3 else 0) _ (hS.mem.get 2 g218 (.fn 0 (0+mo10.cap) (bytes fs20 0))) (HE.of_cells (hS.mem.get 3 (ν7 0) (.cells [v8 1,v8 3,v8 0,v8 0,v8 0,v8 0,v8 0,v8 0,v8 0] 5)) (by intro o ho;(repeat (rcases o with _|o;rfl));exact absurd ho (by omega))) (by omega) (by exact fun i_ hi_=>aw_sv (by assumption) ht1 (by omega))) ?_;rintro _ wd ⟨rfl,hF⟩;refine⟨vb true,rfl,?_⟩;replace hS:=hS.kp hF 28 (vb true);clear hF;refine hS.opsC 2 [70,0] [1] fun _=>seg [(30,vb true)] zn2 [.t true] tv fun ac wd hS=>?_;refine hS.opsC 1 [1] [1,30] fun _=>seg [(31,pt bb3 0)] zn2 [.t true] tv fun ac wd hS=>?_;refine hS.callG true 45 #[pt bb3 0,vi 3] (cs_Can b'1 F13 mo10 bb3 8 3 1 (-1) q211 Q212 _ (hS.mem.res 0) (hS.mem.get 0 1 (.fn 0 64 dbT)) (hS.mem.get 1 bb3 (.fn 0 12 (roF (zbx b'1 ((8:Nat):Int))))) (by first|exact hB9|exact hBa) (by first|exact hfl9|exact hFa)) ?_;rintro _ wd ⟨cb23,rfl,hCan24,hF⟩;refine⟨vb cb23,rfl,?_⟩;replace hS:=hS.kp hF 32 (vb cb23);clear hF;refine hS.opsC 3 [1,70,0] [1] fun _=>seg [(35,vb (!cb23))] zn2 [.t true,.t true] tv fun ac wd hS=>?_;have hg25o:(!cb23)=true:=by exact can9_a hBa ht1 (by assumption)
 replace hS:=hS.fix 35 (vb true) (congrArg Value.bool hg25o);refine hS.opsC 1 [1] [35] fun _=>seg [(36,pt bb3 0)] zn2 [.t true] tv fun ac wd hS=>?_;refine hS.callG true 45 #[pt bb3 0,vi 2] (cs_Can b'1 F13 mo10 bb3 8 2 1 (-1) q211 Q212 _ (hS.mem.res 0) (hS.mem.get 0 1 (.fn 0 64 dbT)) (hS.mem.get 1 bb3 (.fn 0 12 (roF (zbx b'1 ((8:Nat):Int))))) (by first|exact hB9|exact hBa) (by first|exact hfl9|exact hFa)) ?_;rintro _ wd ⟨cb26,rfl,hCan27,hF⟩;refine⟨vb cb26,rfl,?_⟩;replace hS:=hS.kp hF 37 (vb cb26);clear hF;refine hS.opsC 2 [70,0] [] fun _=>seg [(0,vb cb26)] [(0,none)] [.t true] tv fun ac wd hS=>?_;refine zlq ?_;refine wp_ret ?_;refine St.retC 0 hS (vb cb26) [] tv fun hw=>?_;refine⟨retd (vbool ?_),hw.fr0⟩
 all_goals (first|rfl|exact can9_b (by assumption)|decide)
theorem cs_play_small (cap:Int)(ao7:Option Addr)(c7:Nat)(g7:Nat)(o7:Nat)(l:List (Int×Int×Int))(w:World)(hh0:HE.holds w 1 (.fn 0 64 dbT))(hh1:HE.holds w g7 (.fn o7 (o7+l.length*3) (a8V (gtD l) o7)))(hv7:(l.length=0∨ao7=some ⟨g7,o7,none⟩))(hAl:∀i,i<l.length→rg_a8V (gtD l i))(hl60:l.length≤60)(hz9:(imax 0 (imin cap 80))≤1):
    Calls Tryz.prog 40 #[vi cap,.slice ao7 l.length c7] w fun e w'=>e=.returned (.tuple #[pnil,.agg #[vi 0,vi 0,vi 0,vi 0,vnil],vb false])∧Fr w w' no no:=by
 have hcn:=imx_nn (imin cap 80);refine enter (args:=[vi cap,.slice ao7 l.length c7]) (D:=no) (A:=[]) Tryz.func40 rfl 54 rfl [(1,.fn 0 64 dbT),(g7,.fn o7 (o7+l.length*3) (a8V (gtD l) o7))] (WS.startL ⟨⟨rfl,hh0⟩,⟨rfl,hh1⟩,trivial⟩) fun ac hS=>?_;refine hS.regS [0,0,0] [0,1] fun ν1=>seg [(5,pt (ν1 0) 0)] [(0,none),(1,none),(2,some ((ν1 0),.cells [vi 0,vi 0,vi 0,vi 0,vnil] 34))] [] tv fun ac wd hS=>?_;refine hS.regS [0,0,0,0] [1,5] (sg [(7,vi (imax 0 (imin cap 80)))] zn3 fun ac wd hS=>?_);refine zwq ?_;refine hS.opsC 1 [0] [1,5,7] (sg [(20,vi (imax 0 (imin cap 80)))] zn3 fun ac wd hS=>?_);refine hS.callC 14 #[vi (imax 0 (imin cap 80))] (ar_New (imax 0 (imin cap 80)) _) ?_;rintro _ wd ⟨b'1,F2,rfl,hN,hF⟩;refine⟨pt b'1 0,rfl,?_⟩;replace hS:=(hS.to (hS.mem.newA hN hF)).put (d:=21) (v:=pt b'1 0) (by decide);clear hF;refine hS.call0 13 #[pt b'1 0] 22 (bu_New_small b'1 F2 (AM.new (imax 0 (imin cap 80))) _ (hS.mem.res 0) (by exact new_cap1 hz9)) fun ac wd hS=>?_;refine hS.opsC 5 [0,0,0,0,0] [1,5,7] (sg [(8,pnil),(9,vi 3)] zn3 fun ac wd hS=>?_);refine zlq ?_;refine zwq ?_;refine hS.opsC 1 [0] [1,5,8,9] (sg [(26,vi (imax 0 (imin cap 80)))] zn3 fun ac wd hS=>?_);refine hS.call0 34 #[vi (imax 0 (imin cap 80)),vi (-1)] 27 (r8_New_small (imax 0 (imin cap 80)) (-1) _ (by(have:=imx_nn (imin cap 80);omega))) fun ac wd hS=>?_;refine hS.opsC 6 [0,0,0,0,300,0] [1,5,8,9] fun ν6=>seg [(10,pt (ν6 0) 0),(11,vi 3)] [(0,none),(1,none),(2,none),(3,some ((ν6 0),.cells [vi 0,vi 0,vi 0,vi 0,vnil] 34))] [.e (ν6 0),.e (ν6 0),.e (ν6 0),.e (ν6 0),.e (ν6 0)] tv fun ac wd hS=>?_;refine zlq ?_;refine wp_seq ?_;refine hS.regS [0,0,0,2,2,70] [1,5,8,10] fun _=>seg [(35,vb true)] zn4 [.t true,.t true,.t true] tv fun ac wd hS=>?_;refine hS.condT ?_;refine hS.regS [0,0,200,0] [5] fun _=>seg [(4,pnil),(6,vb false)] [(0,none),(2,none)] [.e (ν1 0),.e (ν1 0),.e (ν1 0),.e (ν1 0),.e (ν1 0)] tv fun ac wd hS=>?_;refine wp_ret ?_;refine zpr ?_;refine St.retC 1 hS (.tuple #[pnil,.agg #[vi 0,vi 0,vi 0,vi 0,vnil],vb false]) [.e (ν1 0),.e (ν1 0),.e (ν1 0),.e (ν1 0),.e (ν1 0)] tv fun hw=>?_;refine⟨retd rfl,hw.fr0⟩
section
variable {m:AM}{N g y:Nat}{r:Int}{q q2:List Tg}{Q:Nat→List Int}{x:Int}
theorem al_can {k a e:Int}{g2:Nat}{r2:Int}{cb:Bool}(hA:AlP N g 1 q k a e g2 r2 q2)(hc:CanP N q g k cb):(e==0)=cb∧(gwBad k=false→e≠0→e=4)∧(gwBad k=true→e=2):=by
  have hw:gwBad k=false→(gwE N g 1 k=0↔gwFit N g k=true)∧(gwE N g 1 k≠0→gwE N g 1 k=4):=fun hb=>by
    unfold gwE;rw [hb];simp
  rcases hA with⟨hb,h1,_⟩|⟨hb,hn,hg,he,_⟩|⟨hb,he,gb,rb,qb,i,kk,hB,_,_,_,hf,_⟩
  · refine⟨?_,fun hb2=>absurd (hb.symm.trans hb2) (by decide),fun _=>h1⟩
    cases cb with
    |false=>rw [h1];rfl
    |true=>have:=(hc.1 rfl).1;rw [hb]at this;cases this
  · refine⟨?_,fun _ _=>he.trans ((hw hb).2 hg),fun hb2=>absurd (hb.symm.trans hb2) (by decide)⟩
    cases cb with
    |false=>exact beq_eq_false_iff_ne.2 (by rw [he];exact hg)
    |true=>
      rcases(hc.1 rfl).2 with h1|h1
      · exact absurd hn h1
      · exact absurd ((hw hb).1.2 h1) hg
  · refine⟨?_,fun _ h9=>absurd he h9,fun hb2=>absurd (hb.symm.trans hb2) (by decide)⟩
    cases cb with
    |true=>rw [he];rfl
    |false=>
      exfalso
      have hcb:=hc.2
      rcases hB with⟨_,_,rfl⟩|⟨_,hg,_⟩
      · exact Bool.false_ne_true (hcb ⟨hb,.inl fun hn=>hn kk hf.1 hf.2.1 i hf.2.2.1⟩)
      · exact Bool.false_ne_true (hcb ⟨hb,.inr ((hw hb).1.1 hg)⟩)
end
theorem WS.outNN {c:Cx}{H:Heap}{A:List Res}{w w':World}{r':Res}(h:WS c H A w)(hr:r'.R w')(hf:Fr w w' no r'.F){g:Nat}{z:HE}(hz:z.own=false)(hh:z.holds w' g)(hg:w.heap.size≤g)(hnf:¬r'.F g)
    {g2:Nat} {x:HE} (hx:x.own=false) (hh2:x.holds w' g2) (hog:(∃(i:Nat) (y:HE),H[i]? =some (g2,y)∧y.own=false)∨w.heap.size≤g2) (hnf2:¬r'.F g2):WS c (H++[(g,z),(g2,x)]) (A++[r']) w':=by
  have h1:=h.outA1 hr hf hx hh2 hog hnf2
  have:=(h.outN hr hf hz hh hg hnf).add hh2 (fun q=>by rw [hx]at q;cases q) (h1.free _ (List.mem_append.2 (.inr (List.mem_singleton.2 rfl)))) (fun e he hoe e1=>by
    rcases List.mem_append.1 he with he|he
    · exact(List.pairwise_append.1 h1.apart).2.2 e he (g2,x) (List.mem_singleton.2 rfl) hoe.symm e1
    · rw [List.mem_singleton.1 he]at hoe
      rcases hoe with q|q
      · rw [hx]at q;cases q
      · rw [show z.own=true from q]at hz;cases hz)
  rw [List.append_assoc]at this;exact this
section
variable {L:List Rn}{g:Nat}{x k:Int}{f:Nat→UInt8}
def SA (g:Nat)(x:Int)(f:Nat→UInt8):Prop:=∀j:Nat,(f j).toNat=if(j:Int)<x then(if j=0 then 1 else if j≤g then 2 else 0)else 0
def SB (L:List Rn)(g:Nat)(x:Int)(f:Nat→UInt8):Prop:=∀j:Nat,(f j).toNat=if j=0 then 1 else if j≤g then(if cov (L.take x.toNat) (j-1)then 3 else 2)else 0
def SC (L:List Rn)(g:Nat)(x k:Int)(f:Nat→UInt8):Prop:=∀j:Nat,(f j).toNat=if j=0 then 1 else if j≤g then(if cov (L.take x.toNat) (j-1)||(decide ((gtD L x.toNat).1≤((j-1:Nat):Int))&&decide (((j-1:Nat):Int)<(gtD L x.toNat).1+k))then 3 else 2)else 0
theorem SA.zero:SA g 0 (fun _=>0):=fun j=>by rw [if_neg (by omega)];rfl
theorem SA.st1 (h:SA g x f)(h0:0≤x)(h1:x<1):SA g (x+1) (putF f x.toNat (u8 1)):=fun j=>by
  unfold putF
  split
  · rename_i e;rw [if_pos (by omega),if_pos (show j=0 by omega),u8_n (by omega)];rfl
  · rename_i e;rw [h j,if_neg (by omega),if_neg (by omega)]
theorem SA.st2 (h:SA g x f)(h0:¬x<1)(h1:x<1+(g:Int)):SA g (x+1) (putF f x.toNat (u8 2)):=fun j=>by
  unfold putF
  split
  · rename_i e;rw [if_pos (by omega),if_neg (show¬j=0 by omega),if_pos (show j≤g by omega),u8_n (by omega)];rfl
  · rename_i e9;rw [h j]
    by_cases e:(j:Int)<x
    · rw [if_pos e,if_pos (show(j:Int)<x+1 by omega)]
    · rw [if_neg e,if_neg (show¬(j:Int)<x+1 by omega)]
theorem SA.st3 (h:SA g x f)(h0:¬x<1)(h1:¬x<1+(g:Int)):SA g (x+1) f:=fun j=>by
  rw [h j]
  by_cases e:(j:Int)<x
  · rw [if_pos e,if_pos (show(j:Int)<x+1 by omega)]
  · rw [if_neg e]
    by_cases e2:(j:Int)<x+1
    · rw [if_pos e2,if_neg (show¬j=0 by omega),if_neg (show¬j≤g by omega)]
    · rw [if_neg e2]
theorem SA.to (h:SA g x f)(hx:(g:Int)+1≤x):SB L g 0 f:=fun j=>by
  rw [h j];have hc:cov (L.take (0:Int).toNat) (j-1)=false:=rfl;rw [hc]
  by_cases e:j=0
  · rw [if_pos (by omega),if_pos e,if_pos e]
  · rw [if_neg e,if_neg e]
    by_cases e2:j≤g
    · rw [if_pos (by omega),if_pos e2,if_pos e2];rfl
    · rw [if_neg e2,if_neg e2];split<;>rfl
theorem SB.to (h:SB L g x f):SC L g x 0 f:=fun j=>by
  rw [h j]
  have:(decide ((gtD L x.toNat).1≤((j-1:Nat):Int))&&decide (((j-1:Nat):Int)<(gtD L x.toNat).1+0))=false:=by
    by_cases e:(gtD L x.toNat).1≤((j-1:Nat):Int)
    · rw [decide_eq_false (show¬((j-1:Nat):Int)<(gtD L x.toNat).1+0 by omega)];exact Bool.and_false _
    · rw [decide_eq_false e];rfl
  rw [this,Bool.or_false]
theorem SC.st (h:SC L g x k f)(h0:0≤k)(ha:0≤(gtD L x.toNat).1)(hg:(gtD L x.toNat).1+k<(g:Int)){i:Nat}(hi:i=(1+(gtD L x.toNat).1+k).toNat):SC L g x (k+1) (putF f i (u8 3)):=fun j=>by
  have hj:=h j
  generalize (gtD L x.toNat).1=a at*
  unfold putF
  split
  · rename_i e
    rw [if_neg (show¬j=0 by omega),if_pos (show j≤g by omega),decide_eq_true (show a≤((j-1:Nat):Int) by omega),decide_eq_true (show((j-1:Nat):Int)<a+(k+1) by omega),u8_n (by omega)];rw [Bool.and_true,Bool.or_true];rfl
  · rename_i e
    rw [hj]
    by_cases e0:j=0
    · rw [if_pos e0,if_pos e0]
    · rw [if_neg e0,if_neg e0]
      have:decide (((j-1:Nat):Int)<a+(k+1))=decide (((j-1:Nat):Int)<a+k):=by
        by_cases e2:((j-1:Nat):Int)<a+k
        · rw [decide_eq_true e2,decide_eq_true (show((j-1:Nat):Int)<a+(k+1) by omega)]
        · rw [decide_eq_false e2,decide_eq_false (show¬((j-1:Nat):Int)<a+(k+1) by omega)]
      rw [this]
theorem SC.fin (h:SC L g x k f)(h0:0≤x)(h1:x<(L.length:Int))(hk:k=pgsN (gtD L x.toNat).2.1):SB L g (x+1) f:=fun j=>by
  rw [h j,take_s h0 h1,cov_app,hk]
theorem cov_tk {q:List Tg}{p:Nat}(hp:p<g)(hr:∀s,s<g→(gtD q s).1=3→pgsN (gtD q s).2=((wdQ q s:Nat):Int)):cov (tkD q g) p=tkAt q p:=by
  cases hb:tkAt q p with
  |true=>
    obtain⟨s,s1,s2⟩:=List.any_eq_true.1 hb
    simp only [Bool.and_eq_true,beq_iff_eq,decide_eq_true_eq]at s2
    have hs:=List.mem_range.1 s1;refine List.any_eq_true.2 ⟨rpE q s,tkD_in (by omega) s2.1,?_⟩;have:=hr s (by omega) s2.1
    simp only [Bool.and_eq_true,decide_eq_true_eq]
    exact⟨by show(s:Int)≤_;omega,by show(p:Int)<(s:Int)+pgsN (gtD q s).2;omega⟩
  |false=>
    cases hc:cov (tkD q g) p with
    |false=>rfl
    |true=>
      exfalso
      obtain⟨e,e1,e2⟩:=List.any_eq_true.1 hc;obtain⟨s,s1,s2,rfl⟩:=tkD_mem e1
      simp only [Bool.and_eq_true,decide_eq_true_eq]at e2
      have h1:(s:Int)≤(p:Int):=e2.1;have h2:(p:Int)<(s:Int)+pgsN (gtD q s).2:=e2.2;have:=hr s s1 s2;have:tkAt q p=true:=List.any_eq_true.2 ⟨s,List.mem_range.2 (by omega),by rw [s2];simpa using(by omega:p<s+wdQ q s)⟩;rw [hb]at this;cases this
theorem SB.fin {N:Nat}{q:List Tg}(h:SB L g x f)(hd:DC N g g q L)(hx:(L.length:Int)≤x):S2 q g f:=fun j=>by
  rw [h j,List.take_of_length_le (by omega),hd.lst];unfold sv
  by_cases e0:j=0
  · rw [if_pos e0,if_pos e0]
  · rw [if_neg e0,if_neg e0]
    by_cases e:j≤g
    · rw [if_pos e,if_pos e,cov_tk (by omega) (fun s _ _=>by unfold pgsN wdQ;rfl)]
    · rw [if_neg e,if_neg e]
theorem S2.eq {q:List Tg}{f':Nat→UInt8}(h:S2 q g f)(h':S2 q g f')(i:Nat):(f i).toNat=(f' i).toNat:=(h i).trans (h' i).symm
end
section
variable {m:AM}{N g:Nat}{r:Int}{q:List Tg}{Q:Nat→List Int}{x k bk bk':Int}{bo bo':Bool}{L:List Rn}
theorem lgF_cg:∀(L:List Rn) (a:Int×Bool),(L.map toD).foldl (fun b e=>if e.2.2 then b else(imax b.1 e.2.1,true)) a=L.foldl (fun b e=>if e.2.2 then b else(imax b.1 e.2.1,true)) a
  |[],_=>rfl
  |e::L,a=>lgF_cg L _
theorem lgF_D (q:List Tg)(g:Nat):lgF (rnP q g)=lgF (rnTo q g):=by rw [←toD_all];exact lgF_cg _ _
theorem lg_finD (h:Bdy m N g r q Q)(hx:((rnP q g).length:Int)≤x)(he:((bk,bo):Int×Bool)=lgF ((rnP q g).take x.toNat)):LgP q bk bo:=by
  have hl:(rnP q g).length=(rnTo q g).length:=by rw [←toD_all,List.length_map]
  refine lg_fin h (x:=x) (by omega) ?_;rw [he,List.take_of_length_le (by omega),List.take_of_length_le (by omega),lgF_D]
theorem lg_one (h:LgP q bk bo)(h':LgP q bk' bo')(hr:∀p kk:Nat,gtD q p=(2,(kk:Int))→kk≤10):bk=bk'∧bo=bo':=by
  rcases h with⟨a1,a2,a3⟩|⟨a1,p,kk,a2,a3,a4⟩
  · rcases h' with⟨b1,b2,b3⟩|⟨b1,p',kk',b2,b3,b4⟩
    · exact⟨a2.trans b2.symm,a1.trans b1.symm⟩
    · exact absurd b2 (a3 kk' (Nat.zero_le _) (hr _ _ b2) p')
  · rcases h' with⟨b1,b2,b3⟩|⟨b1,p',kk',b2,b3,b4⟩
    · exact absurd a2 (b3 kk (Nat.zero_le _) (hr _ _ a2) p)
    · have h1:=a4 p' kk' b2
      have h2:=b4 p kk a2;exact⟨by omega,a1.trans b1.symm⟩
theorem lg_oneB (hB:Bdy m N g r q Q)(h:LgP q bk bo)(h':LgP q bk' bo'):bk=bk'∧bo=bo':=lg_one h h' fun p kk hp=>(hB.tl.two hp).1
theorem gwE_r {N g:Nat}{k:Int} :gwE N g 1 k=gwE N g (-1) k:=by unfold gwE;split<;>rfl
theorem gwG_r {N g:Nat}{k:Int} :gwG N g 1 k=gwG N g (-1) k:=by unfold gwG;rw [gwE_r]
theorem al_conv {k a e:Int}{g2:Nat}{r2:Int}{q2:List Tg}(h:AlP N g 1 q k a e g2 r2 q2):∃r3,AlP N g (-1) q k a e g2 r3 q2:=by
  rcases h with⟨h1,h2,h3,h4,h5,h6⟩|⟨h1,h2,h3,h4,h5,h6,h7,h8⟩|⟨h1,h2,gb,rb,qb,i,kk,hB,h3,h4,h5,h6,h7,h8,h9,h10⟩
  · exact⟨_,.inl ⟨h1,h2,h3,h4,rfl,h6⟩⟩
  · exact⟨_,.inr (.inl ⟨h1,h2,by rw [←gwE_r];exact h3,by rw [←gwE_r];exact h4,h5,by rw [←gwG_r];exact h6,rfl,h8⟩)⟩
  · rcases hB with⟨b1,b2,b3⟩|⟨b1,b2,b3,b4,b5⟩
    · exact⟨_,.inr (.inr ⟨h1,h2,gb,-1,qb,i,kk,.inl ⟨b1,rfl,b3⟩,h3,h4,h5,h6,h7,h8,rfl,h10⟩)⟩
    · exact⟨_,.inr (.inr ⟨h1,h2,gb,_,qb,i,kk,.inr ⟨b1,by rw [←gwE_r];exact b2,by rw [←gwG_r];exact b3,rfl,b5⟩,h3,h4,h5,h6,h7,h8,rfl,h10⟩)⟩
theorem al_ex {c:Cx}{H:Heap}{w:World}{b bb:Nat}{F:Nat→Prop}(k:Int)(h:WS c H [arR b F m] w)(i j:Nat)(hB:Bdy m N g r q Q)(hf:FullG g q)(hi:H[i]? =some (1,.fn 0 64 dbT):=by as_aux_lemma=>kernel_rfl)
    (hj:H[j]? =some (bb,.fn 0 12 (roF (zbx b ((N:Nat):Int)))):=by as_aux_lemma=>kernel_rfl):
    ∃(a e:Int) (g2:Nat) (r2 r3:Int) (q2:List Tg),AlP N g 1 q k a e g2 r2 q2∧AlP N g (-1) q k a e g2 r3 q2:=by
  have m1:=List.mem_of_getElem? hi;have m2:=List.mem_of_getElem? hj;have n1:¬F 1:=fun hk=>h.free _ m1 (.inl hk)
  have n2:¬F bb:=fun hk=>h.free _ m2 (.inl hk)
  obtain⟨e1,w1,_,⟨F1,_,hr1,hF1⟩,_⟩:=ar_Refuse b F m 1 w (h.res 0) (by decide) [];have k1:=h.heap _ m1;have k2:=h.heap _ m2;have l1:=HE.holds.congr k1 (hF1.block _ (HE.holds.lt k1) n1);have l2:=HE.holds.congr k2 (hF1.block _ (HE.holds.lt k2) n2);have f1:¬F1 1:=fun hk=>(hF1.foot _ hk).elim n1 fun h9=>by have:(1:Nat)<w.heap.size:=HE.holds.lt k1;omega
  have f2:¬F1 bb:=fun hk=>(hF1.foot _ hk).elim n2 fun h9=>by have:bb<w.heap.size:=HE.holds.lt k2;omega
  obtain⟨e2,w2,_,⟨a,e,g2,r2,mo,q2,Q2,F2,_,_,_,hA,_⟩,_⟩:=bu_Alloc b F1 (refM m 1) bb N k g 1 q Q w1 hr1 l1 l2 f1 f2 (hB.refM 1) hf [];obtain⟨r3,hA3⟩:=al_conv hA;exact⟨a,e,g2,r2,r3,q2,hA,hA3⟩
end
theorem r9_States (ao9:Option Addr)(c9:Nat)(g9:Nat)(o9:Nat)(L:List (Int×Int×Bool))(N:Nat)(g:Nat)(rr:Int)(q:List Tg)(w:World)(hh0:HE.holds w g9 (zL L o9))(hv9:(L.length=0∨ao9=some ⟨g9,o9,none⟩))(hD:DC N g g q L)(hng:g≤N∧N≤79):
    Calls Tryz.prog 47 #[.agg #[vi 1,vi (N:Int),vi (g:Int),vi rr,.slice ao9 L.length c9]] w fun e w'=>∃(g2:Nat) (c2:Nat) (fs:Nat→UInt8),e=.returned (sc g2 0 (Int.toNat (1+(N:Int))) c2)∧S2 q g fs∧w.heap.size≤g2∧HE.holds w' g2 (.fn 0 (0+(Int.toNat (1+(N:Int)))) (bytes fs 0))∧Fr w w' no no:=by
 have hl79:=hD.len;have hc79:=hD.c79;refine enter (args:=[.agg #[vi 1,vi (N:Int),vi (g:Int),vi rr,.slice ao9 L.length c9]]) (D:=no) (A:=[]) Tryz.func47 rfl 62 rfl [(g9,zL L o9)] (WS.startL ⟨⟨rfl,hh0⟩,trivial⟩) fun ac hS=>?_;refine hS.regS [0,0] [] fun ν1=>seg [(1,pt (ν1 0) 0)] [(0,none),(1,some ((ν1 0),.cells [vi 1,vi (N:Int),vi (g:Int),vi rr,.slice ao9 L.length c9] 34))] [] tv fun ac wd hS=>?_;refine hS.regS [0,100,0,100,20,90,0] [1] fun ν2=>seg [(3,sc (ν2 0) 0 (Int.toNat (1+(N:Int))) (Int.toNat (1+(N:Int))))] [(0,none),(1,none),(2,some ((ν2 0),.row 5 (Int.toNat (1+(N:Int))) (Int.toNat (1+(N:Int))) (bytes (fun _=>0) 0)))] [.p (((1+(N:Int)):Int)=(1+(N:Int))),.p ((0:Int)≤(1+(N:Int))∧((1+(N:Int)):Int)≤2^32∧1≤64),.p (fit .i64 (1+(N:Int))),.e (ν1 0),.e (ν1 0)] ⟨rfl,(by omega),zf6 (by omega),tv⟩ fun ac wd hS=>?_;refine wp_seq ?_;refine hS.regS [0,0,0] [1,3] (sg [(15,vi (((Int.toNat (1+(N:Int))):Nat):Int)),(16,vi 0)] zn3 fun ac wd hS=>?_);refine wp_block ?_;refine St.loopC (σ:=Int×(Nat→UInt8)) (fun(x:Int×(Nat→UInt8))=>match x with|(x16,px)=>⟨[(1,[],pt (ν1 0) 0),(3,[],sc (ν2 0) 0 (Int.toNat (1+(N:Int))) (Int.toNat (1+(N:Int)))),(15,[],vi (((Int.toNat (1+(N:Int))):Nat):Int)),(16,[],vi x16)],[(g9,zL L o9),((ν1 0),.cells [vi 1,vi (N:Int),vi (g:Int),vi rr,.slice ao9 L.length c9] 34),((ν2 0),.row 5 (Int.toNat (1+(N:Int))) (Int.toNat (1+(N:Int))) (bytes px 0))],[],(0≤x16∧x16≤1+(N:Int))∧(SA g x16 px)∧True,Int.toNat (1+(N:Int)-x16)⟩) (0,(fun _=>0)) ⟨(by omega),(by exact SA.zero),trivial⟩ hS ?_;clear hS;rintro⟨x16,px⟩ ⟨i0,i1,-⟩ ac wd hS;replace i0:0≤x16∧x16≤1+(N:Int):=i0;replace i1:SA g x16 px:=i1;refine hS.regS [0] [1,3,15,16] (sg [(17,vb (decide ((x16:Int)<(((Int.toNat (1+(N:Int))):Nat):Int))))] zn3 fun ac wd hS=>?_);refine wp_seq ?_;refine hS.condC (decide ((x16:Int)<(((Int.toNat (1+(N:Int))):Nat):Int))) (fun hb1o hb1=>?_) (fun hb1o hb1=>?_)
 ·
  refine wp_skip ?_;refine zpt ?_;refine wp_seq ?_;refine wp_block ?_;refine hS.regS [0,0] [1,3,15,16] (sg [(4,vi x16)] zn3 fun ac wd hS=>?_);refine hS.regS [0,0,100,0] [1,3,4,15,16] fun _=>seg [(22,vb (decide ((x16:Int)<1)))] zn3 [.e (ν1 0)] tv fun ac wd hS=>?_;refine hS.condC (decide ((x16:Int)<1)) (fun hb2o hb2=>?_) (fun hb2o hb2=>?_)
  ·
   refine hS.regC [0,0,10,200] [1,3,15,16] fun _=>seg [] [(0,none),(1,none),(2,some ((ν2 0),.row 5 (Int.toNat (1+(N:Int))) (Int.toNat (1+(N:Int))) (fun x=>if x=Int.toNat x16 then v8 1 else(bytes px 0) x)))] [.e (ν2 0),.p (Int.toNat x16<(Int.toNat (1+(N:Int)))),.p ((0:Int)≤x16∧(x16:Int)<(((Int.toNat (1+(N:Int))):Nat):Int))] ⟨(by omega),(by omega),tv⟩ fun ac wd hS=>?_;replace hS:=hS.to (hS.mem.tellR 2 (b:=(ν2 0)) (e:=5) (m:=(Int.toNat (1+(N:Int)))) (tot:=(Int.toNat (1+(N:Int)))) (f:=(fun x=>if x=Int.toNat x16 then v8 1 else(bytes px 0) x)) (bytes (putF px x16.toNat (u8 1)) 0) (fun o ho=>by first|exact bytes_puti px x16.toNat 1 (by first|omega|(split<;>omega)) o|(rw [Nat.mul_one,Nat.zero_add];exact bytes_puti px x16.toNat 1 (by first|omega|(split<;>omega)) o)));refine zpb ?_;refine zpt ?_;refine hS.regC [20,0] [1,3,15] fun _=>seg [(16,vi (x16+1))] zn3 [.p (fit .i64 (x16+1))] ⟨zf6 (by omega),tv⟩ fun ac wd hS=>?_;exact zpt (hS.next ((x16+1),(putF px x16.toNat (u8 1))) ⟨(by first|omega|assumption|(simp;done)|(simp;omega)),(by first|exact i1.st1 i0.1 (by omega)|exact i1.st2 (by omega) (by omega)|exact i1.st3 (by omega) (by omega)),tv⟩ (by dsimp only;omega))
  ·
   refine hS.regS [0,0,100,0,100,20,0] [1,3,4,15,16] fun _=>seg [(32,vb (decide ((x16:Int)<(1+(g:Int)))))] zn3 [.p (fit .i64 (1+(g:Int))),.e (ν1 0),.e (ν1 0)] ⟨zf6 (by omega),tv⟩ fun ac wd hS=>?_;refine hS.condC (decide ((x16:Int)<(1+(g:Int)))) (fun hb3o hb3=>?_) (fun hb3o hb3=>?_)
   ·
    refine hS.regC [0,0,10,200] [1,3,15,16] fun _=>seg [] [(0,none),(1,none),(2,some ((ν2 0),.row 5 (Int.toNat (1+(N:Int))) (Int.toNat (1+(N:Int))) (fun x=>if x=Int.toNat x16 then v8 2 else(bytes px 0) x)))] [.e (ν2 0),.p (Int.toNat x16<(Int.toNat (1+(N:Int)))),.p ((0:Int)≤x16∧(x16:Int)<(((Int.toNat (1+(N:Int))):Nat):Int))] ⟨(by omega),(by omega),tv⟩ fun ac wd hS=>?_;replace hS:=hS.to (hS.mem.tellR 2 (b:=(ν2 0)) (e:=5) (m:=(Int.toNat (1+(N:Int)))) (tot:=(Int.toNat (1+(N:Int)))) (f:=(fun x=>if x=Int.toNat x16 then v8 2 else(bytes px 0) x)) (bytes (putF px x16.toNat (u8 2)) 0) (fun o ho=>by first|exact bytes_puti px x16.toNat 2 (by first|omega|(split<;>omega)) o|(rw [Nat.mul_one,Nat.zero_add];exact bytes_puti px x16.toNat 2 (by first|omega|(split<;>omega)) o)));refine zpb ?_;refine zpt ?_;refine hS.regC [20,0] [1,3,15] fun _=>seg [(16,vi (x16+1))] zn3 [.p (fit .i64 (x16+1))] ⟨zf6 (by omega),tv⟩ fun ac wd hS=>?_;exact zpt (hS.next ((x16+1),(putF px x16.toNat (u8 2))) ⟨(by first|omega|assumption|(simp;done)|(simp;omega)),(by first|exact i1.st1 i0.1 (by omega)|exact i1.st2 (by omega) (by omega)|exact i1.st3 (by omega) (by omega)),tv⟩ (by dsimp only;omega))
   ·
    refine wp_skip ?_;refine zpb ?_;refine zpt ?_;refine hS.regC [20,0] [1,3,15] fun _=>seg [(16,vi (x16+1))] zn3 [.p (fit .i64 (x16+1))] ⟨zf6 (by omega),tv⟩ fun ac wd hS=>?_;exact zpt (hS.next ((x16+1),px) ⟨(by first|omega|assumption|(simp;done)|(simp;omega)),(by first|exact i1.st1 i0.1 (by omega)|exact i1.st2 (by omega) (by omega)|exact i1.st3 (by omega) (by omega)),tv⟩ (by dsimp only;omega))
 ·
  refine wp_exit ?_;refine zpe ?_;refine zpe ?_;refine zph ?_;refine zpt ?_;refine wp_seq ?_;refine hS.regS [0,100,0,0] [1,3] fun _=>seg [(38,.slice ao9 L.length c9),(39,vi (L.length:Int)),(40,vi 0)] zn3 [.e (ν1 0)] tv fun ac wd hS=>?_;refine wp_block ?_;refine St.loopC (σ:=Int×(Nat→UInt8)) (fun(x:Int×(Nat→UInt8))=>match x with|(x40,py)=>⟨[(1,[],pt (ν1 0) 0),(3,[],sc (ν2 0) 0 (Int.toNat (1+(N:Int))) (Int.toNat (1+(N:Int)))),(38,[],.slice ao9 L.length c9),(39,[],vi (L.length:Int)),(40,[],vi x40)],[(g9,zL L o9),((ν1 0),.cells [vi 1,vi (N:Int),vi (g:Int),vi rr,.slice ao9 L.length c9] 34),((ν2 0),.row 5 (Int.toNat (1+(N:Int))) (Int.toNat (1+(N:Int))) (bytes py 0))],[],(0≤x40∧x40≤(L.length:Int))∧(SB L g x40 py)∧True,L.length-Int.toNat x40⟩) (0,px) ⟨(by omega),(by exact i1.to (by omega)),trivial⟩ hS ?_;clear hS;rintro⟨x40,py⟩ ⟨j0,j1,-⟩ ac wd hS;replace j0:0≤x40∧x40≤(L.length:Int):=j0;replace j1:SB L g x40 py:=j1;refine hS.regS [0] [1,3,38,39,40] (sg [(41,vb (decide ((x40:Int)<(L.length:Int))))] zn3 fun ac wd hS=>?_);refine wp_seq ?_;refine hS.condC (decide ((x40:Int)<(L.length:Int))) (fun hb4o hb4=>?_) (fun hb4o hb4=>?_)
  ·
   refine wp_skip ?_;refine zpt ?_;refine wp_seq ?_;refine wp_block ?_;obtain rfl:ao9=some ⟨g9,o9,none⟩:=Or.resolve_left hv9 (by omega);refine hS.regS [20,fx 0 (.agg #[vi (gtD L x40.toNat).1,vi (gtD L x40.toNat).2.1,vb (gtD L x40.toNat).2.2]),0,300] [1,3,38,39,40] fun ν15=>seg [(6,pt (ν15 0) 0)] [(0,none),(1,none),(2,none),(3,some ((ν15 0),.cells [vi (gtD L x40.toNat).1,vi (gtD L x40.toNat).2.1,vb (gtD L x40.toNat).2.2] 69))] [.e (ν15 0),.e (ν15 0),.e (ν15 0),.p ((.agg #[((rnV (gtD L) o9) (o9+Int.toNat x40*3)),((rnV (gtD L) o9) (o9+Int.toNat x40*3+1)),((rnV (gtD L) o9) (o9+Int.toNat x40*3+2))]:Value)=.agg #[vi (gtD L x40.toNat).1,vi (gtD L x40.toNat).2.1,vb (gtD L x40.toNat).2.2]),.e g9,.p (o9≤o9+Int.toNat x40*3+2∧o9+Int.toNat x40*3+2<(o9+L.length*3)),.e g9,.p (o9≤o9+Int.toNat x40*3+1∧o9+Int.toNat x40*3+1<(o9+L.length*3)),.e g9,.p (o9≤o9+Int.toNat x40*3∧o9+Int.toNat x40*3<(o9+L.length*3)),.p ((0:Int)≤x40∧(x40:Int)<(L.length:Int))] ⟨(agg3 (rnV_0 (gtD L) o9 x40.toNat) (rnV_1 (gtD L) o9 x40.toNat) (rnV_2 (gtD L) o9 x40.toNat)),(by omega),(by omega),(by omega),(by omega),tv⟩ fun ac wd hS=>?_;obtain⟨b1,b2,b3,b4,b5,b6⟩:=hD.elB (show Int.toNat x40<L.length by omega);refine hS.regS [0] [1,3,6,38,39,40] (sg [(7,vi 0)] zn4 fun ac wd hS=>?_);refine wp_block ?_;refine St.loopC (σ:=Int×(Nat→UInt8)) (fun(x:Int×(Nat→UInt8))=>match x with|(x7,pz)=>⟨[(1,[],pt (ν1 0) 0),(3,[],sc (ν2 0) 0 (Int.toNat (1+(N:Int))) (Int.toNat (1+(N:Int)))),(6,[],pt (ν15 0) 0),(7,[],vi x7),(38,[],sc g9 o9 L.length c9),(39,[],vi (L.length:Int)),(40,[],vi x40)],[(g9,zL L o9),((ν1 0),.cells [vi 1,vi (N:Int),vi (g:Int),vi rr,sc g9 o9 L.length c9] 34),((ν2 0),.row 5 (Int.toNat (1+(N:Int))) (Int.toNat (1+(N:Int))) (bytes pz 0)),((ν15 0),.cells [vi (gtD L x40.toNat).1,vi (gtD L x40.toNat).2.1,vb (gtD L x40.toNat).2.2] 69)],[],(0≤x7∧x7≤pgsN (gtD L x40.toNat).2.1)∧(SC L g x40 x7 pz)∧True,Int.toNat (pgsN (gtD L x40.toNat).2.1-x7)⟩) (0,py) ⟨(by exact⟨by omega,by have:=pgsN_bd b4;omega⟩),(by exact j1.to),trivial⟩ hS ?_;clear hS;rintro⟨x7,pz⟩ ⟨k0,k1,-⟩ ac wd hS;replace k0:0≤x7∧x7≤pgsN (gtD L x40.toNat).2.1:=k0;replace k1:SC L g x40 x7 pz:=k1;have hpb:=pgsN_bd b4;refine wp_seq ?_;refine zwq ?_;refine hS.opsC 3 [0,0,300] [1,3,6,7,38,39,40] fun _=>seg [(44,vi x7),(46,vi (gtD L x40.toNat).2.1)] zn4 [.e (ν15 0)] tv fun ac wd hS=>?_;refine hS.call0 88 #[vi (gtD L x40.toNat).2.1] 47 (r06_Pages (gtD L x40.toNat).2.1 _ (by first|assumption|omega|(simp_all;done)|(simp_all;omega))) fun ac wd hS=>?_;refine hS.opsC 1 [0] [1,3,6,7,38,39,40] (sg [(48,vb (decide ((x7:Int)<(pgsN (gtD L x40.toNat).2.1))))] zn4 fun ac wd hS=>?_);refine zlq ?_;refine hS.condC (decide ((x7:Int)<(pgsN (gtD L x40.toNat).2.1))) (fun hb5o hb5=>?_) (fun hb5o hb5=>?_)
   ·
    refine wp_skip ?_;refine zpt ?_;refine wp_seq ?_;refine wp_block ?_;refine hS.regC [0,0,100,0,300,20,0,20,10,200] [1,3,6,7,38,39,40] fun _=>seg [] [(0,none),(1,none),(2,some ((ν2 0),.row 5 (Int.toNat (1+(N:Int))) (Int.toNat (1+(N:Int))) (fun x=>if x=Int.toNat ((1+(gtD L x40.toNat).1)+x7)then v8 3 else(bytes pz 0) x))),(3,none)] [.e (ν2 0),.p (Int.toNat ((1+(gtD L x40.toNat).1)+x7)<(Int.toNat (1+(N:Int)))),.p ((0:Int)≤((1+(gtD L x40.toNat).1)+x7)∧(((1+(gtD L x40.toNat).1)+x7):Int)<(((Int.toNat (1+(N:Int))):Nat):Int)),.p (fit .i64 ((1+(gtD L x40.toNat).1)+x7)),.p (fit .i64 (1+(gtD L x40.toNat).1)),.e (ν15 0),.e (ν1 0)] ⟨(by omega),(by omega),zf6 (by omega),zf6 (by omega),tv⟩ fun ac wd hS=>?_;replace hS:=hS.to (hS.mem.tellR 2 (b:=(ν2 0)) (e:=5) (m:=(Int.toNat (1+(N:Int)))) (tot:=(Int.toNat (1+(N:Int)))) (f:=(fun x=>if x=Int.toNat ((1+(gtD L x40.toNat).1)+x7)then v8 3 else(bytes pz 0) x)) (bytes (putF pz (Int.toNat ((1+(gtD L x40.toNat).1)+x7)) (u8 3)) 0) (fun o ho=>by first|exact bytes_puti pz (Int.toNat ((1+(gtD L x40.toNat).1)+x7)) 3 (by first|omega|(split<;>omega)) o|(rw [Nat.mul_one,Nat.zero_add];exact bytes_puti pz (Int.toNat ((1+(gtD L x40.toNat).1)+x7)) 3 (by first|omega|(split<;>omega)) o)));refine zpb ?_;refine zpt ?_;refine hS.regC [0,20,0] [1,3,6,38,39,40] fun _=>seg [(7,vi (x7+1))] zn4 [.p (fit .i64 (x7+1))] ⟨zf6 (by omega),tv⟩ fun ac wd hS=>?_;exact zpt (hS.next ((x7+1),(putF pz (Int.toNat ((1+(gtD L x40.toNat).1)+x7)) (u8 3))) ⟨(by first|omega|assumption|(simp;done)|(simp;omega)),(by exact k1.st k0.1 b1 (by omega) rfl),tv⟩ (by dsimp only;omega))
   ·
    refine wp_exit ?_;refine zpe ?_;refine zpe ?_;refine zph ?_;refine zpb ?_;refine zpt ?_;refine hS.regC [20,0] [1,3,38,39] fun _=>seg [(40,vi (x40+1))] zn3 [.p (fit .i64 (x40+1))] ⟨zf6 (by omega),tv⟩ fun ac wd hS=>?_;exact zpt (hS.next ((x40+1),pz) ⟨(by first|omega|assumption|(simp;done)|(simp;omega)),(by exact k1.fin j0.1 (by omega) (by omega)),tv⟩ (by dsimp only;omega))
  ·
   refine wp_exit ?_;refine zpe ?_;refine zpe ?_;refine zph ?_;refine zpt ?_;refine hS.regS [0,0] [] (sg [(2,sc (ν2 0) 0 (Int.toNat (1+(N:Int))) (Int.toNat (1+(N:Int))))] [(2,none)] fun ac wd hS=>?_);refine wp_ret ?_;refine St.retC 0 hS (sc (ν2 0) 0 (Int.toNat (1+(N:Int))) (Int.toNat (1+(N:Int)))) [] tv fun hw=>?_;refine⟨(ν2 0),(Int.toNat (1+(N:Int))),py,retd rfl,?_,((hw.getm 0 (ν2 0) (.row 5 (Int.toNat (1+(N:Int))) (Int.toNat (1+(N:Int))) (bytes py 0))).resolve_right (fun h=>h)),(HE.fn_hi (by omega) (HE.of_row (hw.get 0 (ν2 0) (.row 5 (Int.toNat (1+(N:Int))) (Int.toNat (1+(N:Int))) (bytes py 0))) (fun _ _=>rfl))),hw.fr0⟩
   all_goals (first|rfl|omega|exact SB.fin j1 hD (by omega))
theorem r9_Largest (ao9:Option Addr)(c9:Nat)(g9:Nat)(o9:Nat)(L:List (Int×Int×Bool))(N:Nat)(g:Nat)(rr:Int)(m:AM)(r:Int)(q:List Tg)(Q:Nat→List Int)(w:World)(hh0:HE.holds w 1 (.fn 0 64 dbT))(hh1:HE.holds w g9 (zL L o9))(hv9:(L.length=0∨ao9=some ⟨g9,o9,none⟩))(hD:DC N g g q L)(hB:Bdy m N g r q Q):
    Calls Tryz.prog 49 #[.agg #[vi 1,vi (N:Int),vi (g:Int),vi rr,.slice ao9 L.length c9]] w fun e w'=>∃(dk:Int) (dz:Bool),e=.returned (.tuple #[vi dk,vb dz])∧LgP q dk dz∧Fr w w' no no:=by
 have hl79:=hD.len;have hc79:=hD.c79;have hrl:=rnP_len q g;refine enter (args:=[.agg #[vi 1,vi (N:Int),vi (g:Int),vi rr,.slice ao9 L.length c9]]) (D:=no) (A:=[]) Tryz.func49 rfl 25 rfl [(1,.fn 0 64 dbT),(g9,zL L o9)] (WS.startL ⟨⟨rfl,hh0⟩,⟨rfl,hh1⟩,trivial⟩) fun ac hS=>?_;refine hS.regS [0,0,0] [] fun ν1=>seg [(1,pt (ν1 0) 0)] [(0,none),(1,none),(2,some ((ν1 0),.cells [vi 1,vi (N:Int),vi (g:Int),vi rr,.slice ao9 L.length c9] 34))] [] tv fun ac wd hS=>?_;refine hS.regS [0,0] [1] (sg [(4,vi 0),(5,vb false)] zn3 fun ac wd hS=>?_);refine wp_seq ?_;refine zwq ?_;refine hS.opsC 1 [200] [4,5] fun _=>seg [(8,.agg #[vi 1,vi (N:Int),vi (g:Int),vi rr,.slice ao9 L.length c9])] zn2 [.e (ν1 0),.e (ν1 0),.e (ν1 0),.e (ν1 0),.e (ν1 0)] tv fun ac wd hS=>?_;refine hS.callC 38 #[.agg #[vi 1,vi (N:Int),vi (g:Int),vi rr,.slice ao9 L.length c9]] (r8_Runs ao9 c9 g9 o9 L N g rr g q _ (hS.mem.get 0 1 (.fn 0 64 dbT)) (hS.mem.get 1 g9 (zL L o9)) hv9 (by exact hD)) ?_;rintro _ wd ⟨ao21,c22,g23,o24,rfl,hv25,hog0,hoh0,hF⟩;have ho6:g23=1∨w.heap.size≤g23:=by have:=hS.mem.fr.size;have:w.heap.size≤_:=this;omega
 refine⟨.slice ao21 (rnP q g).length c22,rfl,?_⟩;replace hS:=(hS.to (hS.mem.outs hF [(g23,zL (rnP q g) o24)] ⟨⟨rfl,hoh0,(fun q_=>q_.elim (fun e=>.inl ⟨0,.fn 0 64 dbT,by rw [e];as_aux_lemma=>kernel_rfl,rfl⟩) (fun q_=>.inr q_)) hog0⟩,trivial⟩)).put (d:=9) (v:=.slice ao21 (rnP q g).length c22) (by decide);clear hF;refine hS.opsC 2 [0,0] [4,5,9] (sg [(10,vi (((rnP q g).length:Nat):Int)),(11,vi 0)] [(0,none),(2,none)] fun ac wd hS=>?_);refine zlq ?_;refine wp_block ?_;refine St.loopC (σ:=Int×Bool×Int) (fun(x:Int×Bool×Int)=>match x with|(x4,x5,x11)=>⟨[(4,[],vi x4),(5,[],vb x5),(9,[],.slice ao21 (rnP q g).length c22),(10,[],vi (((rnP q g).length:Nat):Int)),(11,[],vi x11)],[(1,.fn 0 64 dbT),(g23,zL (rnP q g) o24)],[],(0≤x11∧x11≤((rnP q g).length:Int))∧(((x4,x5):Int×Bool)=lgF ((rnP q g).take x11.toNat))∧True,(rnP q g).length-Int.toNat x11⟩) (0,false,0) ⟨(by first|omega|rfl),(by first|omega|rfl),trivial⟩ hS ?_;clear hS;rintro⟨x4,x5,x11⟩ ⟨i0,i1,-⟩ ac wd hS;replace i0:0≤x11∧x11≤((rnP q g).length:Int):=i0;replace i1:((x4,x5):Int×Bool)=lgF ((rnP q g).take x11.toNat):=i1;refine hS.regS [0] [4,5,9,10,11] (sg [(12,vb (decide ((x11:Int)<(((rnP q g).length:Nat):Int))))] zn2 fun ac wd hS=>?_);refine wp_seq ?_;refine hS.condC (decide ((x11:Int)<(((rnP q g).length:Nat):Int))) (fun hb7o hb7=>?_) (fun hb7o hb7=>?_)
 ·
  refine wp_skip ?_;refine zpt ?_;refine wp_seq ?_;refine wp_block ?_;obtain rfl:ao21=some ⟨g23,o24,none⟩:=Or.resolve_left hv25 (by omega);refine hS.regS [20,fx 100 (.agg #[vi (gtD (rnP q g) x11.toNat).1,vi (gtD (rnP q g) x11.toNat).2.1,vb (gtD (rnP q g) x11.toNat).2.2]),0,200] [4,5,9,10,11] fun ν6=>seg [(7,pt (ν6 0) 0)] [(0,none),(1,none),(2,some ((ν6 0),.cells [vi (gtD (rnP q g) x11.toNat).1,vi (gtD (rnP q g) x11.toNat).2.1,vb (gtD (rnP q g) x11.toNat).2.2] 69))] [.e (ν6 0),.e (ν6 0),.e (ν6 0),.p ((.agg #[((rnV (gtD (rnP q g)) o24) (o24+Int.toNat x11*3)),((rnV (gtD (rnP q g)) o24) (o24+Int.toNat x11*3+1)),((rnV (gtD (rnP q g)) o24) (o24+Int.toNat x11*3+2))]:Value)=.agg #[vi (gtD (rnP q g) x11.toNat).1,vi (gtD (rnP q g) x11.toNat).2.1,vb (gtD (rnP q g) x11.toNat).2.2]),.e g23,.p (o24≤o24+Int.toNat x11*3+2∧o24+Int.toNat x11*3+2<(o24+(rnP q g).length*3)),.e g23,.p (o24≤o24+Int.toNat x11*3+1∧o24+Int.toNat x11*3+1<(o24+(rnP q g).length*3)),.e g23,.p (o24≤o24+Int.toNat x11*3∧o24+Int.toNat x11*3<(o24+(rnP q g).length*3)),.p ((0:Int)≤x11∧(x11:Int)<(((rnP q g).length:Nat):Int))] ⟨(agg3 (rnV_0 (gtD (rnP q g)) o24 x11.toNat) (rnV_1 (gtD (rnP q g)) o24 x11.toNat) (rnV_2 (gtD (rnP q g)) o24 x11.toNat)),(by omega),(by omega),(by omega),(by omega),tv⟩ fun ac wd hS=>?_;refine hS.regS [0,200,0] [4,5,7,9,10,11] fun _=>seg [(17,vb (!(gtD (rnP q g) x11.toNat).2.2))] zn3 [.e (ν6 0)] tv fun ac wd hS=>?_;refine hS.condC (!(gtD (rnP q g) x11.toNat).2.2) (fun hb8o hb8=>?_) (fun hb8o hb8=>?_)
  ·
   have hn9:=hb8o;refine hS.regS [0,0,200,0,0] [9,10,11] fun _=>seg [(4,vi (imax x4 (gtD (rnP q g) x11.toNat).2.1))] zn2 [.e (ν6 0)] tv fun ac wd hS=>?_;refine hS.regC [0] [4,9,10,11] (sg [(5,vb true)] zn2 fun ac wd hS=>?_);refine zpb ?_;refine zpt ?_;refine hS.regC [20,0] [4,5,9,10] fun _=>seg [(11,vi (x11+1))] zn2 [.p (fit .i64 (x11+1))] ⟨zf6 (by omega),tv⟩ fun ac wd hS=>?_;exact zpt (hS.next ((imax x4 (gtD (rnP q g) x11.toNat).2.1),true,(x11+1)) ⟨(by first|omega|assumption|(simp;done)|(simp;omega)),(by first|exact lg_y i1 i0.1 (by omega) hn9|exact lg_n i1 i0.1 (by omega) hn9),tv⟩ (by dsimp only;omega))
  ·
   have hn9:=hb8o;refine wp_skip ?_;refine zpb ?_;refine zpt ?_;refine hS.regC [20,0] [4,5,9,10] fun _=>seg [(11,vi (x11+1))] zn2 [.p (fit .i64 (x11+1))] ⟨zf6 (by omega),tv⟩ fun ac wd hS=>?_;exact zpt (hS.next (x4,x5,(x11+1)) ⟨(by first|omega|assumption|(simp;done)|(simp;omega)),(by first|exact lg_y i1 i0.1 (by omega) hn9|exact lg_n i1 i0.1 (by omega) hn9),tv⟩ (by dsimp only;omega))
 ·
  refine wp_exit ?_;refine zpe ?_;refine zpe ?_;refine zph ?_;refine zpt ?_;refine hS.regS [0,0,0,0] [] (sg [(2,vi x4),(3,vb x5)] [(0,none)] fun ac wd hS=>?_);refine wp_ret ?_;refine St.retC 0 hS (.tuple #[vi x4,vb x5]) [] tv fun hw=>?_;refine⟨x4,x5,retd rfl,?_,hw.fr0⟩
  all_goals (first|rfl|exact lg_finD hB (by omega) i1)
theorem r9_Can (ao9:Option Addr)(c9:Nat)(g9:Nat)(o9:Nat)(L:List (Int×Int×Bool))(N:Nat)(g:Nat)(rr:Int)(k:Int)(q:List Tg)(a:Int)(ee:Int)(g2:Nat)(r2:Int)(q2:List Tg)(w:World)(hh0:HE.holds w 1 (.fn 0 64 dbT))(hh1:HE.holds w g9 (zL L o9))(hv9:(L.length=0∨ao9=some ⟨g9,o9,none⟩))(hD:DC N g g q L)(hA:AlP N g (-1) q k a ee g2 r2 q2)(hng:g≤N∧N≤79):
    Calls Tryz.prog 51 #[.agg #[vi 1,vi (N:Int),vi (g:Int),vi rr,.slice ao9 L.length c9],vi k] w fun e w'=>e=.returned (vb (ee==0))∧Fr w w' no no:=by
 have hl79:=hD.len;have hc79:=hD.c79;refine enter (args:=[.agg #[vi 1,vi (N:Int),vi (g:Int),vi rr,.slice ao9 L.length c9],vi k]) (D:=no) (A:=[]) Tryz.func51 rfl 18 rfl [(1,.fn 0 64 dbT),(g9,zL L o9)] (WS.startL ⟨⟨rfl,hh0⟩,⟨rfl,hh1⟩,trivial⟩) fun ac hS=>?_;refine hS.regS [0,0] [1] fun ν1=>seg [(2,pt (ν1 0) 0)] [(0,none),(1,none),(2,some ((ν1 0),.cells [vi 1,vi (N:Int),vi (g:Int),vi rr,.slice ao9 L.length c9] 34))] [] tv fun ac wd hS=>?_;refine hS.regS [0,200] [1,2] fun _=>seg [] [(0,none),(1,none),(2,some ((ν1 0),.cells [vi 1,vi (N:Int),vi (g:Int),vi (-1),.slice ao9 L.length c9] 34))] [.e (ν1 0)] tv fun ac wd hS=>?_;refine zwq ?_;refine hS.opsC 2 [200,0] [] fun _=>seg [(10,.agg #[vi 1,vi (N:Int),vi (g:Int),vi (-1),.slice ao9 L.length c9]),(11,vi k)] zn2 [.e (ν1 0),.e (ν1 0),.e (ν1 0),.e (ν1 0),.e (ν1 0)] tv fun ac wd hS=>?_;refine hS.callC 65 #[.agg #[vi 1,vi (N:Int),vi (g:Int),vi (-1),.slice ao9 L.length c9],vi k] (r8_Alloc ao9 c9 g9 o9 L N g (-1) k q a ee g2 r2 q2 _ (hS.mem.get 0 1 (.fn 0 64 dbT)) (hS.mem.get 1 g9 (zL L o9)) hv9 (by exact hD) (by exact hA) (by decide) (by exact hng)) ?_;rintro _ wd ⟨ao81,c82,g83,o84,rfl,hv85,hog0,hoh0,hF⟩;have ho6:g83=1∨g83=g9∨w.heap.size≤g83:=by have:=hS.mem.fr.size;have:w.heap.size≤_:=this;omega
 refine⟨.tuple #[.agg #[vi 1,vi (N:Int),vi (g2:Int),vi r2,.slice ao81 (tkD q2 g2).length c82],vi (alI a ee),vi ee],rfl,?_⟩;replace hS:=(hS.to (hS.mem.outs hF [(g83,zL (tkD q2 g2) o84)] ⟨⟨rfl,hoh0,(fun q_=>q_.elim (fun e=>.inl ⟨0,.fn 0 64 dbT,by rw [e];as_aux_lemma=>kernel_rfl,rfl⟩) (fun q_=>q_.elim (fun e=>.inl ⟨1,zL L o9,by rw [e];as_aux_lemma=>kernel_rfl,rfl⟩) (fun q_=>.inr q_))) hog0⟩,trivial⟩)).put (d:=12) (v:=.tuple #[.agg #[vi 1,vi (N:Int),vi (g2:Int),vi r2,.slice ao81 (tkD q2 g2).length c82],vi (alI a ee),vi ee]) (by decide);clear hF;refine hS.opsC 8 [0,0,0,0,0,300,0,0] [] fun ν4=>seg [(7,vi ee)] [(0,none)] [.e (ν4 0),.e (ν4 0),.e (ν4 0),.e (ν4 0),.e (ν4 0)] tv fun ac wd hS=>?_;refine zlq ?_;refine hS.regS [0,0,0] [] (sg [(4,vb ((ee:Int)==0))] [(0,none)] fun ac wd hS=>?_);refine wp_ret ?_;refine St.retC 0 hS (vb ((ee:Int)==0)) [] tv fun hw=>?_;refine⟨retd (vbool ?_),hw.fr0⟩
 all_goals (first|rfl)
theorem cs_Count_nil (what:Int)(w:World):
    Calls Tryz.prog 41 #[pnil,v8 what] w fun e w'=>e=.returned (vi 0)∧Fr w w' no no:=by
 refine enter (args:=[pnil,v8 what]) (D:=no) (A:=[]) Tryz.func41 rfl 22 rfl [] (WS.startL trivial) fun ac hS=>?_;refine hS.regS [0] [0,1] (sg [] [] fun ac wd hS=>?_);refine hS.regS [0] [0,1] (sg [(5,vi 0)] [] fun ac wd hS=>?_);refine wp_seq ?_;refine zwq ?_;refine hS.opsC 1 [0] [1,5] (sg [(8,pnil)] [] fun ac wd hS=>?_);refine hS.call0 42 #[pnil] 9 (cs_States_nil _) fun ac wd hS=>?_;refine hS.opsC 2 [0,0] [1,5,9] (sg [(10,vi 0),(11,vi 0)] [] fun ac wd hS=>?_);refine zlq ?_;refine wp_block ?_;refine wp_loop_rounds 1 ?_;refine rounds_in ?_;refine hS.regS [0] [1,5,9,10,11] (sg [(12,vb false)] [] fun ac wd hS=>?_);refine wp_seq ?_;refine hS.condF ?_;refine wp_exit ?_;refine zpe ?_;refine zpe ?_;refine zph ?_;refine zpt ?_;refine hS.regS [0,0] [] (sg [(4,vi 0)] [] fun ac wd hS=>?_);refine wp_ret ?_;refine St.retC 0 hS (vi 0) [] tv fun hw=>?_;refine⟨retd rfl,hw.fr0⟩
theorem cs_Right_nil (w:World):
    Calls Tryz.prog 46 #[pnil] w fun e w'=>e=.returned (vb false)∧Fr w w' no no:=by
 refine enter (args:=[pnil]) (D:=no) (A:=[]) Tryz.func46 rfl 94 rfl [] (WS.startL trivial) fun ac hS=>?_;refine hS.regS [0] [0] (sg [] [] fun ac wd hS=>?_);refine wp_seq ?_;refine hS.regS [0,0] [0] (sg [(12,vb true)] [] fun ac wd hS=>?_);refine hS.condT ?_;refine hS.regS [0] [] (sg [(2,vb false)] [] fun ac wd hS=>?_);refine wp_ret ?_;refine zpr ?_;refine St.retC 0 hS (vb false) [] tv fun hw=>?_;refine⟨retd rfl,hw.fr0⟩
theorem cs_play_okD (cap:Int)(ao7:Option Addr)(c7:Nat)(g7:Nat)(o7:Nat)(l:List (Int×Int×Int))(N:Nat)(w:World)(hh0:HE.holds w 1 (.fn 0 64 dbT))(hh1:HE.holds w g7 (.fn o7 (o7+l.length*3) (a8V (gtD l) o7)))(hv7:(l.length=0∨ao7=some ⟨g7,o7,none⟩))(hAl:∀i,i<l.length→rg_a8V (gtD l i))(hl60:l.length≤60)(hN9:(imax 0 (imin cap 80))=(N:Int)+1)(hN8:1≤N∧N≤79):
    Calls Tryz.prog 40 #[vi cap,.slice ao7 l.length c7] w fun e w'=>∃(b':Nat) (mo:AM) (bb:Nat) (g:Nat) (r:Int) (q:List Tg) (Q:Nat→List Int) (ao8:Option Addr) (c8:Nat) (g8:Nat) (o8:Nat) (F':Nat→Prop),e=.returned (.tuple #[pt bb 0,.agg #[vi 1,vi (N:Int),vi (g:Int),vi r,.slice ao8 (tkD q g).length c8],vb true])∧Bdy mo N g r q Q∧FullG g q∧((tkD q g).length=0∨ao8=some ⟨g8,o8,none⟩)∧(arR b' F' mo).R w'∧w.heap.size≤bb∧HE.holds w' bb (.fn 0 12 (roF (zbx b' N)))∧¬F' bb∧(g8=1∨w.heap.size≤g8)∧HE.holds w' g8 (zL (tkD q g) o8)∧¬F' g8∧Fr w w' no F':=by
 have hF9:FreshA (AM.new (imax 0 (imin cap 80))) N (-1):=fresh_new hN9 (by omega);obtain⟨hB9,hfl9⟩:=hF9.bdy hN8 (by decide);refine enter (args:=[vi cap,.slice ao7 l.length c7]) (D:=no) (A:=[]) Tryz.func40 rfl 54 rfl [(1,.fn 0 64 dbT),(g7,.fn o7 (o7+l.length*3) (a8V (gtD l) o7))] (WS.startL ⟨⟨rfl,hh0⟩,⟨rfl,hh1⟩,trivial⟩) fun ac hS=>?_;refine hS.regS [0,0,0] [0,1] fun ν1=>seg [(5,pt (ν1 0) 0)] [(0,none),(1,none),(2,some ((ν1 0),.cells [vi 0,vi 0,vi 0,vi 0,vnil] 34))] [] tv fun ac wd hS=>?_;refine hS.regS [0,0,0,0] [1,5] (sg [(7,vi (imax 0 (imin cap 80)))] zn3 fun ac wd hS=>?_);refine zwq ?_;refine hS.opsC 1 [0] [1,5,7] (sg [(20,vi (imax 0 (imin cap 80)))] zn3 fun ac wd hS=>?_);refine hS.callC 14 #[vi (imax 0 (imin cap 80))] (ar_New (imax 0 (imin cap 80)) _) ?_;rintro _ wd ⟨b'1,F2,rfl,hN,hF⟩;refine⟨pt b'1 0,rfl,?_⟩;replace hS:=(hS.to (hS.mem.newA hN hF)).put (d:=21) (v:=pt b'1 0) (by decide);clear hF;refine hS.callC 13 #[pt b'1 0] (bu_New_ok b'1 F2 (AM.new (imax 0 (imin cap 80))) N (-1) _ (hS.mem.res 0) (by exact hF9) (by exact hN8) (by decide)) ?_;rintro _ wd ⟨bb3,F4,rfl,hA,hog0,hoh0,hnf0,hF⟩;have ho5:w.heap.size≤bb3:=Nat.le_trans hS.mem.fr.size hog0;refine⟨.tuple #[pt bb3 0,vi 0],rfl,?_⟩;replace hS:=(hS.to (hS.mem.outAT 0 rfl hA hF (g:=bb3) (z:=.fn 0 12 (roF (zbx b'1 N))) rfl hoh0 (.inr hog0) hnf0)).put (d:=22) (v:=.tuple #[pt bb3 0,vi 0]) (by decide);clear hF;refine hS.opsC 5 [0,0,0,0,0] [1,5,7] (sg [(8,pt bb3 0),(9,vi 0)] zn4 fun ac wd hS=>?_);refine zlq ?_;refine zwq ?_;refine hS.opsC 1 [0] [1,5,8,9] (sg [(26,vi (imax 0 (imin cap 80)))] zn4 fun ac wd hS=>?_);refine hS.call0 34 #[vi (imax 0 (imin cap 80)),vi (-1)] 27 (r8_New_ok (imax 0 (imin cap 80)) (-1) N _ (by exact⟨hN9,hN8⟩) (by decide) (by decide)) fun ac wd hS=>?_;refine hS.opsC 6 [0,0,0,0,400,0] [1,5,8,9] fun ν6=>seg [(10,pt (ν6 0) 0),(11,vi 0)] [(0,none),(1,none),(2,none),(3,none),(4,some ((ν6 0),.cells [vi 1,vi (N:Int),vi 0,vi (cmR (-1)),vnil] 34))] [.e (ν6 0),.e (ν6 0),.e (ν6 0),.e (ν6 0),.e (ν6 0)] tv fun ac wd hS=>?_;refine zlq ?_;refine wp_seq ?_;refine hS.regS [0,0,0,1,1,60] [1,5,8,10] fun _=>seg [(35,vb false)] zn5 [.t false,.t false,.t false] tv fun ac wd hS=>?_;refine hS.condF ?_;refine wp_skip ?_;refine zpt ?_;refine wp_seq ?_;refine hS.regS [0,0,0] [5,8,10] (sg [(37,.slice ao7 l.length c7),(38,vi (l.length:Int)),(39,vi 0)] zn5 fun ac wd hS=>?_);refine wp_block ?_;replace hS:=hS.to (hS.mem.addNone (b:=1) (lo:=0) (hi:=64) (f:=dbT) (k:=([]:List (Int×Int×Bool)).length*3) (f':=(rnV (gtD ([]:List (Int×Int×Bool))) 0)) (o:=0) 0 rfl);refine St.loopC (σ:=Int×(Nat→Prop)×AM×Nat×Int×List Tg×(Nat→List Int)×Option Addr×Nat×Nat×Nat×(List (Int×Int×Bool))) (fun(x:Int×(Nat→Prop)×AM×Nat×Int×List Tg×(Nat→List Int)×Option Addr×Nat×Nat×Nat×(List (Int×Int×Bool)))=>match x with|(x39,Fx,mx,gx,rx,qx,Qx,aod,cd,gd,od,ld)=>⟨[(5,[],pt (ν1 0) 0),(8,[],pt bb3 0),(10,[],pt (ν6 0) 0),(37,[],.slice ao7 l.length c7),(38,[],vi (l.length:Int)),(39,[],vi x39)],[(1,.fn 0 64 dbT),(g7,.fn o7 (o7+l.length*3) (a8V (gtD l) o7)),((ν1 0),.cells [vi 0,vi 0,vi 0,vi 0,vnil] 34),(bb3,.fn 0 12 (roF (zbx b'1 N))),((ν6 0),.cells [vi 1,vi (N:Int),vi (gx:Int),vi rx,.slice aod ld.length cd] 34),(gd,zL ld od)],[arR b'1 Fx mx],(0≤x39∧x39≤(l.length:Int))∧(Bdy mx N gx rx qx Qx)∧(FullG gx qx)∧(rx≤9223372036854775807)∧(ld=tkD qx gx)∧(gd=1∨w.heap.size≤gd)∧(ld.length=0∨aod=some ⟨gd,od,none⟩)∧True,l.length-Int.toNat x39⟩) (0,F4,(vstM (comM (AM.new (imax 0 (imin cap 80))) 0 1) 0 256 104 8 6432341300767115597),0,(cmR (-1)),(List.replicate N (0,0)),(fun _=>[]),none,0,1,0,([]:List (Int×Int×Bool))) ⟨(by omega),(by exact hB9),(by exact hfl9),(by decide),(by rfl),(by exact .inl rfl),(by exact(.inl rfl)),trivial⟩ hS ?_;clear hS;rintro⟨x39,Fx,mx,gx,rx,qx,Qx,aod,cd,gd,od,ld⟩ ⟨i0,i1,i2,i3,i4,i5,hvd,-⟩ ac wd hS;replace i0:0≤x39∧x39≤(l.length:Int):=i0;replace i1:Bdy mx N gx rx qx Qx:=i1;replace i2:FullG gx qx:=i2;replace i3:rx≤9223372036854775807:=i3;replace i4:ld=tkD qx gx:=i4;replace i5:gd=1∨w.heap.size≤gd:=i5;replace hvd:ld.length=0∨aod=some ⟨gd,od,none⟩:=hvd;refine hS.regS [0] [5,8,10,37,38,39] (sg [(40,vb (decide ((x39:Int)<(l.length:Int))))] zn6 fun ac wd hS=>?_);refine wp_seq ?_;refine hS.condC (decide ((x39:Int)<(l.length:Int))) (fun hb6o hb6=>?_) (fun hb6o hb6=>?_)
 ·
  refine wp_skip ?_;refine zpt ?_;refine wp_seq ?_;refine wp_block ?_;obtain rfl:ao7=some ⟨g7,o7,none⟩:=Or.resolve_left hv7 (by omega);refine hS.regS [20,fx 100 (.agg #[v8 (gtD l x39.toNat).1,vi (gtD l x39.toNat).2.1,vi (gtD l x39.toNat).2.2]),0,600] [5,8,10,37,38,39] fun ν10=>seg [(13,pt (ν10 0) 0)] [(0,none),(1,none),(2,none),(3,none),(4,none),(5,none),(6,some ((ν10 0),.cells [v8 (gtD l x39.toNat).1,vi (gtD l x39.toNat).2.1,vi (gtD l x39.toNat).2.2] 31))] [.e (ν10 0),.e (ν10 0),.e (ν10 0),.p ((.agg #[((a8V (gtD l) o7) (o7+Int.toNat x39*3)),((a8V (gtD l) o7) (o7+Int.toNat x39*3+1)),((a8V (gtD l) o7) (o7+Int.toNat x39*3+2))]:Value)=.agg #[v8 (gtD l x39.toNat).1,vi (gtD l x39.toNat).2.1,vi (gtD l x39.toNat).2.2]),.e g7,.p (o7≤o7+Int.toNat x39*3+2∧o7+Int.toNat x39*3+2<(o7+l.length*3)),.e g7,.p (o7≤o7+Int.toNat x39*3+1∧o7+Int.toNat x39*3+1<(o7+l.length*3)),.e g7,.p (o7≤o7+Int.toNat x39*3∧o7+Int.toNat x39*3<(o7+l.length*3)),.p ((0:Int)≤x39∧(x39:Int)<(l.length:Int))] ⟨(agg3 (a8V_0 (gtD l) o7 x39.toNat) (a8V_1 (gtD l) o7 x39.toNat) (a8V_2 (gtD l) o7 x39.toNat)),(by omega),(by omega),(by omega),(by omega),tv⟩ fun ac wd hS=>?_;refine zwq ?_;refine hS.opsC 3 [0,400,600] [5,8,10,37,38,39] fun _=>seg [(44,pt bb3 0),(45,.agg #[vi 1,vi (N:Int),vi (gx:Int),vi rx,.slice aod ld.length cd]),(46,.agg #[v8 (gtD l x39.toNat).1,vi (gtD l x39.toNat).2.1,vi (gtD l x39.toNat).2.2])] zn6 [.e (ν10 0),.e (ν10 0),.e (ν10 0),.e (ν6 0),.e (ν6 0),.e (ν6 0),.e (ν6 0),.e (ν6 0)] tv fun ac wd hS=>?_;refine hS.callC 15 #[pt bb3 0,.agg #[vi 1,vi (N:Int),vi (gx:Int),vi rx,.slice aod ld.length cd],.agg #[v8 (gtD l x39.toNat).1,vi (gtD l x39.toNat).2.1,vi (gtD l x39.toNat).2.2]] (l08_DoR b'1 Fx mx bb3 N aod cd gd od ld gx rx (gtD l x39.toNat).1 (gtD l x39.toNat).2.1 (gtD l x39.toNat).2.2 qx Qx _ (hS.mem.res 0) (hS.mem.get 0 1 (.fn 0 64 dbT)) (hS.mem.get 3 bb3 (.fn 0 12 (roF (zbx b'1 N)))) (hS.mem.get 5 gd (zL ld od)) (hS.mem.nF (g:=1) (r:=arR b'1 Fx mx) 0 0) (hS.mem.nF (g:=bb3) (r:=arR b'1 Fx mx) 3 0) (hS.mem.nF (g:=gd) (r:=arR b'1 Fx mx) 5 0) hvd (by exact i1) (by exact i2) (by(rw [i4];exact(i1.dq i2).dc)) (by(have hac:=hAl _ (show Int.toNat x39<l.length by omega);exact hac.1)) (by(have hac:=hAl _ (show Int.toNat x39<l.length by omega);exact hac.2.2.1.2)) (by exact i3)) ?_;rintro _ wd ⟨g27,r28,mo9,q210,Q211,ao812,c813,g814,o815,F16,rfl,hB217,hF218,hr219,hv820,hA,hog0,hoh0,hnf0,hF⟩;have ho21:g814=1∨g814=gd∨w.heap.size≤g814:=by have:=hS.mem.fr.size;have:w.heap.size≤_:=this;omega
  refine⟨.tuple #[.agg #[vi 1,vi (N:Int),vi (g27:Int),vi r28,.slice ao812 (tkD q210 g27).length c813],vb true],rfl,?_⟩;replace hS:=(hS.to (hS.mem.outAT 0 rfl hA hF (g:=g814) (z:=zL (tkD q210 g27) o815) rfl hoh0 ((fun q_=>q_.elim (fun e=>.inl ⟨0,.fn 0 64 dbT,by rw [e];as_aux_lemma=>kernel_rfl,rfl⟩) (fun q_=>q_.elim (fun e=>.inl ⟨5,zL ld od,by rw [e];as_aux_lemma=>kernel_rfl,rfl⟩) (fun q_=>.inr q_))) hog0) hnf0)).put (d:=47) (v:=.tuple #[.agg #[vi 1,vi (N:Int),vi (g27:Int),vi r28,.slice ao812 (tkD q210 g27).length c813],vb true]) (by decide);clear hF;refine hS.opsC 6 [0,0,0,0,700,0] [5,8,10,37,38,39] fun ν12=>seg [(14,pt (ν12 0) 0)] [(0,none),(1,none),(2,none),(3,none),(4,none),(5,none),(6,none),(7,some ((ν12 0),.cells [vi 1,vi (N:Int),vi (g27:Int),vi r28,.slice ao812 (tkD q210 g27).length c813] 34))] [.e (ν12 0),.e (ν12 0),.e (ν12 0),.e (ν12 0),.e (ν12 0)] tv fun ac wd hS=>?_;refine zlq ?_;refine hS.regC [700,400] [5,8,10,37,38,39] fun _=>seg [] [(0,none),(1,none),(2,none),(3,none),(4,some ((ν6 0),.cells [vi 1,vi (N:Int),vi (g27:Int),vi r28,.slice ao812 (tkD q210 g27).length c813] 34)),(6,none)] [.e (ν6 0),.e (ν6 0),.e (ν6 0),.e (ν6 0),.e (ν6 0),.e (ν12 0),.e (ν12 0),.e (ν12 0),.e (ν12 0),.e (ν12 0)] tv fun ac wd hS=>?_;refine zpb ?_;refine zpt ?_;refine hS.regC [20,0] [5,8,10,37,38] fun _=>seg [(39,vi (x39+1))] zn6 [.p (fit .i64 (x39+1))] ⟨zf6 (by omega),tv⟩ fun ac wd hS=>?_;replace hS:=hS.perm (H':=[(1,.fn 0 64 dbT),(g7,.fn o7 (o7+l.length*3) (a8V (gtD l) o7)),((ν1 0),.cells [vi 0,vi 0,vi 0,vi 0,vnil] 34),(bb3,.fn 0 12 (roF (zbx b'1 N))),((ν6 0),.cells [vi 1,vi (N:Int),vi (g27:Int),vi r28,.slice ao812 (tkD q210 g27).length c813] 34),(g814,zL (tkD q210 g27) o815)]) [0,1,2,3,4,5] (by as_aux_lemma=>kernel_rfl) (by decide);exact zpt (hS.next ((x39+1),F16,mo9,g27,r28,q210,Q211,ao812,c813,g814,o815,(tkD q210 g27)) ⟨(by first|omega|assumption|(simp;done)|(simp;omega)),(by assumption),(by assumption),(by assumption),(by rfl),(by omega),(by exact hv820),tv⟩ (by dsimp only;omega))
 ·
  refine wp_exit ?_;refine zpe ?_;refine zpe ?_;refine zph ?_;refine zpt ?_;have hq_:(tkD qx gx)=ld:=(show ld=(tkD qx gx) by exact i4).symm;subst hq_;refine St.ordBeginS [(0,1),(1,1),(2,1),(3,0),(4,1)] [(1,.fn 0 64 dbT),(g7,.fn o7 (o7+l.length*3) (a8V (gtD l) o7)),(bb3,.fn 0 12 (roF (zbx b'1 N))),((ν6 0),.cells [vi 1,vi (N:Int),vi (gx:Int),vi rx,.slice aod (tkD qx gx).length cd] 34),(gd,zL (tkD qx gx) od)] [0,1,3,4,5] hS fun wd hS=>?_;have hap:=hS.mem.pairs (Hf:=[(1,.fn 0 64 dbT),(g7,.fn o7 (o7+l.length*3) (a8V (gtD l) o7)),(bb3,.fn 0 12 (roF (zbx b'1 N))),((ν6 0),.cells [vi 1,vi (N:Int),vi (gx:Int),vi rx,.slice aod (tkD qx gx).length cd] 34),(gd,zL (tkD qx gx) od)]) (l:=[0,1,3,4,5]);refine St.ordF [0,300,0] [0,1,2] [5] (rest:=[(3,0),(4,1)]) hS hap<|segF [(4,pt bb3 0),(53,.agg #[vi 1,vi (N:Int),vi (gx:Int),vi rx,.slice aod (tkD qx gx).length cd])] [.e (ν6 0),.e (ν6 0),.e (ν6 0),.e (ν6 0),.e (ν6 0)] tv fun ac hS=>?_;refine St.ord1 3 [200] [4,5] [0,1,3,4,5] hS rfl fun _=>seg [] [(0,none),(1,none),(2,some ((ν1 0),.cells [vi 1,vi (N:Int),vi (gx:Int),vi rx,.slice aod (tkD qx gx).length cd] 34)),(3,none),(4,none),(5,none)] [.e (ν1 0),.e (ν1 0),.e (ν1 0),.e (ν1 0),.e (ν1 0)] trivial ⟨by as_aux_lemma=>kernel_rfl,fun ac wd hS=>?_⟩
  refine St.ordF [0] [4] [4,5] (rest:=[]) hS hap<|segF [(6,vb true)] [] tv fun ac hS=>?_;refine zon ?_;refine wp_ret ?_;refine St.retC 2 hS (.tuple #[pt bb3 0,.agg #[vi 1,vi (N:Int),vi (gx:Int),vi rx,.slice aod (tkD qx gx).length cd],vb true]) [.e (ν1 0),.e (ν1 0),.e (ν1 0),.e (ν1 0),.e (ν1 0)] tv fun hw=>?_;refine⟨b'1,mx,bb3,gx,rx,qx,Qx,aod,cd,gd,od,Fx,retd rfl,?_,?_,(by first|exact hvd|exact .inl hz_|(rw [←hD];exact hvd)|(rw [←hD];exact .inl hz_)),(hw.res 0),ho5,(hw.get 3 bb3 (.fn 0 12 (roF (zbx b'1 N)))),(fun q_=>hw.free (bb3,.fn 0 12 (roF (zbx b'1 N))) (List.mem_of_getElem? (i:=3) (by as_aux_lemma=>kernel_rfl)) (.inl q_)),(by omega),(hw.get 5 gd (zL (tkD qx gx) od)),(fun q_=>hw.free (gd,zL (tkD qx gx) od) (List.mem_of_getElem? (i:=5) (by as_aux_lemma=>kernel_rfl)) (.inl q_)),hw.frA⟩
  all_goals (first|(first|rfl|exact i1|exact i2|assumption|(rw [←hD];done))|(intro x_ hx_;rfl)|(intro x_ hx_ hy_;rfl))
end Go.Proofs.YtojjkjedcafpeaaGreatDoor.K
