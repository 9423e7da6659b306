import Derived.Test.YtojjkjedcafpeaaGreatDoorM7
import Derived.Test.YtojjkjedcafpeaaGreatDoorUa
import Derived.Test.YtojjkjedcafpeaaGreatDoorProg
set_option maxRecDepth 100000
set_option maxHeartbeats 1000000
namespace Go.Proofs.YtojjkjedcafpeaaGreatDoor.K
set_option linter.unusedSimpArgs false
set_option linter.unusedVariables false
section
variable {L:List Rn}{x a k:Int}{b:Bool}
end
section
variable {m mo:AM}{N g G:Nat}{r r2:Int}{q q2:List Tg}{Q Q2:Nat→List Int}
end
theorem cap_N {c:Int}(h:¬imax 0 (imin c 80)≤1):∃N:Nat,imax 0 (imin c 80)=(N:Int)+1∧1≤N∧N≤79:=by
  have h2:imax 0 (imin c 80)≤80:=by unfold imax imin;split<;>split<;>omega
  exact⟨(imax 0 (imin c 80)-1).toNat,by omega,by omega,by omega⟩
theorem new_cap1 {c:Int}(h:c≤1):(AM.new c).cap≤1:=by
  show capN c≤1
  unfold capN imax imin;split<;>split<;>omega
theorem gw_ok {N g:Nat}{r k:Int}(h:gwE N g r k=0):gwBad k=false∧((gwG N g r k:Nat):Int)=upG g k+1*2^k.toNat∧((gwG N g r k:Nat):Int)%(1*2^k.toNat)=0∧(1*2^k.toNat:Int)≤((gwG N g r k:Nat):Int)-(g:Int)∧((gwG N g r k:Nat):Int)-(g:Int)<2*(1*2^k.toNat):=by
  obtain⟨u1,u2,u3,u4⟩:=upG_facts g k;have e:((gwG N g r k:Nat):Int)=upG g k+1*2^k.toNat:=by unfold gwG;rw [if_pos h];omega
  have hb:gwBad k=false:=by
    unfold gwE at h
    split at h
    · omega
    · rename_i hb;simpa using hb
  refine⟨hb,e,?_,by omega,by omega⟩;rw [e,Int.one_mul,Int.add_emod_right];have:((upG g k).toNat:Int)%((2^k.toNat:Nat):Int)=0:=by rw [←Int.natCast_emod,u3];rfl
  rw [Int.natCast_pow]at this;rw [Int.toNat_of_nonneg (by omega)]at this;exact this
theorem gw_no {N g:Nat}{r k:Int}(h:gwE N g r k≠0):gwG N g r k=g∧(gwE N g r k==2)=(decide (k<0)||decide (10<k)):=by
  refine⟨by unfold gwG;rw [if_neg h],?_⟩
  show _=gwBad k
  unfold gwE
  rcases gwBad k with _|_
  · simp only [Bool.false_eq_true,if_false];split
    · rfl
    · split<;>rfl
  · rfl
section
variable {m m' mo:AM}{N g:Nat}{r r' r2:Int}{q q' q2:List Tg}{Q Q' Q2:Nat→List Int}
theorem Bdy.tgN (h:Bdy m N g r q Q){s:Nat}(hs:2≤(gtD q s).1):(gtD q s=(2,(((gtD q s).2.toNat:Nat):Int))∨gtD q s=(3,(((gtD q s).2.toNat:Nat):Int))):=by
  have hsN:=h.tl.lt (p:=s) (by omega);have hl:=h.tl.len;obtain⟨t1,t2,t3,t4⟩:=h.bm.tg.rng s (by omega);have e2:(gtD q s).2=(((gtD q s).2.toNat:Nat):Int):=by omega
  by_cases e:(gtD q s).1=2
  · exact .inl (Prod.ext e e2)
  · exact .inr (Prod.ext (by show(gtD q s).1=3;omega) e2)
theorem Tl.one (h:Tl N g q){a b x:Nat}(ha:2≤(gtD q a).1)(hb:2≤(gtD q b).1)(h1:a≤x)(h2:x<a+wdQ q a)(h3:b≤x)(h4:x<b+wdQ q b):a=b:=by
  rcases Nat.lt_trichotomy a b with c|c|c
  · have:=h.apart ha hb c;omega
  · exact c
  · have:=h.apart hb ha c;omega
end
section
variable {m mo m':AM}{N g:Nat}{r r2:Int}{q q0 q2:List Tg}{Q Q2:Nat→List Int}
section
variable {x:Int}
theorem take_1 {L:List Rn}(h0:0≤x)(h1:x<(L.length:Int)):L.take (x+1).toNat=L.take x.toNat++[gtD L x.toNat]:=by
  have hlt:x.toNat<L.length:=by omega
  rw [show(x+1).toNat=x.toNat+1 by omega,List.take_succ_eq_append_getElem hlt,←gtD_lt hlt]
end
structure RnI (q:List Tg)(g:Nat)(x:Int)(y:Nat):Prop where
  up:rnUp q y
  le:y≤g
  tk:(rnTo q g).take x.toNat=rnTo q y
  bk:0<x→∃s,2≤(gtD q s).1∧s+wdQ q s=y∧gtD (rnTo q g) (x-1).toNat=rnE q s
theorem rnTo_pre {q:List Tg}(x:Nat):∀n,∃L,rnTo q (x+n)=rnTo q x++L
  |0=>⟨[],by simp⟩
  |n+1=>by
    obtain⟨L,e⟩:=rnTo_pre (q:=q) x n;rw [←Nat.add_assoc]
    unfold rnTo at e⊢
    rw [List.range_succ,List.filter_append,List.map_append,e];exact⟨_,List.append_assoc _ _ _⟩
theorem RnI.zero (q:List Tg)(g:Nat):RnI q g 0 0:=⟨rnUp_0 q,Nat.zero_le _,rfl,fun h=>absurd h (by decide)⟩
theorem RnI.st (h:Bdy m N g r q Q)(hf:FullG g q){x:Int}{y:Nat}(hi:RnI q g x y)(h0:0≤x)(h1:x<((rnTo q g).length:Int)):
    gtD (rnTo q g) x.toNat=rnE q y∧2≤(gtD q y).1∧y+wdQ q y≤g∧RnI q g (x+1) (y+wdQ q y)∧y%wdQ q y=0:=by
  have hyg:y<g:=by
    rcases Nat.lt_or_ge y g with c|c
    · exact c
    · exfalso
      have hyg:y=g:=by have:=hi.le;omega
      have e:=congrArg List.length hi.tk;rw [hyg,List.length_take]at e;omega
  have hyN:=h.tl.lt (hf y hyg);have hl:=h.tl.len;obtain⟨r1,r2,r3,r4⟩:=h.bm.tg.rng y (by omega);obtain⟨a1,a2,a3,a4⟩:=rn_step h.tl hyg (hf y hyg) r1 hi.up;obtain⟨L,eL⟩:=rnTo_pre (q:=q) (y+wdQ q y) (g-(y+wdQ q y));rw [show y+wdQ q y+(g-(y+wdQ q y))=g by omega,a2]at eL;have el:(rnTo q y).length=x.toNat:=by rw [←hi.tk,List.length_take];omega
  have e1:gtD (rnTo q g) x.toNat=rnE q y:=by
    rw [eL];unfold gtD;rw [List.getD_eq_getElem?_getD,List.append_assoc,List.getElem?_append_right (by omega),el,Nat.sub_self];rfl
  refine⟨e1,a1,a4,⟨a3,a4,?_,fun _=>⟨y,a1,rfl,by rw [show x+1-1=x by omega];exact e1⟩⟩,(h.tl.st y a1).2.2.1⟩;rw [take_1 h0 h1,hi.tk,e1,a2]
theorem RnI.end_ (h:Bdy m N g r q Q)(hf:FullG g q){x:Int}{y:Nat}(hi:RnI q g x y)(hx:((rnTo q g).length:Int)≤x):y=g:=by
  rcases Nat.lt_or_ge y g with c|c
  · exfalso
    have hyN:=h.tl.lt (hf y c);have hl:=h.tl.len;obtain⟨r1,r2,r3,r4⟩:=h.bm.tg.rng y (by omega);obtain⟨a1,a2,a3,a4⟩:=rn_step h.tl c (hf y c) r1 hi.up;obtain⟨L,eL⟩:=rnTo_pre (q:=q) (y+wdQ q y) (g-(y+wdQ q y));rw [show y+wdQ q y+(g-(y+wdQ q y))=g by omega,a2]at eL;have e:=hi.tk;rw [List.take_of_length_le (by omega),eL,List.append_assoc]at e;have:=congrArg List.length e
    simp at this
  · have:=hi.le;omega
end
section
variable {m m' mo:AM}{N g g2:Nat}{r r' r2:Int}{q q' q2:List Tg}{Q Q' Q2:Nat→List Int}
end
def rpE (q:List Tg)(p:Nat):Rn:=((p:Int),(gtD q p).2,(gtD q p).1==3)
def rnP (q:List Tg)(c:Nat):List Rn:=((List.range c).filter fun p=>decide (2≤(gtD q p).1)).map (rpE q)
def tkD (q:List Tg)(c:Nat):List Rn:=((List.range c).filter fun p=>(gtD q p).1==3).map (rpE q)
structure DQ (N g:Nat)(q:List Tg):Prop where
  tl:Tl N g q
  nf:NF q
  fl:FullG g q
  rng:∀p,0≤(gtD q p).1∧(gtD q p).1≤3
  nb:N≤79
structure DC (N g c:Nat)(q:List Tg)(L:List Rn):Prop where
  dq:DQ N g q
  cg:c≤g
  up:rnUp q c
  lst:L=tkD q c
def cov (L:List Rn)(j:Nat):Bool:=L.any fun e=>decide (e.1≤(j:Int))&&decide ((j:Int)<e.1+pgsN e.2.1)
def FrOf (L:List Rn)(c:Nat)(pf:Nat→Bool):Prop:=∀j,j<c→pf j= !cov L j
def AllD (pf:Nat→Bool)(c:Nat)(a n:Int)(ab:Bool):Prop:=(ab=true→a+n≤(c:Int)∧∀j:Nat,a≤(j:Int)→(j:Int)<a+n→pf j=true)∧(ab=false→¬(a+n≤(c:Int)∧∀j:Nat,a≤(j:Int)→(j:Int)<a+n→pf j=true))
section
variable {m:AM}{N g c:Nat}{r:Int}{q q2:List Tg}{Q:Nat→List Int}{L:List Rn}{pf:Nat→Bool}
theorem Bdy.dq (h:Bdy m N g r q Q)(hf:FullG g q):DQ N g q:=⟨h.tl,h.nf,hf,h.rgT,h.bm.nb.2⟩
theorem rnUp_g (h:Tl N g q):rnUp q g:=fun s _ h2=>(h.st s h2).2.2.2.1
theorem DQ.dc (h:DQ N g q):DC N g g q (tkD q g):=⟨h,Nat.le_refl _,rnUp_g h.tl,rfl⟩
theorem rnP_s (q:List Tg)(x:Nat):rnP q (x+1)=rnP q x++(if 2≤(gtD q x).1 then [rpE q x]else []):=by
  unfold rnP
  rw [List.range_succ,List.filter_append,List.map_append]
  congr 1
  by_cases h:2≤(gtD q x).1
  · rw [if_pos h,List.filter_cons_of_pos (by simpa using h)];rfl
  · rw [if_neg h,List.filter_cons_of_neg (by simpa using h)];rfl
theorem tkD_s (q:List Tg)(x:Nat):tkD q (x+1)=tkD q x++(if(gtD q x).1=3 then [rpE q x]else []):=by
  unfold tkD
  rw [List.range_succ,List.filter_append,List.map_append]
  congr 1
  by_cases h:(gtD q x).1=3
  · rw [if_pos h,List.filter_cons_of_pos (by simpa using h)];rfl
  · rw [if_neg h,List.filter_cons_of_neg (by simpa using h)];rfl
theorem rnP_no:∀(n:Nat) {x:Nat},(∀j,x≤j→j<x+n→(gtD q j).1<2)→rnP q (x+n)=rnP q x
  |0,x,_=>rfl
  |n+1,x,h=>by
    have ih:=rnP_no n (x:=x) (fun j h1 h2=>h j h1 (by omega));have:=h (x+n) (by omega) (by omega);rw [←Nat.add_assoc,rnP_s,ih,if_neg (by omega),List.append_nil]
theorem tkD_no:∀(n:Nat) {x:Nat},(∀j,x≤j→j<x+n→(gtD q j).1≠3)→tkD q (x+n)=tkD q x
  |0,x,_=>rfl
  |n+1,x,h=>by
    have ih:=tkD_no n (x:=x) (fun j h1 h2=>h j h1 (by omega));rw [←Nat.add_assoc,tkD_s,ih,if_neg (h (x+n) (by omega) (by omega)),List.append_nil]
theorem rnP_len (q:List Tg):∀x,(rnP q x).length≤x
  |0=>Nat.le_refl _
  |x+1=>by
    have:=rnP_len q x;rw [rnP_s,List.length_append];split<;>simp<;>omega
theorem tkD_len (q:List Tg):∀x,(tkD q x).length≤x
  |0=>Nat.le_refl _
  |x+1=>by
    have:=tkD_len q x;rw [tkD_s,List.length_append];split<;>simp<;>omega
theorem tkD_mem {x:Nat}{e:Rn}(h:e∈tkD q x):∃p,p<x∧(gtD q p).1=3∧e=rpE q p:=by
  unfold tkD at h
  obtain⟨p,h1,h2⟩:=List.mem_map.1 h;obtain⟨h3,h4⟩:=List.mem_filter.1 h1;exact⟨p,List.mem_range.1 h3,eq_of_beq h4,h2.symm⟩
theorem tkD_in {x p:Nat}(h1:p<x)(h2:(gtD q p).1=3):rpE q p∈tkD q x:=by
  unfold tkD
  exact List.mem_map.2 ⟨p,List.mem_filter.2 ⟨List.mem_range.2 h1,by rw [h2];rfl⟩,rfl⟩
theorem DC.len (h:DC N g c q L):L.length≤79:=by
  have h1:=h.dq.tl.gn;have h2:=h.cg;have h3:=h.dq.nb;rw [h.lst];have:=tkD_len q c;omega
theorem DC.c79 (h:DC N g c q L):c≤79:=by
  have h1:=h.dq.tl.gn;have h2:=h.cg;have h3:=h.dq.nb;omega
theorem DC.el (h:DC N g c q L){i:Nat}(hi:i<L.length):∃p:Nat,p<c∧gtD q p=(3,(gtD q p).2)∧gtD L i=rpE q p∧0≤(gtD q p).2∧(gtD q p).2≤10∧(p:Int)+pgsN (gtD q p).2≤(c:Int):=by
  have hm:gtD L i∈tkD q c:=by rw [gtD_lt hi,←h.lst];exact List.getElem_mem hi
  obtain⟨p,p1,p2,p3⟩:=tkD_mem hm;have h3:2≤(gtD q p).1:=by omega
  obtain⟨a1,a2,a3,a4,a5⟩:=h.dq.tl.st p h3;have:=h.up p p1 h3;refine⟨p,p1,Prod.ext p2 rfl,p3,a1,a2,?_⟩
  unfold pgsN;unfold wdQ at this;omega
theorem DC.elB (h:DC N g c q L){i:Nat}(hi:i<L.length):0≤(gtD L i).1∧(gtD L i).1≤79∧0≤(gtD L i).2.1∧(gtD L i).2.1≤10∧(gtD L i).1+pgsN (gtD L i).2.1≤(c:Int)∧(gtD L i).2.2=true:=by
  obtain⟨p,p1,p2,p3,p4,p5,p6⟩:=h.el hi;have hc:=h.c79;rw [p3];exact⟨by show(0:Int)≤(p:Int);omega,by show(p:Int)≤79;omega,p4,p5,p6,by unfold rpE;rw [p2];rfl⟩
theorem take_s {L:List Rn}{x:Int}(h0:0≤x)(h1:x<(L.length:Int)):L.take (x+1).toNat=L.take x.toNat++[gtD L x.toNat]:=by
  have hlt:x.toNat<L.length:=by omega
  rw [show(x+1).toNat=x.toNat+1 by omega,List.take_succ_eq_append_getElem hlt,←gtD_lt hlt]
theorem cov_app (L:List Rn)(e:Rn)(j:Nat):cov (L++[e]) j=(cov L j||(decide (e.1≤(j:Int))&&decide ((j:Int)<e.1+pgsN e.2.1))):=by
  unfold cov;rw [List.any_append];simp
def FrK (L:List Rn)(c:Nat)(x k:Int)(pf:Nat→Bool):Prop:=∀j,j<c→pf j= !(cov (L.take x.toNat) j||(decide ((gtD L x.toNat).1≤(j:Int))&&decide ((j:Int)<(gtD L x.toNat).1+k)))
def FrX (L:List Rn)(c:Nat)(x:Int)(pf:Nat→Bool):Prop:=FrOf (L.take x.toNat) c pf
theorem FrK.zero {x:Int}(h:FrX L c x pf):FrK L c x 0 pf:=fun j hj=>by
  rw [h j hj]
  by_cases e:(gtD L x.toNat).1≤(j:Int)
  · rw [decide_eq_false (show¬(j:Int)<(gtD L x.toNat).1+0 by omega),Bool.and_false,Bool.or_false]
  · rw [decide_eq_false e,Bool.false_and,Bool.or_false]
theorem FrK.st {x k:Int}{pf2:Nat→Bool}(h:FrK L c x k pf)(h0:0≤k)(ha:0≤(gtD L x.toNat).1)(hp:∀j,pf2 j=if j=((gtD L x.toNat).1+k).toNat then false else pf j):FrK L c x (k+1) pf2:=fun j hj=>by
  rw [hp]
  split
  · rename_i e
    rw [decide_eq_true (show(gtD L x.toNat).1≤(j:Int) by omega),decide_eq_true (show(j:Int)<(gtD L x.toNat).1+(k+1) by omega)];simp
  · rename_i e
    rw [h j hj]
    by_cases e2:(gtD L x.toNat).1≤(j:Int)
    · by_cases e3:(j:Int)<(gtD L x.toNat).1+k
      · rw [decide_eq_true e3,decide_eq_true (show(j:Int)<(gtD L x.toNat).1+(k+1) by omega)]
      · rw [decide_eq_false e3,decide_eq_false (show¬(j:Int)<(gtD L x.toNat).1+(k+1) by omega)]
    · rw [decide_eq_false e2,Bool.false_and,Bool.false_and]
theorem FrK.fin {x k:Int}(h:FrK L c x k pf)(h0:0≤x)(h1:x<(L.length:Int))(hk:k=pgsN (gtD L x.toNat).2.1):FrX L c (x+1) pf:=fun j hj=>by
  rw [take_s h0 h1,cov_app,h j hj,hk]
theorem FrX.zero (L:List Rn){c:Nat}(h:∀j,j<c→pf j=true):FrX L c 0 pf:=fun j hj=>by rw [h j hj];rfl
theorem FrX.fin {x:Int}(h:FrX L c x pf)(hx:(L.length:Int)≤x):FrOf L c pf:=fun j hj=>by
  rw [h j hj,List.take_of_length_le (by omega)]
theorem AllD.t {a n:Int}{ab:Bool}(h:AllD pf c a n ab)(he:ab=true):a+n≤(c:Int)∧∀j:Nat,a≤(j:Int)→(j:Int)<a+n→pf j=true:=h.1 he
theorem AllD.f {a n:Int}{ab:Bool}(h:AllD pf c a n ab)(he:ab=false):¬(a+n≤(c:Int)∧∀j:Nat,a≤(j:Int)→(j:Int)<a+n→pf j=true):=h.2 he
theorem put_upD {px:Nat→Bool}{x:Int}(h:∀j:Nat,(j:Int)<x→px j=true)(h0:0≤x):∀j:Nat,(j:Int)<x+1→putB px x.toNat true j=true:=fun j hj=>by
  unfold putB
  split
  · rfl
  · exact h j (by omega)
theorem all_st {px:Nat→Bool}{a x:Int}(h:∀j:Nat,a≤(j:Int)→(j:Int)<x→px j=true)(h0:0≤x)(hf:px x.toNat=true):∀j:Nat,a≤(j:Int)→(j:Int)<x+1→px j=true:=fun j h1 h2=>by
  by_cases e:(j:Int)<x
  · exact h j h1 e
  · rw [show j=x.toNat by omega];exact hf
theorem AllD.n1 {a n:Int}(h:(c:Int)<a+n):AllD pf c a n false:=⟨fun h2=>absurd h2 (by decide),fun _ h2=>absurd h2.1 (by omega)⟩
theorem AllD.n2 {a n x:Int}(h0:a≤x)(h1:x<a+n)(h2:0≤x)(hf:pf x.toNat=false):AllD pf c a n false:=⟨fun h3=>absurd h3 (by decide),fun _ h3=>Bool.false_ne_true (hf.symm.trans (h3.2 x.toNat (by omega) (by omega)))⟩
theorem AllD.y {a n x:Int}(h0:a+n≤(c:Int))(h:∀j:Nat,a≤(j:Int)→(j:Int)<x→pf j=true)(hx:a+n≤x):AllD pf c a n true:=⟨fun _=>⟨h0,fun j h1 h2=>h j h1 (by omega)⟩,fun h3=>absurd h3 (by decide)⟩
end
def rD (L:List Rn)(i:Int):Rn:=L.foldl (fun r x=>if x.1=i then x else r) (i,0,false)
section
variable {N g c:Nat}{q q2:List Tg}{L:List Rn}{pf:Nat→Bool}{x i rk rz ra:Int}{rb:Bool}{e:Rn}
theorem rD_y (h0:0≤x)(h1:x<(L.length:Int))(he:(gtD L x.toNat).1=i):(((gtD L x.toNat).1,(gtD L x.toNat).2.1,(gtD L x.toNat).2.2):Rn)=rD (L.take (x+1).toNat) i:=by
  rw [take_s h0 h1];unfold rD;rw [List.foldl_append]
  show _=if(gtD L x.toNat).1=i then gtD L x.toNat else _
  rw [if_pos he]
theorem rD_n (h:e=rD (L.take x.toNat) i)(h0:0≤x)(h1:x<(L.length:Int))(he:(gtD L x.toNat).1≠i):e=rD (L.take (x+1).toNat) i:=by
  rw [take_s h0 h1];unfold rD at h⊢;rw [List.foldl_append]
  show _=if(gtD L x.toNat).1=i then gtD L x.toNat else _
  rw [if_neg he];exact h
theorem fold_is {E:Rn} :∀(K:List Rn) (a:Rn),(∀e,e∈K→e.1=i→e=E)→K.foldl (fun r x=>if x.1=i then x else r) a=if K.any (fun e=>decide (e.1=i))then E else a
  |[],a,_=>rfl
  |y::K,a,h=>by
    have ih:=fold_is K (if y.1=i then y else a) (fun e he=>h e (List.mem_cons_of_mem _ he))
    show K.foldl _ (if y.1=i then y else a)=_
    rw [ih,List.any_cons]
    by_cases hy:y.1=i
    · rw [if_pos hy,decide_eq_true hy,Bool.true_or,if_pos rfl,h y List.mem_cons_self hy];split<;>rfl
    · rw [if_neg hy,decide_eq_false hy,Bool.false_or]
theorem DQ.inRun (h:DQ N g q){x:Nat}(hx:x<g):∃s,s≤x∧2≤(gtD q s).1∧x<s+wdQ q s:=by
  have hp0:=h.fl x hx;obtain⟨r1,r2⟩:=h.rng x
  by_cases e:2≤(gtD q x).1
  · exact⟨x,Nat.le_refl _,e,by have:0<wdQ q x:=Nat.pow_pos (by decide);omega⟩
  · obtain⟨s,s1,s2,s3⟩:=h.tl.ins x (by omega)
    exact⟨s,by omega,s2,s3⟩
theorem DQ.tgN (h:DQ N g q){s:Nat}(hs:2≤(gtD q s).1):(gtD q s=(2,(((gtD q s).2.toNat:Nat):Int))∨gtD q s=(3,(((gtD q s).2.toNat:Nat):Int))):=by
  obtain⟨r1,r2⟩:=h.rng s;have:=(h.tl.st s hs).1;have e2:(gtD q s).2=(((gtD q s).2.toNat:Nat):Int):=by omega
  by_cases e:(gtD q s).1=2
  · exact .inl (Prod.ext e e2)
  · exact .inr (Prod.ext (by show(gtD q s).1=3;omega) e2)
theorem DC.start (h:DC N g c q L){i:Nat}(hu:rnUp q i)(hi:i<c):2≤(gtD q i).1∧rnP q (i+wdQ q i)=rnP q i++[rpE q i]∧rnUp q (i+wdQ q i)∧i+wdQ q i≤c∧i%wdQ q i=0∧0≤(gtD q i).2∧(gtD q i).2≤10:=by
  have hcg:=h.cg;obtain⟨s,s1,s2,s3⟩:=h.dq.inRun (x:=i) (by omega)
  have hs:s=i:=by
    rcases Nat.lt_or_ge s i with c1|c1
    · have:=hu s c1 s2;omega
    · omega
  subst hs;obtain⟨a1,a2,a3,a4,a5⟩:=h.dq.tl.st s s2;refine⟨s2,?_,fun t t1 t2=>?_,h.up s hi s2,a3,a1,a2⟩
  · have e:s+wdQ q s=(s+1)+(wdQ q s-1):=by omega
    rw [e,rnP_no _ (fun j j1 j2=>by rw [a5 j (by omega) (by omega)];decide),rnP_s,if_pos s2]
  · by_cases e:t<s
    · have:=hu t e t2;omega
    · by_cases e2:t=s
      · subst e2;exact Nat.le_refl _
      · have:=a5 t (by omega) t1;omega
theorem rD_fin (h:DC N g c q L){i:Nat}(hi:i<c):rD L (i:Int)=((i:Int),if(gtD q i).1=3 then(gtD q i).2 else 0,(gtD q i).1==3):=by
  unfold rD
  have hE:∀e,e∈L→e.1=(i:Int)→e=rpE q i:=fun e he h1=>by
    rw [h.lst]at he;obtain⟨p,p1,p2,p3⟩:=tkD_mem he;subst p3;have:p=i:=by have h9:((p:Nat):Int)=(i:Int):=h1;omega
    rw [this]
  rw [fold_is L _ hE]
  by_cases h3:(gtD q i).1=3
  · have:L.any (fun e=>decide (e.1=(i:Int)))=true:=List.any_eq_true.2 ⟨rpE q i,by rw [h.lst];exact tkD_in hi h3,by unfold rpE;simp⟩
    rw [this,if_pos rfl,if_pos h3];rfl
  · have:L.any (fun e=>decide (e.1=(i:Int)))=false:=by
      cases hc:L.any (fun e=>decide (e.1=(i:Int)))with
      |false=>rfl
      |true=>
        obtain⟨e,h1,h2⟩:=List.any_eq_true.1 hc;have e1:=hE e h1 (of_decide_eq_true h2);rw [h.lst]at h1;obtain⟨p,p1,p2,p3⟩:=tkD_mem h1
        have:p=i:=by
          have h9:=of_decide_eq_true h2;rw [p3]at h9;have h9:((p:Nat):Int)=(i:Int):=h9;omega
        rw [this]at p2;exact absurd p2 h3
    rw [this,if_neg (by decide),if_neg h3];have:((gtD q i).1==3)=false:=beq_eq_false_iff_ne.2 h3;rw [this]
def RzI (q:List Tg)(x:Int)(rb:Bool)(rz:Int):Prop:=(rb=true→rz=(gtD q x.toNat).2)∧(rb=false→(gtD q x.toNat).1=2∧rz≤(gtD q x.toNat).2)∧0≤rz∧rz≤10
theorem rD_cell (h:DC N g c q L)(hu:rnUp q x.toNat)(h0:0≤x)(h1:x<(c:Int)){y:Int}(hy:(L.length:Int)≤y)(he:((ra,rk,rb):Rn)=rD (L.take y.toNat) x):ra=x∧rb=((gtD q x.toNat).1==3)∧RzI q x rb rk:=by
  rw [List.take_of_length_le (by omega)]at he;have hf:=rD_fin h (i:=x.toNat) (by omega);rw [show((x.toNat:Nat):Int)=x by omega]at hf;rw [hf]at he;obtain⟨s1,_,_,_,_,s6,s7⟩:=h.start hu (by omega);obtain⟨r1,r2⟩:=h.dq.rng x.toNat;have e1:=congrArg Prod.fst he;have e2:=congrArg (fun z:Rn=>z.2.1) he;have e3:=congrArg (fun z:Rn=>z.2.2) he
  dsimp only at e1 e2 e3
  refine⟨e1,e3,fun hb=>?_,fun hb=>?_,?_,?_⟩
  · rw [hb]at e3;rw [e2,if_pos (eq_of_beq e3.symm)]
  · rw [hb]at e3
    have hn:=beq_eq_false_iff_ne.1 e3.symm;exact⟨by omega,by rw [e2,if_neg hn];exact s6⟩
  · rw [e2];split<;>omega
  · rw [e2];split<;>omega
theorem rz_1 (m1:RzI q x rb rz)(hx:(gtD q x.toNat).2≤10)(h:(!rb&&decide (rz<10))=false):rz=(gtD q x.toNat).2:=by
  obtain⟨a1,a2,a3,a4⟩:=m1
  cases rb with
  |true=>exact a1 rfl
  |false=>
    have:=a2 rfl
    simp at h;omega
theorem rz_c (h:(!rb&&decide (rz<10))=true):rb=false∧rz<10:=by simpa using h
theorem rz_al (hx:0≤x)(hz:0≤rz):x%pgsN (rz+1)=((x.toNat%2^(rz.toNat+1):Nat):Int):=by
  unfold pgsN
  rw [show(rz+1).toNat=rz.toNat+1 by omega,Int.natCast_emod,Int.toNat_of_nonneg hx]
theorem rz_2 (h:DC N g c q L)(hu:rnUp q x.toNat)(h0:0≤x)(h1:x<(c:Int))(m1:RzI q x rb rz)(hc:rb=false∧rz<10)(hm:x%pgsN (rz+1)≠0):rz=(gtD q x.toNat).2:=by
  obtain⟨s1,s2,s3,s4,s5,s6,s7⟩:=h.start hu (show x.toNat<c by omega);obtain⟨a1,a2,a3,a4⟩:=m1;have:=a2 hc.1
  rcases Int.lt_or_le rz (gtD q x.toNat).2 with c1|c1
  · exfalso
    apply hm
    rw [rz_al h0 a3]
    unfold wdQ at s5
    rw [mod_le (by omega) s5];rfl
  · omega
theorem cov_free (h:DC N g c q L){s j:Nat}(hs:(gtD q s).1=2)(h1:s≤j)(h2:j<s+wdQ q s):cov L j=false:=by
  cases hc:cov L j with
  |false=>rfl
  |true=>
    exfalso
    obtain⟨e,e1,e2⟩:=List.any_eq_true.1 hc;rw [h.lst]at e1;obtain⟨p,p1,p2,rfl⟩:=tkD_mem e1
    simp only [Bool.and_eq_true,decide_eq_true_eq]at e2
    have e3:((p:Nat):Int)≤(j:Int):=e2.1;have e4:(j:Int)<(p:Int)+pgsN (gtD q p).2:=e2.2
    unfold pgsN at e4
    have hp:2≤(gtD q p).1:=by omega
    have:=h.dq.tl.one hp (by omega) (show p≤j by omega) (by unfold wdQ;omega) h1 h2;subst this;omega
theorem rz_3 (h:DC N g c q L)(hp:FrOf L c pf)(hu:rnUp q x.toNat)(h0:0≤x)(h1:x<(c:Int))(m1:RzI q x rb rz)(hc:rb=false∧rz<10)(hn:¬(x+pgsN (rz+1)≤(c:Int)∧∀j:Nat,x≤(j:Int)→(j:Int)<x+pgsN (rz+1)→pf j=true)):rz=(gtD q x.toNat).2:=by
  obtain⟨s1,s2,s3,s4,s5,s6,s7⟩:=h.start hu (show x.toNat<c by omega);obtain⟨a1,a2,a3,a4⟩:=m1;obtain⟨b1,b2⟩:=a2 hc.1
  rcases Int.lt_or_le rz (gtD q x.toNat).2 with c1|c1
  · exfalso
    have hle:pgsN (rz+1)≤((wdQ q x.toNat:Nat):Int):=by
      unfold pgsN wdQ
      have:=Nat.pow_le_pow_right (show 0<2 by decide) (show(rz+1).toNat≤(gtD q x.toNat).2.toNat by omega);omega
    refine hn ⟨by omega,fun j j1 j2=>?_⟩;rw [hp j (by omega),cov_free h b1 (show x.toNat≤j by omega) (by omega)];rfl
  · omega
theorem rz_go (h:DC N g c q L)(hp:FrOf L c pf)(hu:rnUp q x.toNat)(h0:0≤x)(h1:x<(c:Int))(m1:RzI q x rb rz)(hc:rb=false∧rz<10)(hm:x%pgsN (rz+1)=0)(ha:x+pgsN (rz+1)≤(c:Int)∧∀j:Nat,x≤(j:Int)→(j:Int)<x+pgsN (rz+1)→pf j=true):RzI q x rb (rz+1):=by
  obtain⟨s1,s2,s3,s4,s5,s6,s7⟩:=h.start hu (show x.toNat<c by omega);obtain⟨a1,a2,a3,a4⟩:=m1;obtain⟨b1,b2⟩:=a2 hc.1;have hcg:=h.cg;have hpg:pgsN (rz+1)=((2^(rz.toNat+1):Nat):Int):=by unfold pgsN;rw [show(rz+1).toNat=rz.toNat+1 by omega]
  rw [rz_al h0 a3]at hm;have hm:x.toNat%2^(rz.toNat+1)=0:=by omega
  rw [hpg]at ha
  have hfr:∀p,x.toNat≤p→p<x.toNat+2^(rz.toNat+1)→FrP q p:=fun p p1 p2=>by
    obtain⟨s,t1,t2,t3⟩:=h.dq.inRun (x:=p) (by omega)
    rcases h.dq.tgN t2 with e|e
    · exact⟨s,(gtD q s).2.toNat,e,t1,t3⟩
    · exfalso
      have hj:=ha.2 p (by omega) (by omega);rw [hp p (by omega)]at hj
      have:cov L p=true:=by
        refine List.any_eq_true.2 ⟨rpE q s,by rw [h.lst];exact tkD_in (by omega) (by rw [e]),?_⟩
        simp only [Bool.and_eq_true,decide_eq_true_eq]
        exact⟨by show(s:Int)≤(p:Int);omega,by show(p:Int)<(s:Int)+pgsN (gtD q s).2;unfold pgsN;unfold wdQ at t3;omega⟩
      rw [this]at hj;cases hj
  obtain⟨s,j,j1,j2,j3,j4⟩:=blk h.dq.tl h.dq.nf (rz.toNat+1) x.toNat (by omega) hm hfr;obtain⟨d1,d2,d3,d4,d5⟩:=h.dq.tl.two j2;have hpw:0<2^(rz.toNat+1):=Nat.pow_pos (by decide);have hw:0<wdQ q x.toNat:=Nat.pow_pos (by decide);have:=h.dq.tl.one (x:=x.toNat) s1 d5 (Nat.le_refl _) (by omega) (by omega) (by omega);rw [←this]at j2;have e2:(gtD q x.toNat).2=(j:Int):=by rw [j2]
  exact⟨fun hb=>absurd (hc.1.symm.trans hb) (by decide),fun _=>⟨b1,by omega⟩,by omega,by omega⟩
theorem rn_stepP (h:DC N g c q L)(hu:rnUp q x.toNat)(h0:0≤x)(h1:x<(c:Int)){lq:List Rn}(i1:lq=rnP q x.toNat)(ea:ra=x)(eb:rb=((gtD q x.toNat).1==3))(ez:rz=(gtD q x.toNat).2):lq++[((ra,rz,rb):Rn)]=rnP q (x+pgsN rz).toNat∧rnUp q (x+pgsN rz).toNat∧x+pgsN rz≤(c:Int)∧1≤pgsN rz∧0≤rz∧rz≤10:=by
  obtain⟨s1,s2,s3,s4,s5,s6,s7⟩:=h.start hu (show x.toNat<c by omega);have hw:0<wdQ q x.toNat:=Nat.pow_pos (by decide);have hp:pgsN rz=((wdQ q x.toNat:Nat):Int):=by rw [ez];rfl
  have e:(x+pgsN rz).toNat=x.toNat+wdQ q x.toNat:=by omega
  have hp2:pgsN (gtD q x.toNat).2=((wdQ q x.toNat:Nat):Int):=rfl;rw [e,s2,i1,ea,eb,ez];refine⟨?_,s3,by omega,by omega,s6,s7⟩
  unfold rpE
  rw [show((x.toNat:Nat):Int)=x by omega]
def bstD (k:Int)(L:List Rn):Rn:=L.foldl (fun b e=>if(!e.2.2&&decide (k≤e.2.1))&&decide (e.2.1<b.2.1)then e else b) (-1,11,false)
theorem bst_y {k:Int}(h:e=bstD k (L.take x.toNat))(h0:0≤x)(h1:x<(L.length:Int))(he:((!(gtD L x.toNat).2.2&&decide (k≤(gtD L x.toNat).2.1))&&decide ((gtD L x.toNat).2.1<e.2.1))=true):(((gtD L x.toNat).1,(gtD L x.toNat).2.1,(gtD L x.toNat).2.2):Rn)=bstD k (L.take (x+1).toNat):=by
  rw [take_s h0 h1];unfold bstD at h⊢;rw [List.foldl_append,←h]
  show _=if((!(gtD L x.toNat).2.2&&decide (k≤(gtD L x.toNat).2.1))&&decide ((gtD L x.toNat).2.1<e.2.1))=true then gtD L x.toNat else e
  rw [if_pos he]
theorem bst_n {k:Int}(h:e=bstD k (L.take x.toNat))(h0:0≤x)(h1:x<(L.length:Int))(he:((!(gtD L x.toNat).2.2&&decide (k≤(gtD L x.toNat).2.1))&&decide ((gtD L x.toNat).2.1<e.2.1))=false):e=bstD k (L.take (x+1).toNat):=by
  rw [take_s h0 h1];unfold bstD at h⊢;rw [List.foldl_append,←h]
  show _=if((!(gtD L x.toNat).2.2&&decide (k≤(gtD L x.toNat).2.1))&&decide ((gtD L x.toNat).2.1<e.2.1))=true then gtD L x.toNat else e
  rw [if_neg (by rw [he];decide)]
def FdD (q:List Tg)(k fi:Int):Prop:=(∃i kk:Nat,fi=(i:Int)∧Fnd q k.toNat i kk)∨(fi= -1∧NoF q k.toNat)
theorem bst_all (h:DQ N g q){k:Int}(hk:0≤k):∀x,x≤g→
    (bstD k (rnP q x)=(-1,11,false)∧∀p,p<x→∀j:Nat,k.toNat≤j→gtD q p≠(2,(j:Int)))∨
    ∃i kk:Nat,bstD k (rnP q x)=((i:Int),(kk:Int),false)∧k.toNat≤kk∧kk≤10∧gtD q i=(2,(kk:Int))∧(∀p,p<x→∀j:Nat,k.toNat≤j→j<kk→gtD q p≠(2,(j:Int)))∧∀p,p<i→gtD q p≠(2,(kk:Int))
  |0,_=>.inl ⟨rfl,fun p hp=>absurd hp (Nat.not_lt_zero _)⟩
  |x+1,hx=>by
    have ih:=bst_all h hk x (by omega)
    by_cases h2:2≤(gtD q x).1
    · have e1:bstD k (rnP q (x+1))=if((!((gtD q x).1==3)&&decide (k≤(gtD q x).2))&&decide ((gtD q x).2<(bstD k (rnP q x)).2.1))=true then rpE q x else bstD k (rnP q x):=by
        rw [rnP_s,if_pos h2];unfold bstD;rw [List.foldl_append];rfl
      obtain⟨a1,a2,_⟩:=h.tl.st x h2
      rcases h.tgN h2 with e|e
      · have eb:((gtD q x).1==3)=false:=by rw [e];rfl
        have er:rpE q x=((x:Int),((gtD q x).2.toNat:Int),false):=by unfold rpE;rw [eb,show(((gtD q x).2.toNat:Nat):Int)=(gtD q x).2 by omega]
        by_cases hc:((!((gtD q x).1==3)&&decide (k≤(gtD q x).2))&&decide ((gtD q x).2<(bstD k (rnP q x)).2.1))=true
        · rw [if_pos hc]at e1
          rw [eb]at hc
          simp only [Bool.not_false,Bool.true_and,Bool.and_eq_true,decide_eq_true_eq]at hc
          refine .inr ⟨x,(gtD q x).2.toNat,by rw [e1,er],by omega,by omega,e,fun p hp j j1 j2 hq=>?_,fun p hp hq=>?_⟩
          · rcases ih with⟨i1,i2⟩|⟨i,kk,i1,i2,i3,i4,i5,i6⟩
            · by_cases hpx:p=x
              · subst hpx;rw [hq]at j2;dsimp only at j2;omega
              · exact i2 p (by omega) j j1 hq
            · rw [i1]at hc
              by_cases hpx:p=x
              · subst hpx;rw [hq]at j2;dsimp only at j2;omega
              · exact i5 p (by omega) j j1 (by have:=hc.2;dsimp only at this;omega) hq
          · rcases ih with⟨i1,i2⟩|⟨i,kk,i1,i2,i3,i4,i5,i6⟩
            · exact i2 p hp _ (by omega) hq
            · rw [i1]at hc
              exact i5 p hp _ (by omega) (by have:=hc.2;dsimp only at this;omega) hq
        · rw [if_neg hc]at e1
          rw [eb]at hc
          simp only [Bool.not_false,Bool.true_and,Bool.and_eq_true,decide_eq_true_eq]at hc
          rcases ih with⟨i1,i2⟩|⟨i,kk,i1,i2,i3,i4,i5,i6⟩
          · refine .inl ⟨e1.trans i1,fun p hp j j1 hq=>?_⟩
            by_cases hpx:p=x
            · subst hpx
              rw [i1]at hc
              apply hc
              rw [hq];exact⟨by show k≤(j:Int);omega,by show(j:Int)<11;rw [hq]at a2;dsimp only at a2;omega⟩
            · exact i2 p (by omega) j j1 hq
          · refine .inr ⟨i,kk,e1.trans i1,i2,i3,i4,fun p hp j j1 j2 hq=>?_,i6⟩
            by_cases hpx:p=x
            · subst hpx
              rw [i1]at hc
              apply hc
              rw [hq];exact⟨by show k≤(j:Int);omega,by show(j:Int)<(kk:Int);omega⟩
            · exact i5 p (by omega) j j1 j2 hq
      · have eb:((gtD q x).1==3)=true:=by rw [e];rfl
        rw [eb]at e1;have e1:bstD k (rnP q (x+1))=bstD k (rnP q x):=by rw [e1];rfl
        rw [e1];have hne:∀j:Nat,gtD q x≠(2,(j:Int)):=fun j hq=>by rw [hq]at eb;cases eb
        rcases ih with⟨i1,i2⟩|⟨i,kk,i1,i2,i3,i4,i5,i6⟩
        · exact .inl ⟨i1,fun p hp j j1 hq=>by
            by_cases hpx:p=x
            · subst hpx;exact hne j hq
            · exact i2 p (by omega) j j1 hq⟩
        · exact .inr ⟨i,kk,i1,i2,i3,i4,fun p hp j j1 j2 hq=>by
            by_cases hpx:p=x
            · subst hpx;exact hne j hq
            · exact i5 p (by omega) j j1 j2 hq,i6⟩
    · have e1:bstD k (rnP q (x+1))=bstD k (rnP q x):=by rw [rnP_s,if_neg h2,List.append_nil]
      rw [e1];have hne:∀j:Nat,gtD q x≠(2,(j:Int)):=fun j hq=>h2 (by rw [hq];exact Int.le_refl 2)
      rcases ih with⟨i1,i2⟩|⟨i,kk,i1,i2,i3,i4,i5,i6⟩
      · exact .inl ⟨i1,fun p hp j j1 hq=>by
          by_cases hpx:p=x
          · subst hpx;exact hne j hq
          · exact i2 p (by omega) j j1 hq⟩
      · exact .inr ⟨i,kk,i1,i2,i3,i4,fun p hp j j1 j2 hq=>by
          by_cases hpx:p=x
          · subst hpx;exact hne j hq
          · exact i5 p (by omega) j j1 j2 hq,i6⟩
theorem bst_fd (h:DQ N g q){k:Int}(hk:0≤k){fa fk:Int}{fb:Bool}(hx:((rnP q g).length:Int)≤x)(he:((fa,fk,fb):Rn)=bstD k ((rnP q g).take x.toNat)):FdD q k fa:=by
  rw [List.take_of_length_le (by omega)]at he;have e1:fa=(bstD k (rnP q g)).1:=congrArg Prod.fst he
  have hlt:∀p j:Nat,gtD q p=(2,(j:Int))→p<g:=fun p j hq=>by
    obtain⟨a1,a2,a3,a4,a5⟩:=h.tl.two hq;have:0<2^j:=Nat.pow_pos (by decide);omega
  rcases bst_all h hk g (Nat.le_refl _)with⟨i1,i2⟩|⟨i,kk,i1,i2,i3,i4,i5,i6⟩
  · exact .inr ⟨by rw [e1,i1],fun j j1 j2 p hq=>i2 p (hlt p j hq) j j1 hq⟩
  · exact .inl ⟨i,kk,by rw [e1,i1],i2,i3,i4,fun j j1 j2 p hq=>i5 p (hlt p j hq) j j1 j2 hq,i6⟩
end
def cmR (r:Int):Int:=if r≤0 then -1 else r-1
def cmE (r:Int):Int:=if r=0 then 4 else 0
section
variable {N g c:Nat}{q q2:List Tg}{L:List Rn}{r k x:Int}
theorem cm_1 (h:r=0): -1=cmR r:=by unfold cmR;rw [if_pos (by omega)]
theorem cm_2 (h:r=0):4=cmE r:=by unfold cmE;rw [if_pos h]
theorem cm_3 (h:r≠0):0=cmE r:=by unfold cmE;rw [if_neg h]
theorem cm_4 (h:r≠0)(h1:0<r):r-1=cmR r:=by unfold cmR;rw [if_neg (by omega)]
theorem cm_5 (h1:r= -1):r=cmR r:=by unfold cmR;rw [if_pos (by omega)];exact h1
theorem cm_e1 (h:cmE r≠0):r=0:=by unfold cmE at h;split at h<;>first|assumption|omega
theorem cm_e2 (h:cmE r=0):r≠0:=by unfold cmE at h;split at h<;>first|assumption|omega
theorem cm_e3 (h:cmE r≠0):cmR r= -1∧cmE r=4:=by
  have:=cm_e1 h;subst this;exact⟨rfl,rfl⟩
theorem cm_e4 (hr: -1≤r∧r≤9223372036854775807)(h:cmE r=0):cmR r=(if r≤0 then -1 else r-1):=rfl
theorem up_mod (h0:(g:Int)≤x):x%pgsN k=((x.toNat%2^k.toNat:Nat):Int):=by
  unfold pgsN;rw [Int.natCast_emod,Int.toNat_of_nonneg (by omega)]
theorem up_nxt (hk:0≤k)(h0:(g:Int)≤x)(hx:x≤upG g k)(hm:x.toNat%2^k.toNat=0):x=upG g k:=by
  obtain⟨u1,u2,u3,u4⟩:=upG_facts g k;have e1:=Nat.div_add_mod x.toNat (2^k.toNat);have e2:=Nat.div_add_mod (upG g k).toNat (2^k.toNat);rw [hm]at e1;rw [u3]at e2;have hp:0<2^k.toNat:=Nat.pow_pos (by decide);have hc:((2^k.toNat:Nat):Int)=2^k.toNat:=by rw [Int.natCast_pow];rfl
  have hlt:(upG g k).toNat<x.toNat+2^k.toNat:=by omega
  have hle:x.toNat≤(upG g k).toNat:=by omega
  generalize 2^k.toNat=w at*
  generalize x.toNat/w=a at*
  generalize (upG g k).toNat/w=b at*
  have h3:w*b<w*(a+1):=by rw [Nat.mul_add,Nat.mul_one];omega
  have h4:w*a≤w*b:=by omega
  have h5:=Nat.lt_of_mul_lt_mul_left h3;have h6:=Nat.le_of_mul_le_mul_left h4 hp;have:a=b:=by omega
  subst this;omega
theorem up_lt (hk:0≤k)(h0:(g:Int)≤x)(hx:x≤upG g k)(hm:0<x%pgsN k):x<upG g k:=by
  rcases Int.lt_or_le x (upG g k)with c1|c1
  · exact c1
  · exfalso
    have e:x=upG g k:=by omega
    rw [up_mod h0,e,(upG_facts g k).2.2.1]at hm;exact absurd hm (by decide)
theorem up_eq (hk:0≤k)(h0:(g:Int)≤x)(hx:x≤upG g k)(hm:x%pgsN k≤0):x=upG g k:=by
  rw [up_mod h0]at hm;exact up_nxt hk h0 hx (by omega)
theorem pg_1 (k:Int):pgsN k=1*2^k.toNat:=by unfold pgsN;rw [Int.natCast_pow,Int.one_mul];rfl
theorem up_no (he:x=upG g k)(h:(N:Int)<x+pgsN k):(N:Int)-1*2^k.toNat<upG g k:=by rw [pg_1]at h;omega
theorem up_yes (he:x=upG g k)(h:x+pgsN k≤(N:Int)):upG g k≤(N:Int)-1*2^k.toNat:=by rw [pg_1]at h;omega
theorem cm_e5 {G:Nat}(he:x=upG g k)(h:G=(upG g k+1*2^k.toNat).toNat):x+pgsN k=(G:Int):=by
  obtain⟨u1,u2,u3,u4⟩:=upG_facts g k;rw [pg_1,h,he];omega
theorem cm_e0 (h:cmR r= -1∧cmE r=4):cmE r=4:=h.2
theorem bst_rng (h:DQ N g q)(hk:0≤k){fa fk:Int}{fb:Bool}(hx:((rnP q g).length:Int)≤x)(he:((fa,fk,fb):Rn)=bstD k ((rnP q g).take x.toNat)): -1≤fa∧fa≤100:=by
  rcases bst_fd h hk hx he with⟨i,kk,e,_,_,hq,_⟩|⟨e,_⟩
  · obtain⟨a1,a2,a3,a4,a5⟩:=h.tl.two hq
    have:=h.tl.gn;have:=h.nb;have:0<2^kk:=Nat.pow_pos (by decide);omega
  · omega
theorem tk_of {p:Nat}{t:Int}(hl:p<q.length)(h:gtD q p=(3,t)):tkE q (((p:Int)+1)*4096)=0∧tkK q (((p:Int)+1)*4096)=t:=by
  have ea:((p:Int)+1)*4096/4096-1=(p:Int):=by omega
  have eg:rgE q (p:Int)=0:=by unfold rgE;rw [if_neg (by omega)]
  have ev:rgV q (p:Int)=gtD q p:=by unfold rgV;rw [if_pos eg,Int.toNat_natCast]
  have e0:tkE q (((p:Int)+1)*4096)=0:=by
    unfold tkE
    rw [if_neg];rw [ea,eg,ev];rintro(c|c|c|c)
    · omega
    · omega
    · exact c rfl
    · rw [h]at c;exact c rfl
  refine⟨e0,?_⟩
  unfold tkK;rw [if_pos e0,ea,ev,h]
theorem ordD_y (h:DC N g g q L){i:Nat}(hi:i<L.length){pa:Int}(he:(gtD L i).1=pa):(gtD L i).2.1=tkK q ((pa+1)*4096)∧0=tkE q ((pa+1)*4096):=by
  obtain⟨p,p1,p2,p3,p4,p5,p6⟩:=h.el hi;rw [p3]at he⊢;have he:(p:Int)=pa:=he;subst he;have hl:=h.dq.tl.len;have hN:=h.dq.tl.lt (p:=p) (by rw [p2];show(3:Int)≠0;decide);obtain⟨e1,e2⟩:=tk_of (by omega) p2;exact⟨e2.symm,e1.symm⟩
theorem ord_st {pa:Int}(h:∀j:Nat,(j:Int)<x→(gtD L j).1≠pa)(h0:0≤x)(hn:(gtD L x.toNat).1≠pa):∀j:Nat,(j:Int)<x+1→(gtD L j).1≠pa:=fun j hj=>by
  by_cases e:(j:Int)<x
  · exact h j e
  · rw [show j=x.toNat by omega];exact hn
theorem tkE_no (h:DC N g g q L){pa:Int}(hp: -1≤pa)(hn:∀e,e∈L→e.1≠pa):tkE q ((pa+1)*4096)=8:=by
  rcases tkE_or q ((pa+1)*4096)with e|e
  · exfalso
    unfold tkE at e
    split at e
    · omega
    · rename_i hc
      have ea:(pa+1)*4096/4096-1=pa:=by omega
      rw [ea]at hc;have h1:rgE q pa=0:=Decidable.not_not.1 fun y=>hc (.inr (.inr (.inl y)))
      have h2:(rgV q pa).1=3:=Decidable.not_not.1 fun y=>hc (.inr (.inr (.inr y)))
      have hr:0≤pa:=by
        unfold rgE at h1
        split at h1
        · omega
        · omega
      have ev:rgV q pa=gtD q pa.toNat:=by unfold rgV;rw [if_pos h1]
      rw [ev]at h2
      have hg:pa.toNat<g:=by
        have:=(h.dq.tl.st pa.toNat (by omega)).2.2.2.1;have hw:0<wdQ q pa.toNat:=Nat.pow_pos (by decide);omega
      refine hn (rpE q pa.toNat) (by rw [h.lst];exact tkD_in hg h2) ?_
      show((pa.toNat:Nat):Int)=pa
      omega
  · exact e
theorem ordD_n (h:DC N g g q L){pa:Int}(hp: -1≤pa)(hn:∀j:Nat,(j:Int)<x→(gtD L j).1≠pa)(hx:(L.length:Int)≤x):0=tkK q ((pa+1)*4096)∧8=tkE q ((pa+1)*4096):=by
  have e:=tkE_no h hp fun e he=>by
    obtain⟨i,hi,rfl⟩:=List.mem_iff_getElem.1 he;have:=hn i (by omega)
    rwa [gtD_lt hi]at this
  refine⟨?_,e.symm⟩
  unfold tkK;rw [if_neg (by omega)]
end
section
variable {P:Program}{c:Cx}{n:Nat}{E:Env}{H:Heap}{A:List Res}{a:Act}{w:World}{o:Oper}
theorem WS.grListO {e sz m:Nat}{F:Nat→Prop}{f:Nat→Value}{ao:Option Addr}{c2:Nat}(h:WS c H A w)(j k:Nat){b lo hi:Nat}{fd:Nat→Value}(hj:A[j]? =some (grR e sz (.slice ao m c2) F (m,f)):=by rfl)(hk:H[k]? =some (b,.fn lo hi fd):=by as_aux_lemma=>kernel_rfl):
    ∃g,(m=0∨ao=some ⟨g,0,none⟩)∧(g=b∨c.D g∨c.w0.heap.size≤g)∧WS c (H++[(g,.fn 0 (0+m*sz) f)]) (A.eraseIdx j) w:=by
  have hm:=List.mem_of_getElem? hj;have hd:WS c H (A.eraseIdx j) w:=h.dropA [] (fun q hq=>(List.eraseIdx_sublist _ _).subset hq) (h.ars.apart.sublist (List.eraseIdx_sublist _ _))
  rcases h.ars.each _ hm with⟨_,h0,_⟩|⟨g,cap,hv,h0,hh,hle,hF⟩
  · have h0:m=0:=h0
    exact⟨b,.inl h0,.inl rfl,hd.addNone k (by rw [h0,Nat.zero_mul]) hk⟩
  · have hv:(Value.slice ao m c2)=sc g 0 m cap:=hv
    have hg:=(hF g).2 rfl;refine⟨g,.inr (by cases hv;rfl),.inr (h.fr.foot g (inF_iff.2 ⟨_,hm,hg⟩)),hd.add (HE.row_to hh (by show m*sz=0+m*sz;omega) (fun _ _=>rfl)) (fun q=>by cases q) (fun hn=>?_) (fun e' he ho e1=>?_)⟩
    · obtain⟨r,hr,hk⟩:=inF_iff.1 hn
      obtain⟨i,hi1,hi2⟩:=List.mem_eraseIdx_iff_getElem?.1 hr
      rcases Nat.lt_or_gt_of_ne hi1 with hl|hl
      · exact pairwise_getR h.ars.apart hl hi2 hj g hk hg
      · exact pairwise_getR h.ars.apart hl hj hi2 g hg hk
    · exact h.free _ he (inF_iff.2 ⟨_,hm,by rw [e1];exact hg⟩)
end
def delD (L:List Rn)(a:Int):List Rn:=L.filter fun e=>e.1 !=a
def lowD (L:List Rn)(a:Int):List Rn:=L.filter fun e=>decide (e.1<a)
def higD (L:List Rn)(a:Int):List Rn:=L.filter fun e=>decide (a<e.1)
def alI (a e:Int):Int:=if e=0 then a/4096-1 else 0
section
variable {N g g2 c:Nat}{q q2 qb:List Tg}{L:List Rn}{r r2 k x a e pa:Int}
theorem del_len (L:List Rn)(a:Int):(delD L a).length≤L.length:=List.length_filter_le _ _
theorem low_len (L:List Rn)(a:Int):(lowD L a).length≤L.length:=List.length_filter_le _ _
theorem hig_len (L:List Rn)(a:Int):(higD L a).length≤L.length:=List.length_filter_le _ _
theorem del_lenT (L:List Rn)(a:Int)(n:Nat):(delD (L.take n) a).length≤L.length:=Nat.le_trans (del_len _ _) (by rw [List.length_take];exact Nat.min_le_right _ _)
theorem low_lenT (L:List Rn)(a:Int)(n:Nat):(lowD (L.take n) a).length≤L.length:=Nat.le_trans (low_len _ _) (by rw [List.length_take];exact Nat.min_le_right _ _)
theorem hig_lenT (L:List Rn)(a:Int)(n:Nat):(higD (L.take n) a).length≤L.length:=Nat.le_trans (hig_len _ _) (by rw [List.length_take];exact Nat.min_le_right _ _)
theorem del_y {lq:List Rn}(i1:lq=delD (L.take x.toNat) a)(h0:0≤x)(h1:x<(L.length:Int))(hn:(gtD L x.toNat).1≠a):lq++[gtD L x.toNat]=delD (L.take (x+1).toNat) a:=by
  rw [take_s h0 h1,i1];unfold delD;rw [List.filter_append,List.filter_cons_of_pos (by simpa using hn)];rfl
theorem del_n {lq:List Rn}(i1:lq=delD (L.take x.toNat) a)(h0:0≤x)(h1:x<(L.length:Int))(hn:(gtD L x.toNat).1=a):lq=delD (L.take (x+1).toNat) a:=by
  rw [take_s h0 h1,i1];unfold delD;rw [List.filter_append,List.filter_cons_of_neg (by simpa using hn)];simp
theorem low_y {lq:List Rn}(i1:lq=lowD (L.take x.toNat) a)(h0:0≤x)(h1:x<(L.length:Int))(hn:(gtD L x.toNat).1<a):lq++[gtD L x.toNat]=lowD (L.take (x+1).toNat) a:=by
  rw [take_s h0 h1,i1];unfold lowD;rw [List.filter_append,List.filter_cons_of_pos (by simpa using hn)];rfl
theorem low_n {lq:List Rn}(i1:lq=lowD (L.take x.toNat) a)(h0:0≤x)(h1:x<(L.length:Int))(hn:a≤(gtD L x.toNat).1):lq=lowD (L.take (x+1).toNat) a:=by
  rw [take_s h0 h1,i1];unfold lowD;rw [List.filter_append,List.filter_cons_of_neg (by simp;omega)];simp
theorem hig_y {lq A:List Rn}(i1:lq=A++higD (L.take x.toNat) a)(h0:0≤x)(h1:x<(L.length:Int))(hn:a<(gtD L x.toNat).1):lq++[gtD L x.toNat]=A++higD (L.take (x+1).toNat) a:=by
  rw [take_s h0 h1,i1];unfold higD;rw [List.filter_append,List.filter_cons_of_pos (by simpa using hn),List.append_assoc];rfl
theorem hig_n {lq A:List Rn}(i1:lq=A++higD (L.take x.toNat) a)(h0:0≤x)(h1:x<(L.length:Int))(hn:(gtD L x.toNat).1≤a):lq=A++higD (L.take (x+1).toNat) a:=by
  rw [take_s h0 h1,i1];unfold higD;rw [List.filter_append,List.filter_cons_of_neg (by simp;omega)];simp
theorem del_all {i:Nat}(ht:∀(j:Nat) (t:Int),gtD q2 j=(3,t)↔gtD q j=(3,t)∧j≠i):∀n,delD (tkD q n) (i:Int)=tkD q2 n
  |0=>rfl
  |n+1=>by
    have ih:=del_all ht n;rw [tkD_s,tkD_s,←ih]
    unfold delD
    rw [List.filter_append]
    congr 1
    by_cases h:(gtD q n).1=3
    · have e3:gtD q n=(3,(gtD q n).2):=Prod.ext h rfl
      rw [if_pos h]
      by_cases hn:n=i
      · have:¬(gtD q2 n).1=3:=fun e=>((ht n _).1 (Prod.ext e rfl)).2 hn
        rw [if_neg this,List.filter_cons_of_neg]
        · rfl
        · show¬(((n:Nat):Int)!=(i:Int))=true
          rw [hn];simp
      · have e4:=(ht n _).2 ⟨e3,hn⟩
        rw [if_pos (by rw [e4]),List.filter_cons_of_pos]
        · unfold rpE;rw [e4,e3];rfl
        · show(((n:Nat):Int)!=(i:Int))=true
          exact bne_iff_ne.2 fun e=>hn (by omega)
    · have:¬(gtD q2 n).1=3:=fun e=>h (by rw [((ht n _).1 (Prod.ext e rfl)).1])
      rw [if_neg h,if_neg this];rfl
theorem free_no (h:DC N g g q L)(hF:FreeP q a q2)(he:tkE q a≠0):L=tkD q2 g:=by
  rcases hF with⟨_,e⟩|⟨e,_⟩
  · rw [e];exact h.lst
  · exact absurd e he
theorem free_yes (h:DC N g g q L)(hp: -1≤pa)(hF:FreeP q ((pa+1)*4096) q2)(he:tkE q ((pa+1)*4096)=0):delD L pa=tkD q2 g:=by
  rcases hF with⟨e,_⟩|⟨_,ht,_⟩
  · exact absurd he e
  · have e1:tkI q ((pa+1)*4096)=pa:=by unfold tkI;rw [if_pos he];omega
    rw [e1]at ht
    have hpa:0≤pa:=by
      rcases Int.lt_or_le pa 0 with c1|c1
      · exfalso
        unfold tkE at he
        split at he
        · omega
        · rename_i hc
          apply hc
          have e9:(pa+1)*4096/4096-1=pa:=by omega
          refine .inr (.inr (.inl ?_));rw [e9];unfold rgE;rw [if_pos (by omega)];decide
      · exact c1
    have:=del_all ht g;rw [show((pa.toNat:Nat):Int)=pa by omega,←h.lst]at this;exact this
theorem al_all {i:Nat}{k:Nat}(ht:TkP qb i k q2):∀n,tkD q2 n=if n≤i then tkD qb n else lowD (tkD qb n) (i:Int)++[((i:Int),(k:Int),true)]++higD (tkD qb n) (i:Int)
  |0=>by rw [if_pos (Nat.zero_le _)];rfl
  |n+1=>by
    have ih:=al_all ht n
    have hlo:∀m,m≤i→lowD (tkD qb m) (i:Int)=tkD qb m∧higD (tkD qb m) (i:Int)=[]:=fun m hm=>by
      refine⟨List.filter_eq_self.2 fun e he=>?_,List.filter_eq_nil_iff.2 fun e he=>?_⟩
      · obtain⟨p,p1,p2,rfl⟩:=tkD_mem he
        exact decide_eq_true (show((p:Nat):Int)<(i:Int) by omega)
      · obtain⟨p,p1,p2,rfl⟩:=tkD_mem he
        show¬decide ((i:Int)<((p:Nat):Int))=true
        rw [decide_eq_false (show¬(i:Int)<((p:Nat):Int) by omega)];decide
    rw [tkD_s q2,ih]
    by_cases h1:n+1≤i
    · rw [if_pos (show n≤i by omega),if_pos h1,tkD_s]
      congr 1
      have hiff:(gtD q2 n).1=3↔(gtD qb n).1=3:=⟨fun e=>by
        rcases(ht.tk n _).1 (Prod.ext e rfl)with c1|c1
        · rw [c1]
        · omega,fun e=>by rw [(ht.tk n (gtD qb n).2).2 (.inl (Prod.ext e rfl))]⟩
      by_cases h3:(gtD qb n).1=3
      · have e4:=(ht.tk n (gtD qb n).2).2 (.inl (Prod.ext h3 rfl))
        rw [if_pos h3,if_pos (hiff.2 h3)]
        unfold rpE;rw [e4];rw [show gtD qb n=(3,(gtD qb n).2)from Prod.ext h3 rfl]
      · rw [if_neg h3,if_neg fun e=>h3 (hiff.1 e)]
    · rw [if_neg h1]
      by_cases h2:n≤i
      · have hn:n=i:=by omega
        subst hn;obtain⟨l1,l2⟩:=hlo n (Nat.le_refl _);have hnew:¬(gtD qb n).1=3:=fun e=>ht.new (gtD qb n).2 (Prod.ext e rfl)
        have e4:=(ht.tk n (k:Int)).2 (.inr ⟨rfl,rfl⟩);rw [if_pos (Nat.le_refl _),tkD_s qb,if_neg hnew,List.append_nil,l1,l2,List.append_nil,if_pos (by rw [e4])]
        unfold rpE;rw [e4];rfl
      · rw [if_neg h2,tkD_s qb]
        have hiff:(gtD q2 n).1=3↔(gtD qb n).1=3:=⟨fun e=>by
          rcases(ht.tk n _).1 (Prod.ext e rfl)with c1|c1
          · rw [c1]
          · omega,fun e=>by rw [(ht.tk n (gtD qb n).2).2 (.inl (Prod.ext e rfl))]⟩
        by_cases h3:(gtD qb n).1=3
        · have e4:=(ht.tk n (gtD qb n).2).2 (.inl (Prod.ext h3 rfl))
          rw [if_pos h3,if_pos (hiff.2 h3)];have er:rpE q2 n=rpE qb n:=by unfold rpE;rw [e4];rw [show gtD qb n=(3,(gtD qb n).2)from Prod.ext h3 rfl]
          unfold lowD higD
          rw [List.filter_append,List.filter_append,List.filter_cons_of_neg (by show¬decide (((n:Nat):Int)<(i:Int))=true;simp;omega),List.filter_cons_of_pos (by show decide ((i:Int)<((n:Nat):Int))=true;simp;omega),er]
          simp
        · rw [if_neg h3,if_neg fun e=>h3 (hiff.1 e),List.append_nil,List.append_nil]
theorem al_end {i:Nat}(h:DC N g2 g2 qb L)(ht:TkP qb i k.toNat q2)(hk:0≤k)(hi:i<g2):(lowD L (i:Int)++[((i:Int),k,true)])++higD L (i:Int)=tkD q2 g2:=by
  have:=al_all ht g2;rw [if_neg (by omega),←h.lst,show((k.toNat:Nat):Int)=k by omega]at this;exact this.symm
theorem fd_neg {fi:Int}(h:FdD q k fi)(hn:fi<0):NoF q k.toNat:=by
  rcases h with⟨i,kk,e,_⟩|h
  · omega
  · exact h.2
theorem fd_pos {fi:Int}(h:FdD q k fi)(hn:0≤fi):∃i kk:Nat,Fnd q k.toNat i kk:=by
  rcases h with⟨i,kk,e,h⟩|h
  · exact⟨i,kk,h⟩
  · omega
theorem fnd_one {k i kk i' kk':Nat}(h:Fnd q k i kk)(h':Fnd q k i' kk'):i=i':=by
  obtain⟨a1,a2,a3,a4,a5⟩:=h;obtain⟨b1,b2,b3,b4,b5⟩:=h'
  have:kk=kk':=by
    rcases Nat.lt_trichotomy kk kk' with c1|c1|c1
    · exact absurd a3 (b4 kk a1 c1 i)
    · exact c1
    · exact absurd b3 (a4 kk' b1 c1 i')
  subst this
  rcases Nat.lt_trichotomy i i' with c1|c1|c1
  · exact absurd a3 (b5 i c1)
  · exact c1
  · exact absurd b3 (a5 i' c1)
theorem fd_at {fi:Int}{i kk:Nat}(h:FdD q k fi)(hf:Fnd q k.toNat i kk):fi=(i:Int):=by
  rcases h with⟨i',kk',e,h⟩|h
  · rw [e,fnd_one h hf]
  · exact absurd hf.2.2.1 (h.2 kk hf.1 hf.2.1 i)
theorem al_bad (h:DC N g g q L)(hA:AlP N g r q k a e g2 r2 q2)(hb:gwBad k=true):e=2∧g2=g∧r2=r∧L=tkD q2 g2∧alI a e=0:=by
  rcases hA with⟨_,h1,h2,h3,h4,h5⟩|hA|hA
  · exact⟨h1,h3,h4,by rw [h3,h5];exact h.lst,by rw [h1];rfl⟩
  · rw [hb]at hA;exact absurd hA.1 (by decide)
  · rw [hb]at hA;exact absurd hA.1 (by decide)
theorem al_no (h:DC N g g q L)(hA:AlP N g r q k a e g2 r2 q2)(hb:gwBad k=false)(hn:NoF q k.toNat)(hg:gwE N g r k≠0):e=gwE N g r k∧g2=gwG N g r k∧r2=gwR N g r k∧L=tkD q2 g2∧alI a e=0:=by
  rcases hA with hA|⟨_,_,_,h1,h2,h3,h4,h5⟩|⟨_,_,gb,rb,qb,i,kk,hB,_,_,_,hf,_⟩
  · rw [hb]at hA;exact absurd hA.1 (by decide)
  · refine⟨h1,h3,h4,?_,?_⟩
    · rw [h3,h5,(gw_no hg).1];exact h.lst
    · unfold alI;rw [if_neg (by rw [h1];exact hg)]
  · rcases hB with⟨_,_,e9⟩|⟨_,e9,_⟩
    · subst e9;exact absurd hf.2.2.1 (hn kk hf.1 hf.2.1 i)
    · exact absurd e9 hg
theorem tkD_cg {q q':List Tg}(ht:∀(j:Nat) (t:Int),gtD q' j=(3,t)↔gtD q j=(3,t)):∀n,tkD q' n=tkD q n
  |0=>rfl
  |n+1=>by
    rw [tkD_s,tkD_s,tkD_cg ht n]
    congr 1
    by_cases h3:(gtD q n).1=3
    · have e3:gtD q n=(3,(gtD q n).2):=Prod.ext h3 rfl
      have e4:=(ht n _).2 e3;rw [if_pos h3,if_pos (by rw [e4])]
      unfold rpE;rw [e4,e3]
    · rw [if_neg h3,if_neg fun e=>h3 (by rw [(ht n (gtD q' n).2).1 (Prod.ext e rfl)])]
theorem tkD_up (h:Tl N g q){G:Nat}(hG:g≤G):tkD q G=tkD q g:=by
  obtain⟨n,rfl⟩:∃n,G=g+n:=⟨G-g,by omega⟩;refine tkD_no n fun j h1 h2 e=>?_;have:=(h.st j (by omega)).2.2.2.1;have hw:0<wdQ q j:=Nat.pow_pos (by decide);omega
theorem al_yes (h:DC N g g q L)(hA:AlP N g r q k a e g2 r2 q2)(hb:gwBad k=false)(hn:¬NoF q k.toNat):∃(qb:List Tg) (i kk:Nat),DC N g g qb L∧Fnd qb k.toNat i kk∧TkP qb i k.toNat q2∧i<g2∧e=0∧g=g2∧r=r2∧alI a e=(i:Int)∧DC N g2 g2 qb L:=by
  rcases hA with hA|⟨_,h1,_⟩|⟨_,he,gb,rb,qb,i,kk,hB,htl,hnf,hfl,hf,ha,hg,hr,ht,hrng⟩
  · rw [hb]at hA;exact absurd hA.1 (by decide)
  · exact absurd h1 hn
  · obtain⟨a1,a2,a3,a4,a5⟩:=htl.two hf.2.2.1
    have hw:0<2^kk:=Nat.pow_pos (by decide)
    rcases hB with⟨e1,e2,e3⟩|⟨e1,_⟩
    · subst e3
      subst e1;subst hg;exact⟨qb,i,kk,h,hf,ht,by omega,he,rfl,e2.symm.trans hr.symm,by unfold alI;rw [if_pos he,ha];unfold bpA;omega,h⟩
    · exact absurd e1 hn
theorem al_gr (h:DC N g g q L)(hA:AlP N g r q k a e g2 r2 q2)(hb:gwBad k=false)(hn:NoF q k.toNat)(hge:gwE N g r k=0):∃(qb:List Tg) (i kk:Nat),DC N (gwG N g r k) (gwG N g r k) qb L∧Fnd qb k.toNat i kk∧TkP qb i k.toNat q2∧i<g2∧e=0∧gwG N g r k=g2∧gwR N g r k=r2∧alI a e=(i:Int)∧DC N g2 g2 qb L:=by
  rcases hA with hA|⟨_,_,h1,_⟩|⟨_,he,gb,rb,qb,i,kk,hB,htl,hnf,hfl,hf,ha,hg,hr,ht,hrng⟩
  · rw [hb]at hA;exact absurd hA.1 (by decide)
  · exact absurd hge h1
  · obtain⟨a1,a2,a3,a4,a5⟩:=htl.two hf.2.2.1
    have hw:0<2^kk:=Nat.pow_pos (by decide)
    rcases hB with⟨_,_,e3⟩|⟨_,_,e1,e2,e3⟩
    · subst e3;exact absurd hf.2.2.1 (hn kk hf.1 hf.2.1 i)
    · subst e1
      have hd:DC N (gwG N g r k) (gwG N g r k) qb L:=by
        refine⟨⟨htl,hnf,hfl,hrng,h.dq.nb⟩,Nat.le_refl _,rnUp_g htl,?_⟩
        have hgg:g≤gwG N g r k:=by
          obtain⟨w1,w2,w3,w4,w5⟩:=gw_ok hge;have:=(pw_bd (gr_bad w1)).1;omega
        rw [tkD_cg e3,tkD_up h.dq.tl hgg];exact h.lst
      exact⟨qb,i,kk,hd,hf,ht,by omega,he,hg.symm,e2.symm.trans hr.symm,by unfold alI;rw [if_pos he,ha];unfold bpA;omega,by rw [hg];exact hd⟩
theorem rnP_last (h:DC N g c q L)(hc:0<c):∃s,s<c∧2≤(gtD q s).1∧s+wdQ q s=c∧rnUp q s∧0<(rnP q c).length∧gtD (rnP q c) ((rnP q c).length-1)=rpE q s∧rnP q c=rnP q s++[rpE q s]:=by
  have hcg:=h.cg;obtain⟨s,s1,s2,s3⟩:=h.dq.inRun (x:=c-1) (by omega);have hs:=h.up s (by omega) s2;obtain⟨a1,a2,a3,a4,a5⟩:=h.dq.tl.st s s2;have e:s+wdQ q s=c:=by omega
  have hw:0<wdQ q s:=Nat.pow_pos (by decide)
  have eL:rnP q c=rnP q s++[rpE q s]:=by
    rw [←e,show s+wdQ q s=(s+1)+(wdQ q s-1) by omega,rnP_no _ (fun j j1 j2=>by rw [a5 j (by omega) (by omega)];decide),rnP_s,if_pos s2]
  refine⟨s,by omega,s2,e,fun t t1 t2=>?_,by rw [eL];simp,?_,eL⟩
  · exact h.dq.tl.apart t2 s2 t1
  · rw [eL,List.length_append]
    show gtD _ ((rnP q s).length+1-1)=_
    unfold gtD
    rw [Nat.add_sub_cancel,List.getD_eq_getElem?_getD,List.getElem?_append_right (Nat.le_refl _),Nat.sub_self];rfl
structure ShI (N g c:Nat)(q:List Tg)(L:List Rn):Prop where
  dc:DC N g c q L
  no:∀p,c≤p→(gtD q p).1≠3
theorem ShI.zero (h:DC N g g q L):ShI N g g q L:=⟨h,fun p hp e=>by
  have:=(h.dq.tl.st p (by omega)).2.2.2.1;have hw:0<wdQ q p:=Nat.pow_pos (by decide)
  omega⟩
theorem ShI.step (h:ShI N g c q L)(hl:0<(rnP q c).length)(hn:(gtD (rnP q c) ((rnP q c).length-1)).2.2=false):∃s:Nat,s<c∧(gtD (rnP q c) ((rnP q c).length-1)).1=(s:Int)∧ShI N g s q L:=by
  have hc:0<c:=by
    rcases Nat.eq_zero_or_pos c with e|e
    · subst e;exact absurd hl (Nat.lt_irrefl 0)
    · exact e
  obtain⟨s,s1,s2,s3,s4,s5,s6,s7⟩:=rnP_last h.dc hc;rw [s6]at hn⊢;have h3:(gtD q s).1≠3:=beq_eq_false_iff_ne.1 hn;obtain⟨a1,a2,a3,a4,a5⟩:=h.dc.dq.tl.st s s2
  have hno:∀j,s≤j→j<c→(gtD q j).1≠3:=fun j j1 j2=>by
    by_cases e:j=s
    · rw [e];exact h3
    · rw [a5 j (by omega) (by omega)];decide
  have hcg:=h.dc.cg;refine⟨s,s1,rfl,⟨h.dc.dq,by omega,s4,?_⟩,fun p hp=>?_⟩
  · rw [h.dc.lst]
    obtain⟨n,rfl⟩:∃n,c=s+n:=⟨c-s,by omega⟩;exact tkD_no n hno
  · rcases Nat.lt_or_ge p c with c1|c1
    · exact hno p hp c1
    · exact h.no p c1
theorem ShI.end_ (h:ShI N g c q L)(hs:ShP q g g2 q2)(h2:DQ N g2 q2)(he:(rnP q c).length=0∨(gtD (rnP q c) ((rnP q c).length-1)).2.2=true):c=g2∧L=tkD q2 g2:=by
  obtain⟨b1,b2,b3⟩:=hs
  have hle:c≤g2:=by
    rcases Nat.eq_zero_or_pos c with e|e
    · omega
    · obtain⟨s,s1,s2,s3,s4,s5,s6,s7⟩:=rnP_last h.dc e
      rcases he with he|he
      · omega
      · rw [s6]at he
        have h3:(gtD q s).1=3:=eq_of_beq he;have e3:gtD q s=(3,(gtD q s).2):=Prod.ext h3 rfl;have e4:=(b2 s _).2 e3;have:=(h2.tl.st s (by rw [e4];show(2:Int)≤3;decide)).2.2.2.1;have e5:wdQ q2 s=wdQ q s:=by unfold wdQ;rw [e4]
        omega
  have hge:g2≤c:=by
    rcases b3 with b3|⟨s,s1,s2⟩
    · omega
    · have e4:=(b2 s _).1 (Prod.ext s1 rfl)
      have h3:(gtD q s).1=3:=by rw [e4]
      have hsc:s<c:=by
        rcases Nat.lt_or_ge s c with c1|c1
        · exact c1
        · exact absurd h3 (h.no s c1)
      have:=h.dc.up s hsc (by omega);have e5:wdQ q2 s=wdQ q s:=by unfold wdQ;rw [e4]
      omega
  have e:c=g2:=by omega
  refine⟨e,?_⟩;rw [tkD_cg b2,←e];exact h.dc.lst
theorem shr_f {l:List Rn}(h:(!(gtD l (Int.toNat (((l.length:Nat):Int)-1))).2.2)=false):l.length=0∨(gtD l (l.length-1)).2.2=true:=by
  rw [show Int.toNat (((l.length:Nat):Int)-1)=l.length-1 by omega]at h;exact .inr (by simpa using h)
theorem shr_g {l:List Rn}(h:(!(gtD l (Int.toNat (((l.length:Nat):Int)-1))).2.2)=true):(gtD l (l.length-1)).2.2=false:=by
  rw [show Int.toNat (((l.length:Nat):Int)-1)=l.length-1 by omega]at h
  simpa using h
def toD (e:Rn):Rn:=(e.1/4096-1,e.2.1,e.2.2)
theorem toD_all (q:List Tg)(g:Nat):(rnTo q g).map toD=rnP q g:=by
  unfold rnTo rnP
  rw [List.map_map];refine List.map_congr_left fun p _=>?_
  show toD (rnE q p)=rpE q p
  unfold toD rnE rpE
  have:bpA p/4096-1=(p:Int):=by unfold bpA;omega
  rw [this]
end
section
variable {m:AM}{N g g2:Nat}{r r2 k n a e:Int}{q q2:List Tg}{Q:Nat→List Int}{L:List Rn}
theorem Bdy.rLow (h:Bdy m N g r q Q): -1≤r:=by
  rw [←h.bm.rf];unfold rfB;split<;>omega
theorem pk_al (h:Bdy m N g r q Q)(n:Int):(pkA (rnTo q g) n/4096-1+1)*4096=pkA (rnTo q g) n:=by
  by_cases hz:(tkLst (rnTo q g)).length=0
  · rw [←pk_0 hz];decide
  · obtain⟨p,p1,p2,p3⟩:=tkL_mem (pk_in (n:=n) hz)
    rw [p3];unfold bpA;omega
theorem gr_L (h:DC N g g q L)(ht:∀(j:Nat) (t:Int),gtD q2 j=(3,t)↔gtD q j=(3,t)):L=tkD q2 (gwG N g r k):=by
  have hle:g≤gwG N g r k:=by
    by_cases e:gwE N g r k=0
    · obtain⟨w1,w2,w3,w4,w5⟩:=gw_ok e
      have:=(pw_bd (gr_bad w1)).1;omega
    · rw [(gw_no e).1];exact Nat.le_refl _
  rw [tkD_cg ht,tkD_up h.dq.tl hle];exact h.lst
theorem sh_L (h:DC N g g q L)(hs:ShP q g g2 q2)(h2:DQ N g2 q2):L=tkD q2 g2:=by
  rw [←tkD_up h2.tl hs.1,tkD_cg hs.2.1];exact h.lst
theorem gwR_le (h:r≤9223372036854775807):gwR N g r k≤9223372036854775807:=by
  unfold gwR;split
  · split<;>omega
  · exact h
theorem al_r (hA:AlP N g r q k a e g2 r2 q2)(h:r≤9223372036854775807):r2≤9223372036854775807:=by
  rcases hA with hA|hA|⟨_,_,gb,rb,qb,i,kk,hB,_,_,_,_,_,_,hr,_⟩
  · rw [hA.2.2.2.2.1];exact h
  · rw [hA.2.2.2.2.2.2.1];exact gwR_le h
  · rcases hB with⟨_,e2,_⟩|⟨_,_,_,e2,_⟩
    · rw [hr,e2];exact h
    · rw [hr,e2];exact gwR_le h
theorem imx_c (n:Int):imax n 0=imax 0 n:=by unfold imax;split<;>split<;>omega
theorem al_a0 (hA:AlP N g r q k a e g2 r2 q2)(he:¬e=0):a=0:=by
  rcases hA with hA|hA|hA
  · exact hA.2.2.1
  · exact hA.2.2.2.2.1
  · exact absurd hA.2.1 he
theorem al_a1 (hA:AlP N g r q k a e g2 r2 q2)(he:e=0):(a==(alI a e+1)*4096)=true:=by
  rcases hA with hA|hA|⟨_,_,gb,rb,qb,i,kk,_,_,_,_,_,ha,_⟩
  · exact absurd (hA.2.1.symm.trans he) (by decide)
  · exact absurd (hA.2.2.2.1.symm.trans he) hA.2.2.1
  · unfold alI;rw [if_pos he,ha];exact beq_iff_eq.2 (by unfold bpA;omega)
theorem al_bd (hA:AlP N g r q k a e g2 r2 q2)(he:e=0)(hN:N≤79):0≤alI a e∧alI a e≤79:=by
  rcases hA with hA|hA|⟨_,_,gb,rb,qb,i,kk,_,htl,_,_,hf,ha,_⟩
  · exact absurd (hA.2.1.symm.trans he) (by decide)
  · exact absurd (hA.2.2.2.1.symm.trans he) hA.2.2.1
  · obtain⟨a1,a2,a3,a4,a5⟩:=htl.two hf.2.2.1
    have:=htl.gn;have:0<2^kk:=Nat.pow_pos (by decide)
    unfold alI;rw [if_pos he,ha];unfold bpA;omega
theorem imx_nn (x:Int):0≤imax 0 x:=by unfold imax;split<;>omega
theorem imx_le (h:n≤9223372036854775807):imax 0 n≤9223372036854775807:=by unfold imax;split<;>omega
end
theorem r8_free (ao9:Option Addr)(c9:Nat)(g9:Nat)(o9:Nat)(L:List (Int×Int×Bool))(N:Nat)(c:Nat)(rr:Int)(g:Nat)(q:List Tg)(w:World)(hh0:HE.holds w g9 (zL L o9))(hv9:(L.length=0∨ao9=some ⟨g9,o9,none⟩))(hD:DC N g c q L):
    Calls Tryz.prog 87 #[.agg #[vi 1,vi (N:Int),vi (c:Int),vi rr,.slice ao9 L.length c9]] w fun e w'=>∃(g2:Nat) (c2:Nat) (pf:Nat→Bool),e=.returned (sc g2 0 c c2)∧FrOf L c pf∧w.heap.size≤g2∧HE.holds w' g2 (.fn 0 (0+c) (boolsV pf 0))∧Fr w w' no no:=by
 have hc79:=hD.c79;have hl79:=hD.len;refine enter (args:=[.agg #[vi 1,vi (N:Int),vi (c:Int),vi rr,.slice ao9 L.length c9]]) (D:=no) (A:=[]) Tryz.func87 rfl 42 rfl [(g9,zL L o9)] (WS.startL ⟨⟨rfl,hh0⟩,trivial⟩) fun ac hS=>?_;refine hS.regS [0,0] [] fun ν1=>seg [(1,pt (ν1 0) 0)] [(0,none),(1,some ((ν1 0),.cells [vi 1,vi (N:Int),vi (c:Int),vi rr,.slice ao9 L.length c9] 34))] [] tv fun ac wd hS=>?_;refine hS.regS [0,100,90,0] [1] fun ν2=>seg [(3,sc (ν2 0) 0 c c)] [(0,none),(1,none),(2,some ((ν2 0),.row 4 c c (boolsV (fun _=>false) 0)))] [.p (((c:Int):Int)=(c:Int)),.p ((0:Int)≤(c:Int)∧((c:Int):Int)≤2^32∧1≤64),.e (ν1 0)] ⟨rfl,(by omega),tv⟩ fun ac wd hS=>?_;refine wp_seq ?_;refine hS.regS [0,0,0] [1,3] (sg [(12,vi (c:Int)),(13,vi 0)] zn3 fun ac wd hS=>?_);refine wp_block ?_;refine St.loopC (σ:=Int×(Nat→Bool)) (fun(x:Int×(Nat→Bool))=>match x with|(x13,px)=>⟨[(1,[],pt (ν1 0) 0),(3,[],sc (ν2 0) 0 c c),(12,[],vi (c:Int)),(13,[],vi x13)],[(g9,zL L o9),((ν1 0),.cells [vi 1,vi (N:Int),vi (c:Int),vi rr,.slice ao9 L.length c9] 34),((ν2 0),.row 4 c c (boolsV px 0))],[],(0≤x13∧x13≤(c:Int))∧(∀j:Nat,(j:Int)<x13→px j=true)∧True,c-Int.toNat x13⟩) (0,(fun _=>false)) ⟨(by omega),(by exact fun j h_=>absurd h_ (by omega)),trivial⟩ hS ?_;clear hS;rintro⟨x13,px⟩ ⟨i0,i1,-⟩ ac wd hS;replace i0:0≤x13∧x13≤(c:Int):=i0;replace i1:∀j:Nat,(j:Int)<x13→px j=true:=i1;refine hS.regS [0] [1,3,12,13] (sg [(14,vb (decide ((x13:Int)<(c:Int))))] zn3 fun ac wd hS=>?_);refine wp_seq ?_;refine hS.condC (decide ((x13:Int)<(c:Int))) (fun hb1o hb1=>?_) (fun hb1o hb1=>?_)
 ·
  refine wp_skip ?_;refine zpt ?_;refine wp_seq ?_;refine wp_block ?_;refine hS.regS [0,0] [1,3,12,13] (sg [(4,vi x13)] zn3 fun ac wd hS=>?_);refine hS.regC [0,0,10,200] [1,3,12,13] fun _=>seg [] [(0,none),(1,none),(2,some ((ν2 0),.row 4 c c (fun x=>if x=Int.toNat x13 then vb true else(boolsV px 0) x)))] [.e (ν2 0),.p (Int.toNat x13<c),.p ((0:Int)≤x13∧(x13:Int)<(c:Int))] ⟨(by omega),(by omega),tv⟩ fun ac wd hS=>?_;replace hS:=hS.to (hS.mem.tellR 2 (b:=(ν2 0)) (e:=4) (m:=c) (tot:=c) (f:=(fun x=>if x=Int.toNat x13 then vb true else(boolsV px 0) x)) (boolsV (putB px x13.toNat true) 0) (fun o ho=>boolsV_putv px x13.toNat true o));refine zpb ?_;refine zpt ?_;refine hS.regC [20,0] [1,3,12] fun _=>seg [(13,vi (x13+1))] zn3 [.p (fit .i64 (x13+1))] ⟨zf6 (by omega),tv⟩ fun ac wd hS=>?_;exact zpt (hS.next ((x13+1),(putB px x13.toNat true)) ⟨(by first|omega|assumption|(simp;done)|(simp;omega)),(by exact put_upD i1 i0.1),tv⟩ (by dsimp only;omega))
 ·
  refine wp_exit ?_;refine zpe ?_;refine zpe ?_;refine zph ?_;refine zpt ?_;refine wp_seq ?_;refine hS.regS [0,100,0,0] [3] fun _=>seg [(21,.slice ao9 L.length c9),(22,vi (L.length:Int)),(23,vi 0)] [(0,none),(2,none)] [.e (ν1 0)] tv fun ac wd hS=>?_;refine wp_block ?_;refine St.loopC (σ:=Int×(Nat→Bool)) (fun(x:Int×(Nat→Bool))=>match x with|(x23,py)=>⟨[(3,[],sc (ν2 0) 0 c c),(21,[],.slice ao9 L.length c9),(22,[],vi (L.length:Int)),(23,[],vi x23)],[(g9,zL L o9),((ν2 0),.row 4 c c (boolsV py 0))],[],(0≤x23∧x23≤(L.length:Int))∧(FrX L c x23 py)∧True,L.length-Int.toNat x23⟩) (0,px) ⟨(by omega),(by exact FrX.zero L (fun j h_=>i1 j (by omega))),trivial⟩ hS ?_;clear hS;rintro⟨x23,py⟩ ⟨j0,j1,-⟩ ac wd hS;replace j0:0≤x23∧x23≤(L.length:Int):=j0;replace j1:FrX L c x23 py:=j1;refine hS.regS [0] [3,21,22,23] (sg [(24,vb (decide ((x23:Int)<(L.length:Int))))] zn2 fun ac wd hS=>?_);refine wp_seq ?_;refine hS.condC (decide ((x23:Int)<(L.length:Int))) (fun hb2o hb2=>?_) (fun hb2o hb2=>?_)
  ·
   refine wp_skip ?_;refine zpt ?_;refine wp_seq ?_;refine wp_block ?_;obtain rfl:ao9=some ⟨g9,o9,none⟩:=Or.resolve_left hv9 (by omega);obtain⟨b1,b2,b3,b4,b5,b6⟩:=hD.elB (show Int.toNat x23<L.length by omega);refine hS.regS [20,fx 0 (.agg #[vi (gtD L x23.toNat).1,vi (gtD L x23.toNat).2.1,vb (gtD L x23.toNat).2.2]),0,200] [3,21,22,23] fun ν10=>seg [(6,pt (ν10 0) 0)] [(0,none),(1,none),(2,some ((ν10 0),.cells [vi (gtD L x23.toNat).1,vi (gtD L x23.toNat).2.1,vb (gtD L x23.toNat).2.2] 69))] [.e (ν10 0),.e (ν10 0),.e (ν10 0),.p ((.agg #[((rnV (gtD L) o9) (o9+Int.toNat x23*3)),((rnV (gtD L) o9) (o9+Int.toNat x23*3+1)),((rnV (gtD L) o9) (o9+Int.toNat x23*3+2))]:Value)=.agg #[vi (gtD L x23.toNat).1,vi (gtD L x23.toNat).2.1,vb (gtD L x23.toNat).2.2]),.e g9,.p (o9≤o9+Int.toNat x23*3+2∧o9+Int.toNat x23*3+2<(o9+L.length*3)),.e g9,.p (o9≤o9+Int.toNat x23*3+1∧o9+Int.toNat x23*3+1<(o9+L.length*3)),.e g9,.p (o9≤o9+Int.toNat x23*3∧o9+Int.toNat x23*3<(o9+L.length*3)),.p ((0:Int)≤x23∧(x23:Int)<(L.length:Int))] ⟨(agg3 (rnV_0 (gtD L) o9 x23.toNat) (rnV_1 (gtD L) o9 x23.toNat) (rnV_2 (gtD L) o9 x23.toNat)),(by omega),(by omega),(by omega),(by omega),tv⟩ fun ac wd hS=>?_;refine hS.regS [0] [3,6,21,22,23] (sg [(7,vi 0)] zn3 fun ac wd hS=>?_);refine wp_block ?_;refine St.loopC (σ:=Int×(Nat→Bool)) (fun(x:Int×(Nat→Bool))=>match x with|(x7,pz)=>⟨[(3,[],sc (ν2 0) 0 c c),(6,[],pt (ν10 0) 0),(7,[],vi x7),(21,[],sc g9 o9 L.length c9),(22,[],vi (L.length:Int)),(23,[],vi x23)],[(g9,zL L o9),((ν2 0),.row 4 c c (boolsV pz 0)),((ν10 0),.cells [vi (gtD L x23.toNat).1,vi (gtD L x23.toNat).2.1,vb (gtD L x23.toNat).2.2] 69)],[],(0≤x7∧x7≤pgsN (gtD L x23.toNat).2.1)∧(FrK L c x23 x7 pz)∧True,Int.toNat (pgsN (gtD L x23.toNat).2.1-x7)⟩) (0,py) ⟨(by exact⟨by omega,by have:=pgsN_bd b4;omega⟩),(by exact FrK.zero j1),trivial⟩ hS ?_;clear hS;rintro⟨x7,pz⟩ ⟨k0,k1,-⟩ ac wd hS;replace k0:0≤x7∧x7≤pgsN (gtD L x23.toNat).2.1:=k0;replace k1:FrK L c x23 x7 pz:=k1;have hpb:=pgsN_bd b4;refine wp_seq ?_;refine zwq ?_;refine hS.opsC 3 [0,0,200] [3,6,7,21,22,23] fun _=>seg [(27,vi x7),(29,vi (gtD L x23.toNat).2.1)] zn3 [.e (ν10 0)] tv fun ac wd hS=>?_;refine hS.call0 88 #[vi (gtD L x23.toNat).2.1] 30 (r06_Pages (gtD L x23.toNat).2.1 _ (by first|assumption|omega|(simp_all;done)|(simp_all;omega))) fun ac wd hS=>?_;refine hS.opsC 1 [0] [3,6,7,21,22,23] (sg [(31,vb (decide ((x7:Int)<(pgsN (gtD L x23.toNat).2.1))))] zn3 fun ac wd hS=>?_);refine zlq ?_;refine hS.condC (decide ((x7:Int)<(pgsN (gtD L x23.toNat).2.1))) (fun hb3o hb3=>?_) (fun hb3o hb3=>?_)
   ·
    refine wp_skip ?_;refine zpt ?_;refine wp_seq ?_;refine wp_block ?_;refine hS.regC [0,0,200,0,20,10,100] [3,6,7,21,22,23] fun _=>seg [] [(0,none),(1,some ((ν2 0),.row 4 c c (fun x=>if x=Int.toNat ((gtD L x23.toNat).1+x7)then vb false else(boolsV pz 0) x))),(2,none)] [.e (ν2 0),.p (Int.toNat ((gtD L x23.toNat).1+x7)<c),.p ((0:Int)≤((gtD L x23.toNat).1+x7)∧(((gtD L x23.toNat).1+x7):Int)<(c:Int)),.p (fit .i64 ((gtD L x23.toNat).1+x7)),.e (ν10 0)] ⟨(by omega),(by omega),zf6 (by omega),tv⟩ fun ac wd hS=>?_;replace hS:=hS.to (hS.mem.tellR 1 (b:=(ν2 0)) (e:=4) (m:=c) (tot:=c) (f:=(fun x=>if x=Int.toNat ((gtD L x23.toNat).1+x7)then vb false else(boolsV pz 0) x)) (boolsV (putB pz (Int.toNat ((gtD L x23.toNat).1+x7)) false) 0) (fun o ho=>boolsV_putv pz (Int.toNat ((gtD L x23.toNat).1+x7)) false o));refine zpb ?_;refine zpt ?_;refine hS.regC [0,20,0] [3,6,21,22,23] fun _=>seg [(7,vi (x7+1))] zn3 [.p (fit .i64 (x7+1))] ⟨zf6 (by omega),tv⟩ fun ac wd hS=>?_;exact zpt (hS.next ((x7+1),(putB pz (Int.toNat ((gtD L x23.toNat).1+x7)) false)) ⟨(by first|omega|assumption|(simp;done)|(simp;omega)),(by exact FrK.st k1 k0.1 b1 (fun j_=>rfl)),tv⟩ (by dsimp only;omega))
   ·
    refine wp_exit ?_;refine zpe ?_;refine zpe ?_;refine zph ?_;refine zpb ?_;refine zpt ?_;refine hS.regC [20,0] [3,21,22] fun _=>seg [(23,vi (x23+1))] zn2 [.p (fit .i64 (x23+1))] ⟨zf6 (by omega),tv⟩ fun ac wd hS=>?_;exact zpt (hS.next ((x23+1),pz) ⟨(by first|omega|assumption|(simp;done)|(simp;omega)),(by exact FrK.fin k1 j0.1 (by omega) (by omega)),tv⟩ (by dsimp only;omega))
  ·
   refine wp_exit ?_;refine zpe ?_;refine zpe ?_;refine zph ?_;refine zpt ?_;refine hS.regS [0,0] [] (sg [(2,sc (ν2 0) 0 c c)] [(1,none)] fun ac wd hS=>?_);refine wp_ret ?_;refine St.retC 0 hS (sc (ν2 0) 0 c c) [] tv fun hw=>?_;refine⟨(ν2 0),c,py,retd rfl,?_,((hw.getm 0 (ν2 0) (.row 4 c c (boolsV py 0))).resolve_right (fun h=>h)),(HE.fn_hi (by omega) (HE.of_row (hw.get 0 (ν2 0) (.row 4 c c (boolsV py 0))) (fun _ _=>rfl))),hw.fr0⟩
   all_goals (first|rfl|omega|exact FrX.fin j1 (by omega))
theorem r8_all (gf:Nat)(of:Nat)(cf:Nat)(c:Nat)(a:Int)(n:Int)(pf:Nat→Bool)(w:World)(hh0:HE.holds w gf (.fn of (of+c) (boolsV pf of)))(ha:0≤a∧a≤100∧0≤n∧n≤1024∧c≤79):
    Calls Tryz.prog 89 #[sc gf of c cf,vi a,vi n] w fun e w'=>∃(ab:Bool),e=.returned (vb ab)∧AllD pf c a n ab∧Fr w w' no no:=by
 refine enter (args:=[sc gf of c cf,vi a,vi n]) (D:=no) (A:=[]) Tryz.func89 rfl 27 rfl [(gf,.fn of (of+c) (boolsV pf of))] (WS.startL ⟨⟨rfl,hh0⟩,trivial⟩) fun ac hS=>?_;refine hS.regS [0] [0,1,2] (sg [] [(0,none)] fun ac wd hS=>?_);refine wp_seq ?_;refine hS.regS [0,0,20,0,0,0] [0,1,2] fun _=>seg [(13,vb (decide (((c:Int):Int)<(a+n))))] [(0,none)] [.p (fit .i64 (a+n))] ⟨zf6 (by omega),tv⟩ fun ac wd hS=>?_;refine hS.condC (decide (((c:Int):Int)<(a+n))) (fun hb1o hb1=>?_) (fun hb1o hb1=>?_)
 ·
  have hn9:=hb1;refine hS.regS [0] [] (sg [(6,vb false)] [] fun ac wd hS=>?_);refine wp_ret ?_;refine zpr ?_;refine St.retC 0 hS (vb false) [] tv fun hw=>?_;refine⟨false,retd rfl,?_,hw.fr0⟩
  all_goals (first|rfl|omega|exact AllD.n1 (by omega)|exact AllD.n2 i0.1 (by omega) (by omega) hf9|exact AllD.y (by omega) i1 (by omega))
 ·
  refine wp_skip ?_;refine zpt ?_;refine wp_seq ?_;refine hS.regS [0,0] [0,1,2] (sg [(7,vi a)] [(0,none)] fun ac wd hS=>?_);refine wp_block ?_;refine St.loopC (σ:=Int) (fun(x7:Int)=>⟨[(0,[],sc gf of c cf),(1,[],vi a),(2,[],vi n),(7,[],vi x7)],[(gf,.fn of (of+c) (boolsV pf of))],[],(a≤x7∧x7≤a+n)∧(∀j:Nat,a≤(j:Int)→(j:Int)<x7→pf j=true)∧True,Int.toNat (a+n-x7)⟩) a ⟨(by first|omega|exact fun j h_ h2_=>absurd h2_ (by omega)),(by first|omega|exact fun j h_ h2_=>absurd h2_ (by omega)),trivial⟩ hS ?_;clear hS;rintro x7 ⟨i0,i1,-⟩ ac wd hS;replace i0:a≤x7∧x7≤a+n:=i0;replace i1:∀j:Nat,a≤(j:Int)→(j:Int)<x7→pf j=true:=i1;refine wp_seq ?_;refine hS.regS [0,0,0,20,0] [0,1,2,7] fun _=>seg [(19,vb (decide ((x7:Int)<(a+n))))] [(0,none)] [.p (fit .i64 (a+n))] ⟨zf6 (by omega),tv⟩ fun ac wd hS=>?_;refine hS.condC (decide ((x7:Int)<(a+n))) (fun hb2o hb2=>?_) (fun hb2o hb2=>?_)
  ·
   have hn9:=hb2;refine wp_skip ?_;refine zpt ?_;refine wp_seq ?_;refine wp_block ?_;refine hS.regS [0,0,20,fx 0 (vb (pf x7.toNat)),0] [0,1,2,7] fun _=>seg [(26,vb (!(pf x7.toNat)))] [(0,none)] [.p ((((boolsV pf of) (of+Int.toNat x7*1)):Value)=vb (pf x7.toNat)),.e gf,.p (of≤of+Int.toNat x7*1∧of+Int.toNat x7*1<(of+c)),.p ((0:Int)≤x7∧(x7:Int)<(c:Int))] ⟨(boolsV_rel pf of x7.toNat),(by omega),(by omega),tv⟩ fun ac wd hS=>?_;refine hS.condC (!(pf x7.toNat)) (fun hb3o hb3=>?_) (fun hb3o hb3=>?_)
   ·
    have hf9:pf x7.toNat=false:=by simpa using hb3o
    refine hS.regS [0] [] (sg [(6,vb false)] [] fun ac wd hS=>?_);refine wp_ret ?_;refine zpc ?_;refine zpr ?_;refine zpr ?_;refine zpc ?_;refine zpr ?_;refine St.retC 0 hS (vb false) [] tv fun hw=>?_;refine⟨false,retd rfl,?_,hw.fr0⟩
    all_goals (first|rfl|omega|exact AllD.n1 (by omega)|exact AllD.n2 i0.1 (by omega) (by omega) hf9|exact AllD.y (by omega) i1 (by omega))
   ·
    have hf9:pf x7.toNat=true:=by simpa using hb3o
    refine wp_skip ?_;refine zpb ?_;refine zpt ?_;refine hS.regC [0,20,0] [0,1,2] fun _=>seg [(7,vi (x7+1))] [(0,none)] [.p (fit .i64 (x7+1))] ⟨zf6 (by omega),tv⟩ fun ac wd hS=>?_;exact zpt (hS.next (x7+1) ⟨(by first|omega|assumption|(simp;done)|(simp;omega)),(by exact all_st i1 (by omega) hf9),tv⟩ (by dsimp only;omega))
  ·
   refine wp_exit ?_;refine zpe ?_;refine zpe ?_;refine zph ?_;refine zpt ?_;refine hS.regS [0] [] (sg [(6,vb true)] [] fun ac wd hS=>?_);refine wp_ret ?_;refine St.retC 0 hS (vb true) [] tv fun hw=>?_;refine⟨true,retd rfl,?_,hw.fr0⟩
   all_goals (first|rfl|omega|exact AllD.n1 (by omega)|exact AllD.n2 i0.1 (by omega) (by omega) hf9|exact AllD.y (by omega) i1 (by omega))
theorem r8_Runs (ao9:Option Addr)(c9:Nat)(g9:Nat)(o9:Nat)(L:List (Int×Int×Bool))(N:Nat)(c:Nat)(rr:Int)(g:Nat)(q:List Tg)(w:World)(hh0:HE.holds w 1 (.fn 0 64 dbT))(hh1:HE.holds w g9 (zL L o9))(hv9:(L.length=0∨ao9=some ⟨g9,o9,none⟩))(hD:DC N g c q L):
    Calls Tryz.prog 38 #[.agg #[vi 1,vi (N:Int),vi (c:Int),vi rr,.slice ao9 L.length c9]] w fun e w'=>∃(ao2:Option Addr) (c2:Nat) (g2:Nat) (o2:Nat),e=.returned (.slice ao2 (rnP q c).length c2)∧((rnP q c).length=0∨ao2=some ⟨g2,o2,none⟩)∧(g2=1∨w.heap.size≤g2)∧HE.holds w' g2 (zL (rnP q c) o2)∧Fr w w' no no:=by
 have hc79:=hD.c79;have hl79:=hD.len;refine enter (args:=[.agg #[vi 1,vi (N:Int),vi (c:Int),vi rr,.slice ao9 L.length c9]]) (D:=no) (A:=[]) Tryz.func38 rfl 70 rfl [(1,.fn 0 64 dbT),(g9,zL L o9)] (WS.startL ⟨⟨rfl,hh0⟩,⟨rfl,hh1⟩,trivial⟩) fun ac hS=>?_;refine hS.regS [0,0] [] fun ν1=>seg [(1,pt (ν1 0) 0)] [(0,none),(1,none),(2,some ((ν1 0),.cells [vi 1,vi (N:Int),vi (c:Int),vi rr,.slice ao9 L.length c9] 34))] [] tv fun ac wd hS=>?_;refine zwq ?_;refine hS.opsC 1 [200] [1] fun _=>seg [(9,.agg #[vi 1,vi (N:Int),vi (c:Int),vi rr,.slice ao9 L.length c9])] zn3 [.e (ν1 0),.e (ν1 0),.e (ν1 0),.e (ν1 0),.e (ν1 0)] tv fun ac wd hS=>?_;refine hS.callC 87 #[.agg #[vi 1,vi (N:Int),vi (c:Int),vi rr,.slice ao9 L.length c9]] (r8_free ao9 c9 g9 o9 L N c rr g q _ (hS.mem.get 1 g9 (zL L o9)) hv9 (by exact hD)) ?_;rintro _ wd ⟨g21,c22,pf3,rfl,hpf4,hog0,hoh0,hF⟩;have ho5:w.heap.size≤g21:=Nat.le_trans hS.mem.fr.size hog0;refine⟨sc g21 0 c c22,rfl,?_⟩;replace hS:=(hS.to (hS.mem.outs hF [(g21,.fn 0 (0+c) (boolsV pf3 0))] ⟨⟨rfl,hoh0,.inr hog0⟩,trivial⟩)).put (d:=10) (v:=sc g21 0 c c22) (by decide);clear hF;refine hS.opsC 1 [0] [1] (sg [(3,sc g21 0 c c22)] zn4 fun ac wd hS=>?_);refine zlq ?_;refine hS.regS [0] [1,3] (sg [(4,vnil)] zn4 fun ac wd hS=>?_);refine wp_seq ?_;replace hS:=hS.to (hS.mem.grNew 69 3 (rnV (gtD ([]:List (Int×Int×Bool))) 0));refine hS.regS [0] [1,3,4] (sg [(5,vi 0)] zn4 fun ac wd hS=>?_);refine wp_block ?_;refine St.loopC (σ:=Int×Option Addr×Nat×(Nat→Prop)×(List (Int×Int×Bool))) (fun(x:Int×Option Addr×Nat×(Nat→Prop)×(List (Int×Int×Bool)))=>match x with|(x5,aoq,cq,Fq,lq)=>⟨[(1,[],pt (ν1 0) 0),(3,[],sc g21 0 c c22),(4,[],.slice aoq lq.length cq),(5,[],vi x5)],[(1,.fn 0 64 dbT),(g9,zL L o9),((ν1 0),.cells [vi 1,vi (N:Int),vi (c:Int),vi rr,.slice ao9 L.length c9] 34),(g21,.fn 0 (0+c) (boolsV pf3 0))],[grR 69 3 (.slice aoq lq.length cq) Fq (lq.length,(rnV (gtD lq) 0))],(0≤x5∧x5≤(c:Int))∧(lq=rnP q x5.toNat)∧(rnUp q x5.toNat)∧True,Int.toNat ((c:Int)-x5)⟩) (0,none,0,no,([]:List (Int×Int×Bool))) ⟨(by first|omega|rfl|exact rnUp_0 _),(by first|omega|rfl|exact rnUp_0 _),(by first|omega|rfl|exact rnUp_0 _),trivial⟩ hS ?_;clear hS;rintro⟨x5,aoq,cq,Fq,lq⟩ ⟨i0,i1,i2,-⟩ ac wd hS;replace i0:0≤x5∧x5≤(c:Int):=i0;replace i1:lq=rnP q x5.toNat:=i1;replace i2:rnUp q x5.toNat:=i2;refine wp_seq ?_;refine hS.regS [0,0,200,0] [1,3,4,5] fun _=>seg [(14,vb (decide ((x5:Int)<(c:Int))))] zn4 [.e (ν1 0)] tv fun ac wd hS=>?_;refine hS.condC (decide ((x5:Int)<(c:Int))) (fun hb6o hb6=>?_) (fun hb6o hb6=>?_)
 ·
  refine wp_skip ?_;refine zpt ?_;refine wp_block ?_;refine hS.regS [0,0,0,400] [1,3,4,5] fun ν7=>seg [(6,pt (ν7 0) 0)] [(0,none),(1,none),(2,none),(3,none),(4,some ((ν7 0),.cells [vi x5,vi 0,vb false] 69))] [.e (ν7 0),.e (ν7 0),.e (ν7 0)] tv fun ac wd hS=>?_;refine wp_seq ?_;refine hS.regS [0,200,0,0] [1,3,4,5,6] fun _=>seg [(18,.slice ao9 L.length c9),(19,vi (L.length:Int)),(20,vi 0)] zn5 [.e (ν1 0)] tv fun ac wd hS=>?_;refine wp_block ?_;refine St.loopC (σ:=Int×Int×Int×Bool) (fun(x:Int×Int×Int×Bool)=>match x with|(x20,ra,rk,rb)=>⟨[(1,[],pt (ν1 0) 0),(3,[],sc g21 0 c c22),(4,[],.slice aoq lq.length cq),(5,[],vi x5),(6,[],pt (ν7 0) 0),(18,[],.slice ao9 L.length c9),(19,[],vi (L.length:Int)),(20,[],vi x20)],[(1,.fn 0 64 dbT),(g9,zL L o9),((ν1 0),.cells [vi 1,vi (N:Int),vi (c:Int),vi rr,.slice ao9 L.length c9] 34),(g21,.fn 0 (0+c) (boolsV pf3 0)),((ν7 0),.cells [vi ra,vi rk,vb rb] 69)],[grR 69 3 (.slice aoq lq.length cq) Fq (lq.length,(rnV (gtD lq) 0))],(0≤x20∧x20≤(L.length:Int))∧(((ra,rk,rb):Rn)=rD (L.take x20.toNat) x5)∧True,L.length-Int.toNat x20⟩) (0,x5,0,false) ⟨(by omega),(by rfl),trivial⟩ hS ?_;clear hS;rintro⟨x20,ra,rk,rb⟩ ⟨k0,k1,-⟩ ac wd hS;replace k0:0≤x20∧x20≤(L.length:Int):=k0;replace k1:((ra,rk,rb):Rn)=rD (L.take x20.toNat) x5:=k1;refine hS.regS [0] [1,3,4,5,6,18,19,20] (sg [(21,vb (decide ((x20:Int)<(L.length:Int))))] zn5 fun ac wd hS=>?_);refine wp_seq ?_;refine hS.condC (decide ((x20:Int)<(L.length:Int))) (fun hb7o hb7=>?_) (fun hb7o hb7=>?_)
  ·
   refine wp_skip ?_;refine zpt ?_;refine wp_seq ?_;refine wp_block ?_;obtain rfl:ao9=some ⟨g9,o9,none⟩:=Or.resolve_left hv9 (by omega);refine hS.regS [20,fx 100 (.agg #[vi (gtD L x20.toNat).1,vi (gtD L x20.toNat).2.1,vb (gtD L x20.toNat).2.2]),0,500] [1,3,4,5,6,18,19,20] fun ν10=>seg [(8,pt (ν10 0) 0)] [(0,none),(1,none),(2,none),(3,none),(4,none),(5,some ((ν10 0),.cells [vi (gtD L x20.toNat).1,vi (gtD L x20.toNat).2.1,vb (gtD L x20.toNat).2.2] 69))] [.e (ν10 0),.e (ν10 0),.e (ν10 0),.p ((.agg #[((rnV (gtD L) o9) (o9+Int.toNat x20*3)),((rnV (gtD L) o9) (o9+Int.toNat x20*3+1)),((rnV (gtD L) o9) (o9+Int.toNat x20*3+2))]:Value)=.agg #[vi (gtD L x20.toNat).1,vi (gtD L x20.toNat).2.1,vb (gtD L x20.toNat).2.2]),.e g9,.p (o9≤o9+Int.toNat x20*3+2∧o9+Int.toNat x20*3+2<(o9+L.length*3)),.e g9,.p (o9≤o9+Int.toNat x20*3+1∧o9+Int.toNat x20*3+1<(o9+L.length*3)),.e g9,.p (o9≤o9+Int.toNat x20*3∧o9+Int.toNat x20*3<(o9+L.length*3)),.p ((0:Int)≤x20∧(x20:Int)<(L.length:Int))] ⟨(agg3 (rnV_0 (gtD L) o9 x20.toNat) (rnV_1 (gtD L) o9 x20.toNat) (rnV_2 (gtD L) o9 x20.toNat)),(by omega),(by omega),(by omega),(by omega),tv⟩ fun ac wd hS=>?_;refine hS.regS [0,500,0,0] [1,3,4,5,6,8,18,19,20] fun _=>seg [(27,vb (((gtD L x20.toNat).1:Int)==x5))] zn6 [.e (ν10 0)] tv fun ac wd hS=>?_;refine hS.condC (((gtD L x20.toNat).1:Int)==x5) (fun hb8o hb8=>?_) (fun hb8o hb8=>?_)
   ·
    have he9:=hb8;refine hS.regC [500,400] [1,3,4,5,6,18,19,20] fun _=>seg [] [(0,none),(1,none),(2,none),(3,none),(4,some ((ν7 0),.cells [vi (gtD L x20.toNat).1,vi (gtD L x20.toNat).2.1,vb (gtD L x20.toNat).2.2] 69))] [.e (ν7 0),.e (ν7 0),.e (ν7 0),.e (ν10 0),.e (ν10 0),.e (ν10 0)] tv fun ac wd hS=>?_;refine zpb ?_;refine zpt ?_;refine hS.regC [20,0] [1,3,4,5,6,18,19] fun _=>seg [(20,vi (x20+1))] zn5 [.p (fit .i64 (x20+1))] ⟨zf6 (by omega),tv⟩ fun ac wd hS=>?_;exact zpt (hS.next ((x20+1),(gtD L x20.toNat).1,(gtD L x20.toNat).2.1,(gtD L x20.toNat).2.2) ⟨(by first|omega|assumption|(simp;done)|(simp;omega)),(by first|exact rD_y k0.1 (by omega) he9|exact rD_n k1 k0.1 (by omega) he9),tv⟩ (by dsimp only;omega))
   ·
    have he9:=hb8;refine wp_skip ?_;refine zpb ?_;refine zpt ?_;refine hS.regC [20,0] [1,3,4,5,6,18,19] fun _=>seg [(20,vi (x20+1))] zn5 [.p (fit .i64 (x20+1))] ⟨zf6 (by omega),tv⟩ fun ac wd hS=>?_;exact zpt (hS.next ((x20+1),ra,rk,rb) ⟨(by first|omega|assumption|(simp;done)|(simp;omega)),(by first|exact rD_y k0.1 (by omega) he9|exact rD_n k1 k0.1 (by omega) he9),tv⟩ (by dsimp only;omega))
  ·
   refine wp_exit ?_;refine zpe ?_;refine zpe ?_;refine zph ?_;refine zpt ?_;obtain⟨eA,eB,eK⟩:=rD_cell hD i2 i0.1 (by omega) (show(L.length:Int)≤x20 by omega) k1;refine St.meetC (c:=⟨w,no,[]⟩) (n:=70) (σ:=Int) (fun(rw:Int)=>⟨[(1,[],pt (ν1 0) 0),(3,[],sc g21 0 c c22),(4,[],.slice aoq lq.length cq),(5,[],vi x5),(6,[],pt (ν7 0) 0)],[(1,.fn 0 64 dbT),(g9,zL L o9),((ν1 0),.cells [vi 1,vi (N:Int),vi (c:Int),vi rr,.slice ao9 L.length c9] 34),(g21,.fn 0 (0+c) (boolsV pf3 0)),((ν7 0),.cells [vi ra,vi rw,vb rb] 69)],[grR 69 3 (.slice aoq lq.length cq) Fq (lq.length,(rnV (gtD lq) 0))],(rw=(gtD q x5.toNat).2)∧True,0⟩) ?_ ?_
   ·
    refine wp_block ?_;refine St.loopC (σ:=Int) (fun(rz:Int)=>⟨[(1,[],pt (ν1 0) 0),(3,[],sc g21 0 c c22),(4,[],.slice aoq lq.length cq),(5,[],vi x5),(6,[],pt (ν7 0) 0)],[(1,.fn 0 64 dbT),(g9,zL L o9),((ν1 0),.cells [vi 1,vi (N:Int),vi (c:Int),vi rr,.slice ao9 L.length c9] 34),(g21,.fn 0 (0+c) (boolsV pf3 0)),((ν7 0),.cells [vi ra,vi rz,vb rb] 69)],[grR 69 3 (.slice aoq lq.length cq) Fq (lq.length,(rnV (gtD lq) 0))],(RzI q x5 rb rz)∧True,Int.toNat (11-rz)⟩) rk ⟨(by exact eK),trivial⟩ hS ?_;clear hS;rintro rz ⟨m1,-⟩ ac wd hS;replace m1:RzI q x5 rb rz:=m1;have hrz:=m1.2.2;refine wp_seq ?_;refine zwq ?_;refine hS.opsC 9 [0,400,0,0,3,403,3,80,0] [1,3,4,5,6] fun _=>seg [(38,vb ((!rb)&&(decide ((rz:Int)<10))))] zn5 [.p ((((!rb)=true)∧True)→AllP [((ν7 0):Nat)=(ν7 0)]),.e (ν7 0)] ⟨(fun⟨hc0,_⟩=>by replace hc0:=nrm hc0;exact⟨rfl,trivial⟩),tv⟩ fun ac wd hS=>?_
    rcases Bool.eq_false_or_eq_true ((!rb)&&(decide ((rz:Int)<10)))with hg9o|hg9o
    ·
     have hg9:=nrm hg9o;have hc1:=rz_c hg9o;have hpb9:=pgsN_bd (show rz+1≤10 by omega);replace hS:=hS.fix 38 (vb true) (congrArg Value.bool hg9o);refine hS.opsC 4 [1,1,401,21] [1,3,4,5,6,38] fun _=>seg [(39,vi x5),(42,vi (rz+1))] zn5 [.t true,.p (fit .i64 (rz+1)),.t true,.e (ν7 0),.t true,.t true] ⟨zf6 (by omega),tv⟩ fun ac wd hS=>?_;refine hS.callG true 88 #[vi (rz+1)] (r06_Pages (rz+1) _ (by first|assumption|omega|(simp_all;done)|(simp_all;omega))) ?_;rintro _ wd ⟨rfl,hF⟩;refine⟨vi (pgsN (rz+1)),rfl,?_⟩;replace hS:=hS.kp hF 43 (vi (pgsN (rz+1)));clear hF;refine hS.opsC 4 [21,1,70,0] [1,3,4,5,6] fun _=>seg [(47,vb (((x5%(pgsN (rz+1))):Int)==0))] zn5 [.t true,.t true,.t true,.p (((pgsN (rz+1)):Int)≠0∧Int.tmod x5 (pgsN (rz+1))=x5%(pgsN (rz+1)))] ⟨rem2 (by omega) (by omega),tv⟩ fun ac wd hS=>?_
     rcases Bool.eq_false_or_eq_true (((x5%(pgsN (rz+1))):Int)==0)with hg10o|hg10o
     ·
      have hg10:=nrm hg10o;have he9:=hg10;have hc2:=hg10;replace hS:=hS.fix 47 (vb true) (congrArg Value.bool hg10o);refine hS.opsC 5 [1,1,1,401,21] [1,3,4,5,6,47] fun _=>seg [(48,sc g21 0 c c22),(49,vi x5),(52,vi (rz+1))] zn5 [.t true,.p (fit .i64 (rz+1)),.t true,.e (ν7 0),.t true,.t true,.t true] ⟨zf6 (by omega),tv⟩ fun ac wd hS=>?_;refine hS.callG true 88 #[vi (rz+1)] (r06_Pages (rz+1) _ (by first|assumption|omega|(simp_all;done)|(simp_all;omega))) ?_;rintro _ wd ⟨rfl,hF⟩;refine⟨vi (pgsN (rz+1)),rfl,?_⟩;replace hS:=hS.kp hF 53 (vi (pgsN (rz+1)));clear hF;refine hS.callG true 89 #[sc g21 0 c c22,vi x5,vi (pgsN (rz+1))] (r8_all g21 0 c22 c x5 (pgsN (rz+1)) pf3 _ (hS.mem.get 3 g21 (.fn 0 (0+c) (boolsV pf3 0))) (by(have hpb:=pgsN_bd (show rz+1≤10 by omega);omega))) ?_;rintro _ wd ⟨ab11,rfl,hab12,hF⟩;refine⟨vb ab11,rfl,?_⟩;replace hS:=hS.kp hF 54 (vb ab11);clear hF;refine hS.opsC 1 [70] [1,3,4,5,6] fun _=>seg [(55,vb ab11)] zn5 [.t true] tv fun ac wd hS=>?_;refine zlq ?_;refine hS.condC ab11 (fun hb13o hb13=>?_) (fun hb13o hb13=>?_)
      ·
       have hm9:=rz_go hD (by assumption) i2 i0.1 (by omega) m1 hc1 hc2 (AllD.t (by assumption) hb13o);refine wp_skip ?_;refine zpt ?_;refine wp_block ?_;refine hS.regC [0,400,20,0,400] [1,3,4,5,6] fun _=>seg [] [(0,none),(1,none),(2,none),(3,none),(4,some ((ν7 0),.cells [vi ra,vi (rz+1),vb rb] 69))] [.e (ν7 0),.p (fit .i64 (rz+1)),.e (ν7 0)] ⟨zf6 (by omega),tv⟩ fun ac wd hS=>?_;refine zpb ?_;exact zpt (hS.next (rz+1) ⟨(by exact hm9),tv⟩ (by dsimp only;omega))
      ·
       have hz9:=rz_3 hD (by assumption) i2 i0.1 (by omega) m1 hc1 (AllD.f (by assumption) hb13o);refine wp_exit ?_;refine zpe ?_;refine zpe ?_;refine zph ?_;exact zpt (hS.next rz ⟨(by exact hz9),tv⟩ (by show 0<1;decide))
     ·
      have hg10:=nrm hg10o;have he9:=hg10;have hz9:=rz_2 hD i2 i0.1 (by omega) m1 hc1 hg10;replace hS:=hS.fix 47 (vb false) (congrArg Value.bool hg10o);refine hS.opsC 8 [2,2,2,2,2,2,2,60] [1,3,4,5,6] fun _=>seg [(55,vb false)] zn5 [.t false,.t false,.t false,.t false,.t false,.t false,.t false,.t false] tv fun ac wd hS=>?_;refine zlq ?_;refine hS.condF ?_;refine wp_exit ?_;refine zpe ?_;refine zpe ?_;refine zph ?_;exact zpt (hS.next rz ⟨(by exact hz9),tv⟩ (by show 0<1;decide))
    ·
     have hg9:=nrm hg9o;have hz9:=rz_1 m1 (hD.start i2 (by omega)).2.2.2.2.2.2 hg9o;replace hS:=hS.fix 38 (vb false) (congrArg Value.bool hg9o);refine hS.opsC 9 [2,2,2,2,2,2,2,60,0] [1,3,4,5,6] fun _=>seg [(47,vb false)] zn5 [.t false,.t false,.t false,.t false,.t false,.t false,.t false,.t false] tv fun ac wd hS=>?_;refine hS.opsC 8 [2,2,2,2,2,2,2,60] [1,3,4,5,6] fun _=>seg [(55,vb false)] zn5 [.t false,.t false,.t false,.t false,.t false,.t false,.t false,.t false] tv fun ac wd hS=>?_;refine zlq ?_;refine hS.condF ?_;refine wp_exit ?_;refine zpe ?_;refine zpe ?_;refine zph ?_;exact zpt (hS.next rz ⟨(by exact hz9),tv⟩ (by show 0<1;decide))
   ·
    clear hS;rintro rw⟨hz9,-⟩ ac wd hS;replace hz9:rw=(gtD q x5.toNat).2:=hz9;obtain⟨g1_,g2_,g3_,g4_,g5_,g6_⟩:=rn_stepP hD i2 i0.1 (by omega) i1 eA eB hz9;refine zwq ?_;refine hS.opsC 3 [0,400,0] [1,3,4,5,6] fun ν24=>seg [(60,.slice aoq lq.length cq),(62,sc (ν24 0) 0 1 1)] [(0,none),(1,none),(2,none),(3,none),(4,none),(5,some ((ν24 0),.cells [vi ra,vi rw,vb rb] 69))] [.e (ν7 0),.e (ν7 0),.e (ν7 0)] tv fun ac wd hS=>?_;obtain⟨i_,hi_,hz_,hs_,hb_⟩:=info_get (P:=Tryz.prog) (e:=69) (z:=.agg #[vi 0,vi 0,vb false]) (s:=3) (b:=24) (by kernel_rfl);refine Runs1.list ?_;refine St.appV (m:=lq.length) (f:=(rnV (gtD lq) 0)) (news:=[vi ra,vi rw,vb rb]) (bx:=(ν24 0)) (cx:=1) (Tx:=69) 0 hS (.tmp 60) (.tmp 62) 32 rfl rfl (by decide) Tryz.underlying32 hi_ hz_ hs_ (by omega) rfl (by decide) 5 rfl rfl (by(have:=rnP_len q x5.toNat;rw [←i1]at this;omega)) fun ac wd v2_ F16 hB17 hS=>?_;obtain⟨xo14,xc15,rfl⟩:=hB17.slice;replace hS:=hS.to (hS.mem.grTell (m:=(lq.length+1)) 0 (rnV (gtD (lq++[(ra,rw,rb)])) 0) (rnV_app lq ra rw rb));have hm_:lq.length+1=(lq++[(ra,rw,rb)]).length:=by simp
    replace hS:=hS.to (hS.mem.grRe (v:=.slice xo14 (lq.length+1) xc15) (v':=.slice xo14 (lq++[(ra,rw,rb)]).length xc15) (m:=(lq.length+1)) (m':=(lq++[(ra,rw,rb)]).length) (f:=(rnV (gtD (lq++[(ra,rw,rb)])) 0)) 0 (by rw [hm_]) hm_);replace hS:=hS.fix 63 (.slice xo14 (lq++[(ra,rw,rb)]).length xc15) (show(.slice xo14 (lq.length+1) xc15:Value)=.slice xo14 (lq++[(ra,rw,rb)]).length xc15 by rw [hm_]);refine hS.opsC 1 [0] [1,3,5,6] (sg [(4,.slice xo14 (lq++[(ra,rw,rb)]).length xc15)] zn5 fun ac wd hS=>?_);refine zlq ?_;refine wp_region_lit ?_;refine hS.opsC 3 [0,0,400] [1,3,4,5] fun _=>seg [(64,vi x5),(66,vi rw)] zn4 [.e (ν7 0)] tv fun ac wd hS=>?_;refine hS.call0 88 #[vi rw] 67 (r06_Pages rw _ (by first|assumption|omega|(simp_all;done)|(simp_all;omega))) fun ac wd hS=>?_;refine hS.opsC 2 [20,0] [1,3,4] fun _=>seg [(5,vi (x5+(pgsN rw)))] zn4 [.p (fit .i64 (x5+(pgsN rw)))] ⟨zf6 (by omega),tv⟩ fun ac wd hS=>?_;refine zln ?_;refine zpb ?_;exact zpt (hS.next ((x5+(pgsN rw)),xo14,xc15,F16,(lq++[(ra,rw,rb)])) ⟨(by first|omega|assumption|(simp;done)|(simp;omega)),(by exact g1_),(by exact g2_),tv⟩ (by dsimp only;omega))
 ·
  refine wp_exit ?_;refine zpe ?_;refine zpe ?_;refine zph ?_;refine zpt ?_;refine hS.regS [0,0] [] (sg [(2,.slice aoq lq.length cq)] [(0,none)] fun ac wd hS=>?_);refine wp_ret ?_;have hq_:(rnP q c)=lq:=(show lq=(rnP q c) by rw [i1,show Int.toNat x5=c by omega]).symm;subst hq_
  rcases Nat.eq_zero_or_pos (rnP q c).length with hz_|hz_
  ·
   have hm_:(rnP q c).length=0:=by exact hz_
   replace hS:=hS.to (hS.mem.grRe (v:=.slice aoq (rnP q c).length cq) (v':=.slice aoq 0 cq) (m:=(rnP q c).length) (m':=0) (f:=(rnV (gtD (rnP q c)) 0)) 0 (by rw [hm_]) hm_);replace hS:=hS.fix 2 (.slice aoq 0 cq) (show(.slice aoq (rnP q c).length cq:Value)=.slice aoq 0 cq by rw [hm_]);obtain⟨hv_,hO⟩:=WS.grNil (e:=69) (sz:=3) (m:=0) (f:=(rnV (gtD (rnP q c)) 0)) hS.mem (by first|omega|rfl);obtain⟨rfl,rfl⟩:(none:Option Addr)=aoq∧0=cq:=by cases hv_;exact⟨rfl,rfl⟩
   clear hv_;replace hS:=hS.to hO;clear hO;refine St.retC 0 hS vnil [] tv fun hw=>?_;refine⟨none,0,1,0,retd (slN ?_),(by first|exact(.inl rfl)|exact .inl hz_|(rw [←hD];exact(.inl rfl))|(rw [←hD];exact .inl hz_)),(by omega),(HE.fn_none (hw.get 0 1 (.fn 0 64 dbT)) ?_),hw.fr0⟩
   all_goals (first|(first|omega|(simp;omega)|rfl)|(intro x_ hx_;rfl)|(intro x_ hx_ hy_;rfl))
  ·
   obtain⟨gg18,cp19,hv_,hcp_,hO⟩:=WS.grOpen (e:=69) (sz:=3) (m:=(rnP q c).length) (f:=(rnV (gtD (rnP q c)) 0)) hS.mem (by omega);obtain⟨rfl,rfl⟩:some (⟨gg18,0,none⟩:Addr)=aoq∧cp19=cq:=by cases hv_;exact⟨rfl,rfl⟩
   clear hv_;replace hS:=hS.to hO;clear hO;refine St.retC 0 hS (sc gg18 0 (rnP q c).length cp19) [] tv fun hw=>?_;refine⟨(some ⟨gg18,0,none⟩),cp19,gg18,0,retd rfl,(by first|exact(.inr rfl)|exact .inl hz_|(rw [←hD];exact(.inr rfl))|(rw [←hD];exact .inl hz_)),(by have hg_:w.heap.size≤gg18:=(hw.getm 1 gg18 (.row 69 ((rnP q c).length*3) (cp19*3) (rnV (gtD (rnP q c)) 0))).resolve_right (fun h=>h);omega),(HE.row_to (hw.get 1 gg18 (.row 69 ((rnP q c).length*3) (cp19*3) (rnV (gtD (rnP q c)) 0))) ?_ ?_),hw.fr0⟩
   all_goals (first|(first|omega|(simp;omega)|rfl)|(intro x_ hx_;rfl)|(intro x_ hx_ hy_;rfl))
theorem r8_commit (ao9:Option Addr)(c9:Nat)(g9:Nat)(o9:Nat)(L:List (Int×Int×Bool))(N:Nat)(g:Nat)(rr:Int)(w:World)(hh0:HE.holds w g9 (zL L o9))(hv9:(L.length=0∨ao9=some ⟨g9,o9,none⟩))(hr: -1≤rr∧rr≤9223372036854775807):
    Calls Tryz.prog 86 #[.agg #[vi 1,vi (N:Int),vi (g:Int),vi rr,.slice ao9 L.length c9]] w fun e w'=>e=.returned (.tuple #[.agg #[vi 1,vi (N:Int),vi (g:Int),vi (cmR rr),.slice ao9 L.length c9],vi (cmE rr)])∧Fr w w' no no:=by
 refine enter (args:=[.agg #[vi 1,vi (N:Int),vi (g:Int),vi rr,.slice ao9 L.length c9]]) (D:=no) (A:=[]) Tryz.func86 rfl 17 rfl [(g9,zL L o9)] (WS.startL ⟨⟨rfl,hh0⟩,trivial⟩) fun ac hS=>?_;refine hS.regS [0,0,0] [] fun ν1=>seg [(1,pt (ν1 0) 0),(2,pt (ν1 1) 0)] [(0,none),(1,some ((ν1 0),.cells [vi 1,vi (N:Int),vi (g:Int),vi rr,.slice ao9 L.length c9] 34)),(2,some ((ν1 1),.cells [vi 0,vi 0,vi 0,vi 0,vnil] 34))] [] tv fun ac wd hS=>?_;refine wp_seq ?_;refine hS.regS [0,100,0] [1,2] fun _=>seg [(6,vb ((rr:Int)==0))] zn3 [.e (ν1 0)] tv fun ac wd hS=>?_;refine hS.condC ((rr:Int)==0) (fun hb1o hb1=>?_) (fun hb1o hb1=>?_)
 ·
  have hr0:rr=0:=hb1;refine hS.regS [0,100] [1,2] fun _=>seg [] [(0,none),(1,some ((ν1 0),.cells [vi 1,vi (N:Int),vi (g:Int),vi (-1),.slice ao9 L.length c9] 34)),(2,none)] [.e (ν1 0)] tv fun ac wd hS=>?_;refine hS.regS [100,200,0] [2] fun _=>seg [(3,vi 4)] [(0,none),(2,some ((ν1 1),.cells [vi 1,vi (N:Int),vi (g:Int),vi (-1),.slice ao9 L.length c9] 34))] [.e (ν1 1),.e (ν1 1),.e (ν1 1),.e (ν1 1),.e (ν1 1),.e (ν1 0),.e (ν1 0),.e (ν1 0),.e (ν1 0),.e (ν1 0)] tv fun ac wd hS=>?_;refine wp_ret ?_;refine zpr ?_;refine St.retC 1 hS (.tuple #[.agg #[vi 1,vi (N:Int),vi (g:Int),vi (-1),.slice ao9 L.length c9],vi 4]) [.e (ν1 1),.e (ν1 1),.e (ν1 1),.e (ν1 1),.e (ν1 1)] tv fun hw=>?_;refine⟨retd (tuple2 (agg5 rfl rfl rfl (vint ?_) rfl) (vint ?_)),hw.fr0⟩
  all_goals (first|rfl|exact cm_1 hr0|exact cm_2 hr0|exact cm_3 hr0|exact cm_4 hr0 (by omega)|exact cm_5 (by omega))
 ·
  have hr0:rr≠0:=hb1;refine wp_skip ?_;refine zpt ?_;refine wp_seq ?_;refine hS.regS [0,100,0] [1,2] fun _=>seg [(11,vb (decide ((0:Int)<rr)))] zn3 [.e (ν1 0)] tv fun ac wd hS=>?_;refine hS.condC (decide ((0:Int)<rr)) (fun hb2o hb2=>?_) (fun hb2o hb2=>?_)
  ·
   have hr1:=hb2;refine hS.regC [0,100,20,0,100] [1,2] fun _=>seg [] [(0,none),(1,some ((ν1 0),.cells [vi 1,vi (N:Int),vi (g:Int),vi (rr-1),.slice ao9 L.length c9] 34)),(2,none)] [.e (ν1 0),.p (fit .i64 (rr-1)),.e (ν1 0)] ⟨zf6 (by omega),tv⟩ fun ac wd hS=>?_;refine zpt ?_;refine hS.regS [100,200,0] [2] fun _=>seg [(3,vi 0)] [(0,none),(2,some ((ν1 1),.cells [vi 1,vi (N:Int),vi (g:Int),vi (rr-1),.slice ao9 L.length c9] 34))] [.e (ν1 1),.e (ν1 1),.e (ν1 1),.e (ν1 1),.e (ν1 1),.e (ν1 0),.e (ν1 0),.e (ν1 0),.e (ν1 0),.e (ν1 0)] tv fun ac wd hS=>?_;refine wp_ret ?_;refine St.retC 1 hS (.tuple #[.agg #[vi 1,vi (N:Int),vi (g:Int),vi (rr-1),.slice ao9 L.length c9],vi 0]) [.e (ν1 1),.e (ν1 1),.e (ν1 1),.e (ν1 1),.e (ν1 1)] tv fun hw=>?_;refine⟨retd (tuple2 (agg5 rfl rfl rfl (vint ?_) rfl) (vint ?_)),hw.fr0⟩
   all_goals (first|rfl|exact cm_1 hr0|exact cm_2 hr0|exact cm_3 hr0|exact cm_4 hr0 (by omega)|exact cm_5 (by omega))
  ·
   have hr1:=hb2;refine wp_skip ?_;refine zpt ?_;refine hS.regS [100,200,0] [2] fun _=>seg [(3,vi 0)] [(0,none),(2,some ((ν1 1),.cells [vi 1,vi (N:Int),vi (g:Int),vi rr,.slice ao9 L.length c9] 34))] [.e (ν1 1),.e (ν1 1),.e (ν1 1),.e (ν1 1),.e (ν1 1),.e (ν1 0),.e (ν1 0),.e (ν1 0),.e (ν1 0),.e (ν1 0)] tv fun ac wd hS=>?_;refine wp_ret ?_;refine St.retC 1 hS (.tuple #[.agg #[vi 1,vi (N:Int),vi (g:Int),vi rr,.slice ao9 L.length c9],vi 0]) [.e (ν1 1),.e (ν1 1),.e (ν1 1),.e (ν1 1),.e (ν1 1)] tv fun hw=>?_;refine⟨retd (tuple2 (agg5 rfl rfl rfl (vint ?_) rfl) (vint ?_)),hw.fr0⟩
   all_goals (first|rfl|exact cm_1 hr0|exact cm_2 hr0|exact cm_3 hr0|exact cm_4 hr0 (by omega)|exact cm_5 (by omega))
theorem r8_Grow (ao9:Option Addr)(c9:Nat)(g9:Nat)(o9:Nat)(L:List (Int×Int×Bool))(N:Nat)(g:Nat)(rr:Int)(k:Int)(w:World)(hh0:HE.holds w g9 (zL L o9))(hv9:(L.length=0∨ao9=some ⟨g9,o9,none⟩))(hr: -1≤rr∧rr≤9223372036854775807)(hng:g≤N∧N≤79):
    Calls Tryz.prog 63 #[.agg #[vi 1,vi (N:Int),vi (g:Int),vi rr,.slice ao9 L.length c9],vi k] w fun e w'=>e=.returned (.tuple #[.agg #[vi 1,vi (N:Int),vi (((gwG N g rr k):Nat):Int),vi (gwR N g rr k),.slice ao9 L.length c9],vi (gwE N g rr k)])∧Fr w w' no no:=by
 refine enter (args:=[.agg #[vi 1,vi (N:Int),vi (g:Int),vi rr,.slice ao9 L.length c9],vi k]) (D:=no) (A:=[]) Tryz.func63 rfl 47 rfl [(g9,zL L o9)] (WS.startL ⟨⟨rfl,hh0⟩,trivial⟩) fun ac hS=>?_;refine hS.regS [0,0,0] [1] fun ν1=>seg [(2,pt (ν1 0) 0),(4,pt (ν1 1) 0)] [(0,none),(1,some ((ν1 0),.cells [vi 1,vi (N:Int),vi (g:Int),vi rr,.slice ao9 L.length c9] 34)),(2,some ((ν1 1),.cells [vi 0,vi 0,vi 0,vi 0,vnil] 34))] [] tv fun ac wd hS=>?_;refine wp_seq ?_;refine hS.regS [0,0,0,3,3,80] [1,2,4] (sg [(14,vb ((decide ((k:Int)<0))||(decide ((10:Int)<k))))] zn3 fun ac wd hS=>?_);refine hS.condC ((decide ((k:Int)<0))||(decide ((10:Int)<k))) (fun hb1o hb1=>?_) (fun hb1o hb1=>?_)
 ·
  have hbd:gwBad k=true:=hb1o;obtain⟨E1,E2,E3⟩:=gr_1 (N:=N) (g:=g) (r:=rr) hbd;refine hS.regS [100,200,0] [4] fun _=>seg [(5,vi 2)] [(0,none),(2,some ((ν1 1),.cells [vi 1,vi (N:Int),vi (g:Int),vi rr,.slice ao9 L.length c9] 34))] [.e (ν1 1),.e (ν1 1),.e (ν1 1),.e (ν1 1),.e (ν1 1),.e (ν1 0),.e (ν1 0),.e (ν1 0),.e (ν1 0),.e (ν1 0)] tv fun ac wd hS=>?_;refine wp_ret ?_;refine zpr ?_;refine St.retC 1 hS (.tuple #[.agg #[vi 1,vi (N:Int),vi (g:Int),vi rr,.slice ao9 L.length c9],vi 2]) [.e (ν1 1),.e (ν1 1),.e (ν1 1),.e (ν1 1),.e (ν1 1)] tv fun hw=>?_;refine⟨retd (tuple2 (agg5 rfl rfl (vint ?_) (vint ?_) rfl) (vint ?_)),hw.fr0⟩
  all_goals (first|rfl|exact E1|exact E5|exact(cm_e0 E4).trans E1|(rw [E3];exact E4.1)|(rw [E3];exact E4)|(rw [E2];done)|(rw [E3];done)|(rw [←E1];assumption))
 ·
  have hbd:gwBad k=false:=hb1o;have hk10:=gr_bad hbd;have hpb:=pgsN_bd hk10.2;have huf:=upG_facts g k;have hpg1:=pg_1 k;refine wp_skip ?_;refine zpt ?_;refine zwq ?_;refine hS.opsC 1 [0] [2,4] (sg [(16,vi k)] zn3 fun ac wd hS=>?_);refine hS.call0 88 #[vi k] 17 (r06_Pages k _ (by first|assumption|omega|(simp_all;done)|(simp_all;omega))) fun ac wd hS=>?_;refine hS.opsC 1 [0] [2,4] (sg [(6,vi (pgsN k))] zn3 fun ac wd hS=>?_);refine zlq ?_;refine hS.regS [0,100,0] [2,4,6] fun _=>seg [(7,vi (g:Int))] zn3 [.e (ν1 0)] tv fun ac wd hS=>?_;refine wp_seq ?_;refine wp_block ?_;refine St.loopC (σ:=Int) (fun(x7:Int)=>⟨[(2,[],pt (ν1 0) 0),(4,[],pt (ν1 1) 0),(6,[],vi (pgsN k)),(7,[],vi x7)],[(g9,zL L o9),((ν1 0),.cells [vi 1,vi (N:Int),vi (g:Int),vi rr,.slice ao9 L.length c9] 34),((ν1 1),.cells [vi 0,vi 0,vi 0,vi 0,vnil] 34)],[],((g:Int)≤x7∧x7≤upG g k)∧True,Int.toNat (upG g k-x7)⟩) (g:Int) ⟨(by exact⟨by omega,by omega⟩),trivial⟩ hS ?_;clear hS;rintro x7 ⟨i0,-⟩ ac wd hS;replace i0:(g:Int)≤x7∧x7≤upG g k:=i0;refine wp_seq ?_;refine hS.regS [0,0,20,0] [2,4,6,7] fun _=>seg [(23,vb (decide ((0:Int)<(x7%(pgsN k)))))] zn3 [.p (((pgsN k):Int)≠0∧Int.tmod x7 (pgsN k)=x7%(pgsN k))] ⟨rem2 (by omega) (by omega),tv⟩ fun ac wd hS=>?_;refine hS.condC (decide ((0:Int)<(x7%(pgsN k)))) (fun hb2o hb2=>?_) (fun hb2o hb2=>?_)
  ·
   have hlt:=up_lt (g:=g) (k:=k) (by omega) i0.1 i0.2 hb2;refine wp_skip ?_;refine zpt ?_;refine wp_block ?_;refine hS.regC [0,20,0] [2,4,6] fun _=>seg [(7,vi (x7+1))] zn3 [.p (fit .i64 (x7+1))] ⟨zf6 (by omega),tv⟩ fun ac wd hS=>?_;refine zpb ?_;exact zpt (hS.next (x7+1) ⟨(by omega),tv⟩ (by dsimp only;omega))
  ·
   have heq:=up_eq (g:=g) (k:=k) (by omega) i0.1 i0.2 hb2;refine wp_exit ?_;refine zpe ?_;refine zpe ?_;refine zph ?_;refine zpt ?_;refine wp_seq ?_;refine hS.regS [0,0,20,0,100,0] [2,4,6,7] fun _=>seg [(31,vb (decide (((N:Int):Int)<(x7+(pgsN k)))))] zn3 [.e (ν1 0),.p (fit .i64 (x7+(pgsN k)))] ⟨zf6 (by omega),tv⟩ fun ac wd hS=>?_;refine hS.condC (decide (((N:Int):Int)<(x7+(pgsN k)))) (fun hb3o hb3=>?_) (fun hb3o hb3=>?_)
   ·
    obtain⟨E1,E2,E3⟩:=gr_2 (N:=N) (g:=g) (r:=rr) hbd (up_no heq hb3);refine hS.regS [100,200,0] [4] fun _=>seg [(5,vi 4)] [(0,none),(2,some ((ν1 1),.cells [vi 1,vi (N:Int),vi (g:Int),vi rr,.slice ao9 L.length c9] 34))] [.e (ν1 1),.e (ν1 1),.e (ν1 1),.e (ν1 1),.e (ν1 1),.e (ν1 0),.e (ν1 0),.e (ν1 0),.e (ν1 0),.e (ν1 0)] tv fun ac wd hS=>?_;refine wp_ret ?_;refine zpr ?_;refine St.retC 1 hS (.tuple #[.agg #[vi 1,vi (N:Int),vi (g:Int),vi rr,.slice ao9 L.length c9],vi 4]) [.e (ν1 1),.e (ν1 1),.e (ν1 1),.e (ν1 1),.e (ν1 1)] tv fun hw=>?_;refine⟨retd (tuple2 (agg5 rfl rfl (vint ?_) (vint ?_) rfl) (vint ?_)),hw.fr0⟩
    all_goals (first|rfl|exact E1|exact E5|exact(cm_e0 E4).trans E1|(rw [E3];exact E4.1)|(rw [E3];exact E4)|(rw [E2];done)|(rw [E3];done)|(rw [←E1];assumption))
   ·
    have hfit:=up_yes heq hb3;refine wp_skip ?_;refine zpt ?_;refine zwq ?_;refine hS.opsC 1 [100] [2,4,6,7] fun _=>seg [(34,.agg #[vi 1,vi (N:Int),vi (g:Int),vi rr,.slice ao9 L.length c9])] zn3 [.e (ν1 0),.e (ν1 0),.e (ν1 0),.e (ν1 0),.e (ν1 0)] tv fun ac wd hS=>?_;refine hS.call0 86 #[.agg #[vi 1,vi (N:Int),vi (g:Int),vi rr,.slice ao9 L.length c9]] 35 (r8_commit ao9 c9 g9 o9 L N g rr _ (hS.mem.get 0 g9 (zL L o9)) hv9 (by exact hr)) fun ac wd hS=>?_;refine hS.opsC 5 [0,0,0,100,0] [2,4,6,7] fun _=>seg [(8,vi (cmE rr))] [(0,none),(1,some ((ν1 0),.cells [vi 1,vi (N:Int),vi (g:Int),vi (cmR rr),.slice ao9 L.length c9] 34)),(2,none)] [.e (ν1 0),.e (ν1 0),.e (ν1 0),.e (ν1 0),.e (ν1 0)] tv fun ac wd hS=>?_;refine zlq ?_;refine wp_seq ?_;refine hS.regS [0,0] [2,4,6,7,8] (sg [(39,vb (((cmE rr):Int)!=0))] zn3 fun ac wd hS=>?_);refine hS.condC (((cmE rr):Int)!=0) (fun hb4o hb4=>?_) (fun hb4o hb4=>?_)
    ·
     obtain⟨E1,E2,E3⟩:=gr_3 (N:=N) (g:=g) (r:=rr) hbd hfit (cm_e1 hb4);have E4:=cm_e3 hb4;refine hS.regS [100,0,200,0] [4] fun _=>seg [(5,vi (cmE rr))] [(0,none),(2,some ((ν1 1),.cells [vi 1,vi (N:Int),vi (g:Int),vi (cmR rr),.slice ao9 L.length c9] 34))] [.e (ν1 1),.e (ν1 1),.e (ν1 1),.e (ν1 1),.e (ν1 1),.e (ν1 0),.e (ν1 0),.e (ν1 0),.e (ν1 0),.e (ν1 0)] tv fun ac wd hS=>?_;refine wp_ret ?_;refine zpr ?_;refine St.retC 1 hS (.tuple #[.agg #[vi 1,vi (N:Int),vi (g:Int),vi (cmR rr),.slice ao9 L.length c9],vi (cmE rr)]) [.e (ν1 1),.e (ν1 1),.e (ν1 1),.e (ν1 1),.e (ν1 1)] tv fun hw=>?_;refine⟨retd (tuple2 (agg5 rfl rfl (vint ?_) (vint ?_) rfl) (vint ?_)),hw.fr0⟩
     all_goals (first|rfl|exact E1|exact E5|exact(cm_e0 E4).trans E1|(rw [E3];exact E4.1)|(rw [E3];exact E4)|(rw [E2];done)|(rw [E3];done)|(rw [←E1];assumption))
    ·
     obtain⟨E1,E2,E3⟩:=gr_4 (N:=N) (g:=g) (r:=rr) hbd hfit (cm_e2 hb4);have E4:=cm_e4 hr hb4;have E5:=cm_e5 heq E2;refine wp_skip ?_;refine zpt ?_;refine hS.regS [0,0,20,0,100] [2,4] fun _=>seg [] [(0,none),(1,some ((ν1 0),.cells [vi 1,vi (N:Int),vi (x7+(pgsN k)),vi (cmR rr),.slice ao9 L.length c9] 34)),(2,none)] [.e (ν1 0),.p (fit .i64 (x7+(pgsN k)))] ⟨zf6 (by omega),tv⟩ fun ac wd hS=>?_;refine hS.regS [100,200,0] [4] fun _=>seg [(5,vi 0)] [(0,none),(2,some ((ν1 1),.cells [vi 1,vi (N:Int),vi (x7+(pgsN k)),vi (cmR rr),.slice ao9 L.length c9] 34))] [.e (ν1 1),.e (ν1 1),.e (ν1 1),.e (ν1 1),.e (ν1 1),.e (ν1 0),.e (ν1 0),.e (ν1 0),.e (ν1 0),.e (ν1 0)] tv fun ac wd hS=>?_;refine wp_ret ?_;refine St.retC 1 hS (.tuple #[.agg #[vi 1,vi (N:Int),vi (x7+(pgsN k)),vi (cmR rr),.slice ao9 L.length c9],vi 0]) [.e (ν1 1),.e (ν1 1),.e (ν1 1),.e (ν1 1),.e (ν1 1)] tv fun hw=>?_;refine⟨retd (tuple2 (agg5 rfl rfl (vint ?_) (vint ?_) rfl) (vint ?_)),hw.fr0⟩
     all_goals (first|rfl|exact E1|exact E5|exact(cm_e0 E4).trans E1|(rw [E3];exact E4.1)|(rw [E3];exact E4)|(rw [E2];done)|(rw [E3];done)|(rw [←E1];assumption))
theorem r8_find (ao9:Option Addr)(c9:Nat)(g9:Nat)(o9:Nat)(L:List (Int×Int×Bool))(N:Nat)(g:Nat)(rr:Int)(k:Int)(q:List Tg)(w:World)(hh0:HE.holds w 1 (.fn 0 64 dbT))(hh1:HE.holds w g9 (zL L o9))(hv9:(L.length=0∨ao9=some ⟨g9,o9,none⟩))(hD:DC N g g q L)(hk:0≤k∧k≤10):
    Calls Tryz.prog 110 #[.agg #[vi 1,vi (N:Int),vi (g:Int),vi rr,.slice ao9 L.length c9],vi k] w fun e w'=>∃(fi:Int),e=.returned (vi fi)∧FdD q k fi∧(-1≤fi∧fi≤100)∧Fr w w' no no:=by
 have hc79:=hD.c79;have hl79:=hD.len;have hrl:=rnP_len q g;refine enter (args:=[.agg #[vi 1,vi (N:Int),vi (g:Int),vi rr,.slice ao9 L.length c9],vi k]) (D:=no) (A:=[]) Tryz.func110 rfl 36 rfl [(1,.fn 0 64 dbT),(g9,zL L o9)] (WS.startL ⟨⟨rfl,hh0⟩,⟨rfl,hh1⟩,trivial⟩) fun ac hS=>?_;refine hS.regS [0,0] [1] fun ν1=>seg [(2,pt (ν1 0) 0)] [(0,none),(1,none),(2,some ((ν1 0),.cells [vi 1,vi (N:Int),vi (g:Int),vi rr,.slice ao9 L.length c9] 34))] [] tv fun ac wd hS=>?_;refine hS.regS [0,0,300] [1,2] fun ν2=>seg [(5,pt (ν2 0) 0)] [(0,none),(1,none),(2,none),(3,some ((ν2 0),.cells [vi (-1),vi 11,vb false] 69))] [.e (ν2 0),.e (ν2 0),.e (ν2 0)] tv fun ac wd hS=>?_;refine wp_seq ?_;refine zwq ?_;refine hS.opsC 1 [200] [1,5] fun _=>seg [(9,.agg #[vi 1,vi (N:Int),vi (g:Int),vi rr,.slice ao9 L.length c9])] [(0,none),(1,none),(3,none)] [.e (ν1 0),.e (ν1 0),.e (ν1 0),.e (ν1 0),.e (ν1 0)] tv fun ac wd hS=>?_;refine hS.callC 38 #[.agg #[vi 1,vi (N:Int),vi (g:Int),vi rr,.slice ao9 L.length c9]] (r8_Runs ao9 c9 g9 o9 L N g rr g q _ (hS.mem.get 0 1 (.fn 0 64 dbT)) (hS.mem.get 1 g9 (zL L o9)) hv9 (by exact hD)) ?_;rintro _ wd ⟨ao21,c22,g23,o24,rfl,hv25,hog0,hoh0,hF⟩;have ho6:g23=1∨w.heap.size≤g23:=by have:=hS.mem.fr.size;have:w.heap.size≤_:=this;omega
 refine⟨.slice ao21 (rnP q g).length c22,rfl,?_⟩;replace hS:=(hS.to (hS.mem.outs hF [(g23,zL (rnP q g) o24)] ⟨⟨rfl,hoh0,(fun q_=>q_.elim (fun e=>.inl ⟨0,.fn 0 64 dbT,by rw [e];as_aux_lemma=>kernel_rfl,rfl⟩) (fun q_=>.inr q_)) hog0⟩,trivial⟩)).put (d:=10) (v:=.slice ao21 (rnP q g).length c22) (by decide);clear hF;refine hS.opsC 2 [0,0] [1,5,10] (sg [(11,vi (((rnP q g).length:Nat):Int)),(12,vi 0)] [(0,none),(2,none),(3,none)] fun ac wd hS=>?_);refine zlq ?_;refine wp_block ?_;refine St.loopC (σ:=Int×Int×Int×Bool) (fun(x:Int×Int×Int×Bool)=>match x with|(x12,fa,fk,fb)=>⟨[(1,[],vi k),(5,[],pt (ν2 0) 0),(10,[],.slice ao21 (rnP q g).length c22),(11,[],vi (((rnP q g).length:Nat):Int)),(12,[],vi x12)],[(1,.fn 0 64 dbT),((ν2 0),.cells [vi fa,vi fk,vb fb] 69),(g23,zL (rnP q g) o24)],[],(0≤x12∧x12≤((rnP q g).length:Int))∧(((fa,fk,fb):Rn)=bstD k ((rnP q g).take x12.toNat))∧True,(rnP q g).length-Int.toNat x12⟩) (0,(-1),11,false) ⟨(by first|omega|rfl),(by first|omega|rfl),trivial⟩ hS ?_;clear hS;rintro⟨x12,fa,fk,fb⟩ ⟨i0,i1,-⟩ ac wd hS;replace i0:0≤x12∧x12≤((rnP q g).length:Int):=i0;replace i1:((fa,fk,fb):Rn)=bstD k ((rnP q g).take x12.toNat):=i1;refine hS.regS [0] [1,5,10,11,12] (sg [(13,vb (decide ((x12:Int)<(((rnP q g).length:Nat):Int))))] zn3 fun ac wd hS=>?_);refine wp_seq ?_;refine hS.condC (decide ((x12:Int)<(((rnP q g).length:Nat):Int))) (fun hb7o hb7=>?_) (fun hb7o hb7=>?_)
 ·
  refine wp_skip ?_;refine zpt ?_;refine wp_seq ?_;refine wp_block ?_;obtain rfl:ao21=some ⟨g23,o24,none⟩:=Or.resolve_left hv25 (by omega);refine hS.regS [20,fx 200 (.agg #[vi (gtD (rnP q g) x12.toNat).1,vi (gtD (rnP q g) x12.toNat).2.1,vb (gtD (rnP q g) x12.toNat).2.2]),0,300] [1,5,10,11,12] fun ν6=>seg [(7,pt (ν6 0) 0)] [(0,none),(1,none),(2,none),(3,some ((ν6 0),.cells [vi (gtD (rnP q g) x12.toNat).1,vi (gtD (rnP q g) x12.toNat).2.1,vb (gtD (rnP q g) x12.toNat).2.2] 69))] [.e (ν6 0),.e (ν6 0),.e (ν6 0),.p ((.agg #[((rnV (gtD (rnP q g)) o24) (o24+Int.toNat x12*3)),((rnV (gtD (rnP q g)) o24) (o24+Int.toNat x12*3+1)),((rnV (gtD (rnP q g)) o24) (o24+Int.toNat x12*3+2))]:Value)=.agg #[vi (gtD (rnP q g) x12.toNat).1,vi (gtD (rnP q g) x12.toNat).2.1,vb (gtD (rnP q g) x12.toNat).2.2]),.e g23,.p (o24≤o24+Int.toNat x12*3+2∧o24+Int.toNat x12*3+2<(o24+(rnP q g).length*3)),.e g23,.p (o24≤o24+Int.toNat x12*3+1∧o24+Int.toNat x12*3+1<(o24+(rnP q g).length*3)),.e g23,.p (o24≤o24+Int.toNat x12*3∧o24+Int.toNat x12*3<(o24+(rnP q g).length*3)),.p ((0:Int)≤x12∧(x12:Int)<(((rnP q g).length:Nat):Int))] ⟨(agg3 (rnV_0 (gtD (rnP q g)) o24 x12.toNat) (rnV_1 (gtD (rnP q g)) o24 x12.toNat) (rnV_2 (gtD (rnP q g)) o24 x12.toNat)),(by omega),(by omega),(by omega),(by omega),tv⟩ fun ac wd hS=>?_;refine hS.regS [0,300,0,0,3,303,3,3,80,0,3,303,3,103,3,80] [1,5,7,10,11,12] fun _=>seg [(31,vb (((!(gtD (rnP q g) x12.toNat).2.2)&&(decide ((k:Int)≤(gtD (rnP q g) x12.toNat).2.1)))&&(decide (((gtD (rnP q g) x12.toNat).2.1:Int)<fk))))] zn4 [.p (((((!(gtD (rnP q g) x12.toNat).2.2)&&(decide ((k:Int)≤(gtD (rnP q g) x12.toNat).2.1)))=true)∧True)→AllP [((ν2 0):Nat)=(ν2 0)]),.p (((((!(gtD (rnP q g) x12.toNat).2.2)&&(decide ((k:Int)≤(gtD (rnP q g) x12.toNat).2.1)))=true)∧True)→AllP [((ν6 0):Nat)=(ν6 0)]),.p ((((!(gtD (rnP q g) x12.toNat).2.2)=true)∧True)→AllP [((ν6 0):Nat)=(ν6 0)]),.e (ν6 0)] ⟨(fun⟨hc0,_⟩=>by replace hc0:=nrm hc0;exact⟨rfl,trivial⟩),(fun⟨hc0,_⟩=>by replace hc0:=nrm hc0;exact⟨rfl,trivial⟩),(fun⟨hc0,_⟩=>by replace hc0:=nrm hc0;exact⟨rfl,trivial⟩),tv⟩ fun ac wd hS=>?_;refine hS.condC (((!(gtD (rnP q g) x12.toNat).2.2)&&(decide ((k:Int)≤(gtD (rnP q g) x12.toNat).2.1)))&&(decide (((gtD (rnP q g) x12.toNat).2.1:Int)<fk))) (fun hb8o hb8=>?_) (fun hb8o hb8=>?_)
  ·
   have hc9:=hb8o;refine hS.regC [300,100] [1,5,10,11,12] fun _=>seg [] [(0,none),(1,some ((ν2 0),.cells [vi (gtD (rnP q g) x12.toNat).1,vi (gtD (rnP q g) x12.toNat).2.1,vb (gtD (rnP q g) x12.toNat).2.2] 69)),(2,none)] [.e (ν2 0),.e (ν2 0),.e (ν2 0),.e (ν6 0),.e (ν6 0),.e (ν6 0)] tv fun ac wd hS=>?_;refine zpb ?_;refine zpt ?_;refine hS.regC [20,0] [1,5,10,11] fun _=>seg [(12,vi (x12+1))] zn3 [.p (fit .i64 (x12+1))] ⟨zf6 (by omega),tv⟩ fun ac wd hS=>?_;exact zpt (hS.next ((x12+1),(gtD (rnP q g) x12.toNat).1,(gtD (rnP q g) x12.toNat).2.1,(gtD (rnP q g) x12.toNat).2.2) ⟨(by first|omega|assumption|(simp;done)|(simp;omega)),(by first|exact bst_y i1 i0.1 (by omega) hc9|exact bst_n i1 i0.1 (by omega) hc9),tv⟩ (by dsimp only;omega))
  ·
   have hc9:=hb8o;refine wp_skip ?_;refine zpb ?_;refine zpt ?_;refine hS.regC [20,0] [1,5,10,11] fun _=>seg [(12,vi (x12+1))] zn3 [.p (fit .i64 (x12+1))] ⟨zf6 (by omega),tv⟩ fun ac wd hS=>?_;exact zpt (hS.next ((x12+1),fa,fk,fb) ⟨(by first|omega|assumption|(simp;done)|(simp;omega)),(by first|exact bst_y i1 i0.1 (by omega) hc9|exact bst_n i1 i0.1 (by omega) hc9),tv⟩ (by dsimp only;omega))
 ·
  refine wp_exit ?_;refine zpe ?_;refine zpe ?_;refine zph ?_;refine zpt ?_;refine hS.regS [0,100,0] [] fun _=>seg [(4,vi fa)] [(0,none)] [.e (ν2 0)] tv fun ac wd hS=>?_;refine wp_ret ?_;refine St.retC 0 hS (vi fa) [] tv fun hw=>?_;refine⟨fa,retd rfl,?_,?_,hw.fr0⟩
  all_goals (first|rfl|exact bst_fd hD.dq hk.1 (by omega) i1|exact bst_rng hD.dq hk.1 (by omega) i1)
theorem r8_Order (ao9:Option Addr)(c9:Nat)(g9:Nat)(o9:Nat)(L:List (Int×Int×Bool))(N:Nat)(g:Nat)(rr:Int)(pa:Int)(q:List Tg)(w:World)(hh0:HE.holds w g9 (zL L o9))(hv9:(L.length=0∨ao9=some ⟨g9,o9,none⟩))(hD:DC N g g q L)(hpa: -1≤pa∧pa≤1000000):
    Calls Tryz.prog 61 #[.agg #[vi 1,vi (N:Int),vi (g:Int),vi rr,.slice ao9 L.length c9],vi pa] w fun e w'=>e=.returned (.tuple #[vi (tkK q ((pa+1)*4096)),vi (tkE q ((pa+1)*4096))])∧Fr w w' no no:=by
 have hl79:=hD.len;refine enter (args:=[.agg #[vi 1,vi (N:Int),vi (g:Int),vi rr,.slice ao9 L.length c9],vi pa]) (D:=no) (A:=[]) Tryz.func61 rfl 22 rfl [(g9,zL L o9)] (WS.startL ⟨⟨rfl,hh0⟩,trivial⟩) fun ac hS=>?_;refine hS.regS [0,0,0] [1] fun ν1=>seg [(2,pt (ν1 0) 0)] [(0,none),(1,some ((ν1 0),.cells [vi 1,vi (N:Int),vi (g:Int),vi rr,.slice ao9 L.length c9] 34))] [] tv fun ac wd hS=>?_;refine wp_seq ?_;refine hS.regS [0,100,0,0] [1] fun _=>seg [(9,.slice ao9 L.length c9),(10,vi (L.length:Int)),(11,vi 0)] [(0,none)] [.e (ν1 0)] tv fun ac wd hS=>?_;refine wp_block ?_;refine St.loopC (σ:=Int) (fun(x11:Int)=>⟨[(1,[],vi pa),(9,[],.slice ao9 L.length c9),(10,[],vi (L.length:Int)),(11,[],vi x11)],[(g9,zL L o9)],[],(0≤x11∧x11≤(L.length:Int))∧(∀j:Nat,(j:Int)<x11→(gtD L j).1≠pa)∧True,L.length-Int.toNat x11⟩) 0 ⟨(by first|omega|exact fun j h_=>absurd h_ (by omega)),(by first|omega|exact fun j h_=>absurd h_ (by omega)),trivial⟩ hS ?_;clear hS;rintro x11 ⟨i0,i1,-⟩ ac wd hS;replace i0:0≤x11∧x11≤(L.length:Int):=i0;replace i1:∀j:Nat,(j:Int)<x11→(gtD L j).1≠pa:=i1;refine hS.regS [0] [1,9,10,11] (sg [(12,vb (decide ((x11:Int)<(L.length:Int))))] [(0,none)] fun ac wd hS=>?_);refine wp_seq ?_;refine hS.condC (decide ((x11:Int)<(L.length:Int))) (fun hb1o hb1=>?_) (fun hb1o hb1=>?_)
 ·
  refine wp_skip ?_;refine zpt ?_;refine wp_seq ?_;refine wp_block ?_;obtain rfl:ao9=some ⟨g9,o9,none⟩:=Or.resolve_left hv9 (by omega);refine hS.regS [20,fx 0 (.agg #[vi (gtD L x11.toNat).1,vi (gtD L x11.toNat).2.1,vb (gtD L x11.toNat).2.2]),0,100] [1,9,10,11] fun ν4=>seg [(7,pt (ν4 0) 0)] [(0,none),(1,some ((ν4 0),.cells [vi (gtD L x11.toNat).1,vi (gtD L x11.toNat).2.1,vb (gtD L x11.toNat).2.2] 69))] [.e (ν4 0),.e (ν4 0),.e (ν4 0),.p ((.agg #[((rnV (gtD L) o9) (o9+Int.toNat x11*3)),((rnV (gtD L) o9) (o9+Int.toNat x11*3+1)),((rnV (gtD L) o9) (o9+Int.toNat x11*3+2))]:Value)=.agg #[vi (gtD L x11.toNat).1,vi (gtD L x11.toNat).2.1,vb (gtD L x11.toNat).2.2]),.e g9,.p (o9≤o9+Int.toNat x11*3+2∧o9+Int.toNat x11*3+2<(o9+L.length*3)),.e g9,.p (o9≤o9+Int.toNat x11*3+1∧o9+Int.toNat x11*3+1<(o9+L.length*3)),.e g9,.p (o9≤o9+Int.toNat x11*3∧o9+Int.toNat x11*3<(o9+L.length*3)),.p ((0:Int)≤x11∧(x11:Int)<(L.length:Int))] ⟨(agg3 (rnV_0 (gtD L) o9 x11.toNat) (rnV_1 (gtD L) o9 x11.toNat) (rnV_2 (gtD L) o9 x11.toNat)),(by omega),(by omega),(by omega),(by omega),tv⟩ fun ac wd hS=>?_;refine hS.regS [0,100,0,0] [1,7,9,10,11] fun _=>seg [(18,vb (((gtD L x11.toNat).1:Int)==pa))] zn2 [.e (ν4 0)] tv fun ac wd hS=>?_;refine hS.condC (((gtD L x11.toNat).1:Int)==pa) (fun hb2o hb2=>?_) (fun hb2o hb2=>?_)
  ·
   obtain⟨E1,E2⟩:=ordD_y hD (show Int.toNat x11<L.length by omega) hb2;refine hS.regS [0,100,0,0] [] fun _=>seg [(4,vi (gtD L x11.toNat).2.1),(5,vi 0)] [] [.e (ν4 0)] tv fun ac wd hS=>?_;refine wp_ret ?_;refine zpc ?_;refine zpr ?_;refine zpr ?_;refine zpc ?_;refine zpr ?_;refine St.retC 0 hS (.tuple #[vi (gtD L x11.toNat).2.1,vi 0]) [] tv fun hw=>?_;refine⟨retd (tuple2 (vint ?_) (vint ?_)),hw.fr0⟩
   all_goals (first|rfl|exact E1|exact E2|exact(ordD_n hD hpa.1 i1 (by omega)).1|exact(ordD_n hD hpa.1 i1 (by omega)).2)
  ·
   have hn9:=hb2;refine wp_skip ?_;refine zpb ?_;refine zpt ?_;refine hS.regC [20,0] [1,9,10] fun _=>seg [(11,vi (x11+1))] [(0,none)] [.p (fit .i64 (x11+1))] ⟨zf6 (by omega),tv⟩ fun ac wd hS=>?_;exact zpt (hS.next (x11+1) ⟨(by first|omega|assumption|(simp;done)|(simp;omega)),(by exact ord_st i1 i0.1 hn9),tv⟩ (by dsimp only;omega))
 ·
  refine wp_exit ?_;refine zpe ?_;refine zpe ?_;refine zph ?_;refine zpt ?_;refine hS.regS [0,0] [] (sg [(4,vi 0),(5,vi 8)] [] fun ac wd hS=>?_);refine wp_ret ?_;refine St.retC 0 hS (.tuple #[vi 0,vi 8]) [] tv fun hw=>?_;refine⟨retd (tuple2 (vint ?_) (vint ?_)),hw.fr0⟩
  all_goals (first|rfl|exact E1|exact E2|exact(ordD_n hD hpa.1 i1 (by omega)).1|exact(ordD_n hD hpa.1 i1 (by omega)).2)
theorem r8_Free (ao9:Option Addr)(c9:Nat)(g9:Nat)(o9:Nat)(L:List (Int×Int×Bool))(N:Nat)(g:Nat)(rr:Int)(pa:Int)(q:List Tg)(q2:List Tg)(w:World)(hh0:HE.holds w 1 (.fn 0 64 dbT))(hh1:HE.holds w g9 (zL L o9))(hv9:(L.length=0∨ao9=some ⟨g9,o9,none⟩))(hDc:DC N g g q L)(hpa: -1≤pa∧pa≤1000000)(hF:FreeP q ((pa+1)*4096) q2):
    Calls Tryz.prog 62 #[.agg #[vi 1,vi (N:Int),vi (g:Int),vi rr,.slice ao9 L.length c9],vi pa] w fun e w'=>∃(ao2:Option Addr) (c2:Nat) (g2:Nat) (o2:Nat),e=.returned (.tuple #[.agg #[vi 1,vi (N:Int),vi (g:Int),vi rr,.slice ao2 (tkD q2 g).length c2],vi (tkE q ((pa+1)*4096))])∧((tkD q2 g).length=0∨ao2=some ⟨g2,o2,none⟩)∧(g2=1∨g2=g9∨w.heap.size≤g2)∧HE.holds w' g2 (zL (tkD q2 g) o2)∧Fr w w' no no:=by
 have hl79:=hDc.len;have hc79:=hDc.c79;refine enter (args:=[.agg #[vi 1,vi (N:Int),vi (g:Int),vi rr,.slice ao9 L.length c9],vi pa]) (D:=no) (A:=[]) Tryz.func62 rfl 40 rfl [(1,.fn 0 64 dbT),(g9,zL L o9)] (WS.startL ⟨⟨rfl,hh0⟩,⟨rfl,hh1⟩,trivial⟩) fun ac hS=>?_;refine hS.regS [0,0,0] [1] fun ν1=>seg [(2,pt (ν1 0) 0),(4,pt (ν1 1) 0)] [(0,none),(1,none),(2,some ((ν1 0),.cells [vi 1,vi (N:Int),vi (g:Int),vi rr,.slice ao9 L.length c9] 34)),(3,some ((ν1 1),.cells [vi 0,vi 0,vi 0,vi 0,vnil] 34))] [] tv fun ac wd hS=>?_;refine zwq ?_;refine hS.opsC 2 [200,0] [1,2,4] fun _=>seg [(12,.agg #[vi 1,vi (N:Int),vi (g:Int),vi rr,.slice ao9 L.length c9]),(13,vi pa)] zn4 [.e (ν1 0),.e (ν1 0),.e (ν1 0),.e (ν1 0),.e (ν1 0)] tv fun ac wd hS=>?_;refine hS.call0 61 #[.agg #[vi 1,vi (N:Int),vi (g:Int),vi rr,.slice ao9 L.length c9],vi pa] 14 (r8_Order ao9 c9 g9 o9 L N g rr pa q _ (hS.mem.get 1 g9 (zL L o9)) hv9 (by exact hDc) (by exact hpa)) fun ac wd hS=>?_;refine hS.opsC 5 [0,0,0,0,0] [1,2,4] (sg [(7,vi (tkE q ((pa+1)*4096)))] zn4 fun ac wd hS=>?_);refine zlq ?_;refine wp_seq ?_;refine hS.regS [0,0] [1,2,4,7] (sg [(18,vb (((tkE q ((pa+1)*4096)):Int)!=0))] zn4 fun ac wd hS=>?_);refine hS.condC (((tkE q ((pa+1)*4096)):Int)!=0) (fun hb1o hb1=>?_) (fun hb1o hb1=>?_)
 ·
  have hne:tkE q ((pa+1)*4096)≠0:=hb1;have hD:=free_no hDc hF hne;refine hS.regS [200,0,300,0] [4] fun _=>seg [(5,vi (tkE q ((pa+1)*4096)))] [(0,none),(1,none),(3,some ((ν1 1),.cells [vi 1,vi (N:Int),vi (g:Int),vi rr,.slice ao9 L.length c9] 34))] [.e (ν1 1),.e (ν1 1),.e (ν1 1),.e (ν1 1),.e (ν1 1),.e (ν1 0),.e (ν1 0),.e (ν1 0),.e (ν1 0),.e (ν1 0)] tv fun ac wd hS=>?_;refine wp_ret ?_;refine zpr ?_;refine St.retC 2 hS (.tuple #[.agg #[vi 1,vi (N:Int),vi (g:Int),vi rr,.slice ao9 L.length c9],vi (tkE q ((pa+1)*4096))]) [.e (ν1 1),.e (ν1 1),.e (ν1 1),.e (ν1 1),.e (ν1 1)] tv fun hw=>?_;refine⟨ao9,c9,g9,o9,retd (tuple2 (agg5 rfl rfl rfl rfl (slN ?_)) rfl),(by first|exact hv9|exact .inl hz_|(rw [←hD];exact hv9)|(rw [←hD];exact .inl hz_)),(by omega),(HE.fn_to (hw.get 1 g9 (zL L o9)) ?_ ?_),hw.fr0⟩
  all_goals (first|(first|rfl|(rw [←hD];done)|(rw [←hV];done)|(intro x_ _ _;rw [←hD])|omega|exact he0.symm|exact hv9|(rw [←hD];exact hv9)|(simp;omega))|(intro x_ hx_;rfl)|(intro x_ hx_ hy_;rfl))
 ·
  have he0:tkE q ((pa+1)*4096)=0:=hb1;have hY:=free_yes hDc hpa.1 hF he0;refine wp_skip ?_;refine zpt ?_;replace hS:=hS.to (hS.mem.grNew 69 3 (rnV (gtD ([]:List (Int×Int×Bool))) 0));refine hS.regS [0] [1,2,4] (sg [(8,vnil)] zn4 fun ac wd hS=>?_);refine wp_seq ?_;refine hS.regS [0,200,0,0] [1,2,4,8] fun _=>seg [(22,.slice ao9 L.length c9),(23,vi (L.length:Int)),(24,vi 0)] zn4 [.e (ν1 0)] tv fun ac wd hS=>?_;refine wp_block ?_;refine St.loopC (σ:=Int×Option Addr×Nat×(Nat→Prop)×(List (Int×Int×Bool))) (fun(x:Int×Option Addr×Nat×(Nat→Prop)×(List (Int×Int×Bool)))=>match x with|(x24,aoq,cq,Fq,lq)=>⟨[(1,[],vi pa),(2,[],pt (ν1 0) 0),(4,[],pt (ν1 1) 0),(8,[],.slice aoq lq.length cq),(22,[],.slice ao9 L.length c9),(23,[],vi (L.length:Int)),(24,[],vi x24)],[(1,.fn 0 64 dbT),(g9,zL L o9),((ν1 0),.cells [vi 1,vi (N:Int),vi (g:Int),vi rr,.slice ao9 L.length c9] 34),((ν1 1),.cells [vi 0,vi 0,vi 0,vi 0,vnil] 34)],[grR 69 3 (.slice aoq lq.length cq) Fq (lq.length,(rnV (gtD lq) 0))],(0≤x24∧x24≤(L.length:Int))∧(lq=delD (L.take x24.toNat) pa)∧True,L.length-Int.toNat x24⟩) (0,none,0,no,([]:List (Int×Int×Bool))) ⟨(by first|omega|rfl),(by first|omega|rfl),trivial⟩ hS ?_;clear hS;rintro⟨x24,aoq,cq,Fq,lq⟩ ⟨i0,i1,-⟩ ac wd hS;replace i0:0≤x24∧x24≤(L.length:Int):=i0;replace i1:lq=delD (L.take x24.toNat) pa:=i1;refine hS.regS [0] [1,2,4,8,22,23,24] (sg [(25,vb (decide ((x24:Int)<(L.length:Int))))] zn4 fun ac wd hS=>?_);refine wp_seq ?_;refine hS.condC (decide ((x24:Int)<(L.length:Int))) (fun hb2o hb2=>?_) (fun hb2o hb2=>?_)
  ·
   refine wp_skip ?_;refine zpt ?_;refine wp_seq ?_;refine wp_block ?_;obtain rfl:ao9=some ⟨g9,o9,none⟩:=Or.resolve_left hv9 (by omega);refine hS.regS [20,fx 100 (.agg #[vi (gtD L x24.toNat).1,vi (gtD L x24.toNat).2.1,vb (gtD L x24.toNat).2.2]),0,400] [1,2,4,8,22,23,24] fun ν9=>seg [(10,pt (ν9 0) 0)] [(0,none),(1,none),(2,none),(3,none),(4,some ((ν9 0),.cells [vi (gtD L x24.toNat).1,vi (gtD L x24.toNat).2.1,vb (gtD L x24.toNat).2.2] 69))] [.e (ν9 0),.e (ν9 0),.e (ν9 0),.p ((.agg #[((rnV (gtD L) o9) (o9+Int.toNat x24*3)),((rnV (gtD L) o9) (o9+Int.toNat x24*3+1)),((rnV (gtD L) o9) (o9+Int.toNat x24*3+2))]:Value)=.agg #[vi (gtD L x24.toNat).1,vi (gtD L x24.toNat).2.1,vb (gtD L x24.toNat).2.2]),.e g9,.p (o9≤o9+Int.toNat x24*3+2∧o9+Int.toNat x24*3+2<(o9+L.length*3)),.e g9,.p (o9≤o9+Int.toNat x24*3+1∧o9+Int.toNat x24*3+1<(o9+L.length*3)),.e g9,.p (o9≤o9+Int.toNat x24*3∧o9+Int.toNat x24*3<(o9+L.length*3)),.p ((0:Int)≤x24∧(x24:Int)<(L.length:Int))] ⟨(agg3 (rnV_0 (gtD L) o9 x24.toNat) (rnV_1 (gtD L) o9 x24.toNat) (rnV_2 (gtD L) o9 x24.toNat)),(by omega),(by omega),(by omega),(by omega),tv⟩ fun ac wd hS=>?_;refine hS.regS [0,400,0,0] [1,2,4,8,10,22,23,24] fun _=>seg [(31,vb (((gtD L x24.toNat).1:Int)!=pa))] zn5 [.e (ν9 0)] tv fun ac wd hS=>?_;refine hS.condC (((gtD L x24.toNat).1:Int)!=pa) (fun hb3o hb3=>?_) (fun hb3o hb3=>?_)
   ·
    have hn9:=hb3;refine wp_region_lit ?_;refine hS.opsC 3 [0,400,0] [1,2,4,8,22,23,24] fun ν11=>seg [(32,.slice aoq lq.length cq),(34,sc (ν11 0) 0 1 1)] [(0,none),(1,none),(2,none),(3,none),(5,some ((ν11 0),.cells [vi (gtD L x24.toNat).1,vi (gtD L x24.toNat).2.1,vb (gtD L x24.toNat).2.2] 69))] [.e (ν9 0),.e (ν9 0),.e (ν9 0)] tv fun ac wd hS=>?_;obtain⟨i_,hi_,hz_,hs_,hb_⟩:=info_get (P:=Tryz.prog) (e:=69) (z:=.agg #[vi 0,vi 0,vb false]) (s:=3) (b:=24) (by kernel_rfl);refine Runs1.list ?_;refine St.appV (m:=lq.length) (f:=(rnV (gtD lq) 0)) (news:=[vi (gtD L x24.toNat).1,vi (gtD L x24.toNat).2.1,vb (gtD L x24.toNat).2.2]) (bx:=(ν11 0)) (cx:=1) (Tx:=69) 0 hS (.tmp 32) (.tmp 34) 32 rfl rfl (by decide) Tryz.underlying32 hi_ hz_ hs_ (by omega) rfl (by decide) 4 rfl rfl (by(rw [i1];have:=del_lenT L pa x24.toNat;omega)) fun ac wd v2_ F6 hB7 hS=>?_;obtain⟨xo4,xc5,rfl⟩:=hB7.slice;replace hS:=hS.to (hS.mem.grTell (m:=(lq.length+1)) 0 (rnV (gtD (lq++[((gtD L x24.toNat).1,(gtD L x24.toNat).2.1,(gtD L x24.toNat).2.2)])) 0) (rnV_app lq (gtD L x24.toNat).1 (gtD L x24.toNat).2.1 (gtD L x24.toNat).2.2));have hm_:lq.length+1=(lq++[((gtD L x24.toNat).1,(gtD L x24.toNat).2.1,(gtD L x24.toNat).2.2)]).length:=by simp
    replace hS:=hS.to (hS.mem.grRe (v:=.slice xo4 (lq.length+1) xc5) (v':=.slice xo4 (lq++[((gtD L x24.toNat).1,(gtD L x24.toNat).2.1,(gtD L x24.toNat).2.2)]).length xc5) (m:=(lq.length+1)) (m':=(lq++[((gtD L x24.toNat).1,(gtD L x24.toNat).2.1,(gtD L x24.toNat).2.2)]).length) (f:=(rnV (gtD (lq++[((gtD L x24.toNat).1,(gtD L x24.toNat).2.1,(gtD L x24.toNat).2.2)])) 0)) 0 (by rw [hm_]) hm_);replace hS:=hS.fix 35 (.slice xo4 (lq++[((gtD L x24.toNat).1,(gtD L x24.toNat).2.1,(gtD L x24.toNat).2.2)]).length xc5) (show(.slice xo4 (lq.length+1) xc5:Value)=.slice xo4 (lq++[((gtD L x24.toNat).1,(gtD L x24.toNat).2.1,(gtD L x24.toNat).2.2)]).length xc5 by rw [hm_]);refine hS.opsC 1 [0] [1,2,4,22,23,24] (sg [(8,.slice xo4 (lq++[((gtD L x24.toNat).1,(gtD L x24.toNat).2.1,(gtD L x24.toNat).2.2)]).length xc5)] zn4 fun ac wd hS=>?_);refine zln ?_;refine zpb ?_;refine zpt ?_;refine hS.regC [20,0] [1,2,4,8,22,23] fun _=>seg [(24,vi (x24+1))] zn4 [.p (fit .i64 (x24+1))] ⟨zf6 (by omega),tv⟩ fun ac wd hS=>?_;exact zpt (hS.next ((x24+1),xo4,xc5,F6,(lq++[((gtD L x24.toNat).1,(gtD L x24.toNat).2.1,(gtD L x24.toNat).2.2)])) ⟨(by first|omega|assumption|(simp;done)|(simp;omega)),(by first|exact del_y i1 i0.1 (by omega) hn9|exact del_n i1 i0.1 (by omega) hn9),tv⟩ (by dsimp only;omega))
   ·
    have hn9:=hb3;refine wp_skip ?_;refine zpb ?_;refine zpt ?_;refine hS.regC [20,0] [1,2,4,8,22,23] fun _=>seg [(24,vi (x24+1))] zn4 [.p (fit .i64 (x24+1))] ⟨zf6 (by omega),tv⟩ fun ac wd hS=>?_;exact zpt (hS.next ((x24+1),aoq,cq,Fq,lq) ⟨(by first|omega|assumption|(simp;done)|(simp;omega)),(by first|exact del_y i1 i0.1 (by omega) hn9|exact del_n i1 i0.1 (by omega) hn9),tv⟩ (by dsimp only;omega))
  ·
   refine wp_exit ?_;refine zpe ?_;refine zpe ?_;refine zph ?_;refine zpt ?_;have hq_:(tkD q2 g)=lq:=(show lq=(tkD q2 g) by rw [i1,List.take_of_length_le (by omega)];exact hY).symm;subst hq_;obtain⟨gl8,hl9,hgo_,hO⟩:=WS.grListO (e:=69) (sz:=3) (m:=(tkD q2 g).length) (F:=Fq) (f:=(rnV (gtD (tkD q2 g)) 0)) (ao:=aoq) (c2:=cq) hS.mem 0 0 (b:=1) (lo:=0) (hi:=64) (fd:=dbT);have hgogl8:gl8=1∨w.heap.size≤gl8:=hgo_.imp id fun h_=>h_.elim (fun h_=>h_.elim) id
   replace hS:=hS.to hO;clear hO;refine hS.regS [0,0,200] [2,4] fun _=>seg [] [(0,none),(2,some ((ν1 0),.cells [vi 1,vi (N:Int),vi (g:Int),vi rr,.slice aoq (tkD q2 g).length cq] 34)),(3,none),(4,none)] [.e (ν1 0)] tv fun ac wd hS=>?_;refine hS.regS [100,200,0] [4] fun _=>seg [(5,vi 0)] [(0,none),(2,some ((ν1 1),.cells [vi 1,vi (N:Int),vi (g:Int),vi rr,.slice aoq (tkD q2 g).length cq] 34)),(3,none)] [.e (ν1 1),.e (ν1 1),.e (ν1 1),.e (ν1 1),.e (ν1 1),.e (ν1 0),.e (ν1 0),.e (ν1 0),.e (ν1 0),.e (ν1 0)] tv fun ac wd hS=>?_;refine wp_ret ?_;refine St.retC 1 hS (.tuple #[.agg #[vi 1,vi (N:Int),vi (g:Int),vi rr,.slice aoq (tkD q2 g).length cq],vi 0]) [.e (ν1 1),.e (ν1 1),.e (ν1 1),.e (ν1 1),.e (ν1 1)] tv fun hw=>?_;refine⟨aoq,cq,gl8,0,retd (tuple2 rfl (vint ?_)),(by first|exact hl9|exact .inl hz_|(rw [←hD];exact hl9)|(rw [←hD];exact .inl hz_)),(by omega),(hw.get 2 gl8 (zL (tkD q2 g) 0)),hw.fr0⟩
   all_goals (first|(first|rfl|(rw [←hD];done)|(rw [←hV];done)|(intro x_ _ _;rw [←hD])|omega|exact he0.symm|exact hv9|(rw [←hD];exact hv9)|(simp;omega))|(intro x_ hx_;rfl)|(intro x_ hx_ hy_;rfl))
theorem r8_Alloc (ao9:Option Addr)(c9:Nat)(g9:Nat)(o9:Nat)(L:List (Int×Int×Bool))(N:Nat)(g:Nat)(rr:Int)(k:Int)(q:List Tg)(a:Int)(ee:Int)(g2:Nat)(r2:Int)(q2:List Tg)(w:World)(hh0:HE.holds w 1 (.fn 0 64 dbT))(hh1:HE.holds w g9 (zL L o9))(hv9:(L.length=0∨ao9=some ⟨g9,o9,none⟩))(hDc:DC N g g q L)(hA:AlP N g rr q k a ee g2 r2 q2)(hr: -1≤rr∧rr≤9223372036854775807)(hng:g≤N∧N≤79):
    Calls Tryz.prog 65 #[.agg #[vi 1,vi (N:Int),vi (g:Int),vi rr,.slice ao9 L.length c9],vi k] w fun e w'=>∃(ao8:Option Addr) (c8:Nat) (g8:Nat) (o8:Nat),e=.returned (.tuple #[.agg #[vi 1,vi (N:Int),vi (g2:Int),vi r2,.slice ao8 (tkD q2 g2).length c8],vi (alI a ee),vi ee])∧((tkD q2 g2).length=0∨ao8=some ⟨g8,o8,none⟩)∧(g8=1∨g8=g9∨w.heap.size≤g8)∧HE.holds w' g8 (zL (tkD q2 g2) o8)∧Fr w w' no no:=by
 have hl79:=hDc.len;have hc79:=hDc.c79;refine enter (args:=[.agg #[vi 1,vi (N:Int),vi (g:Int),vi rr,.slice ao9 L.length c9],vi k]) (D:=no) (A:=[]) Tryz.func65 rfl 82 rfl [(1,.fn 0 64 dbT),(g9,zL L o9)] (WS.startL ⟨⟨rfl,hh0⟩,⟨rfl,hh1⟩,trivial⟩) fun ac hS=>?_;refine hS.regS [0,0,0,0] [1] fun ν1=>seg [(2,pt (ν1 0) 0),(4,pt (ν1 1) 0)] [(0,none),(1,none),(2,some ((ν1 0),.cells [vi 1,vi (N:Int),vi (g:Int),vi rr,.slice ao9 L.length c9] 34)),(3,some ((ν1 1),.cells [vi 0,vi 0,vi 0,vi 0,vnil] 34))] [] tv fun ac wd hS=>?_;refine wp_seq ?_;refine hS.regS [0,0,0,3,3,80] [1,2,4] (sg [(20,vb ((decide ((k:Int)<0))||(decide ((10:Int)<k))))] zn4 fun ac wd hS=>?_);refine hS.condC ((decide ((k:Int)<0))||(decide ((10:Int)<k))) (fun hb1o hb1=>?_) (fun hb1o hb1=>?_)
 ·
  have hbd:gwBad k=true:=hb1o;obtain⟨B1,B2,B3,hD,B5⟩:=al_bad hDc hA hbd;refine hS.regS [200,300,0,0] [4] fun _=>seg [(5,vi 0),(6,vi 2)] [(0,none),(1,none),(3,some ((ν1 1),.cells [vi 1,vi (N:Int),vi (g:Int),vi rr,.slice ao9 L.length c9] 34))] [.e (ν1 1),.e (ν1 1),.e (ν1 1),.e (ν1 1),.e (ν1 1),.e (ν1 0),.e (ν1 0),.e (ν1 0),.e (ν1 0),.e (ν1 0)] tv fun ac wd hS=>?_;refine wp_ret ?_;refine zpr ?_;refine St.retC 2 hS (.tuple #[.agg #[vi 1,vi (N:Int),vi (g:Int),vi rr,.slice ao9 L.length c9],vi 0,vi 2]) [.e (ν1 1),.e (ν1 1),.e (ν1 1),.e (ν1 1),.e (ν1 1)] tv fun hw=>?_;refine⟨ao9,c9,g9,o9,retd (tuple3 (agg5 rfl rfl (vint ?_) (vint ?_) (slN ?_)) (vint ?_) (vint ?_)),(by first|exact hv9|exact .inl hz_|(rw [←hD];exact hv9)|(rw [←hD];exact .inl hz_)),(by omega),(HE.fn_to (hw.get 1 g9 (zL L o9)) ?_ ?_),hw.fr0⟩
  all_goals (first|(first|rfl|(rw [←hD];done)|(rw [←hV];done)|(intro x_ _ _;rw [←hD])|omega|exact hv9|(rw [←hD];exact hv9)|exact B1.symm|exact B5.symm|(rw [B2];done)|(rw [B3];done)|exact B2.symm|exact B3.symm|exact ea9.symm|exact el9.symm|(rw [←eg9];done)|exact er9|(simp;omega))|(intro x_ hx_;rfl)|(intro x_ hx_ hy_;rfl))
 ·
  have hbd:gwBad k=false:=hb1o;have hk10:=gr_bad hbd;refine wp_skip ?_;refine zpt ?_;refine St.meetC (c:=⟨w,no,[]⟩) (n:=82) (σ:=Nat×Int) (fun(x:Nat×Int)=>match x with|(gm,rm)=>⟨[(1,[],vi k),(2,[],pt (ν1 0) 0),(4,[],pt (ν1 1) 0)],[(1,.fn 0 64 dbT),(g9,zL L o9),((ν1 0),.cells [vi 1,vi (N:Int),vi (gm:Int),vi rm,.slice ao9 L.length c9] 34),((ν1 1),.cells [vi 0,vi 0,vi 0,vi 0,vnil] 34)],[],(∃(qb:List Tg) (i9 kk9:Nat),DC N gm gm qb L∧Fnd qb k.toNat i9 kk9∧TkP qb i9 k.toNat q2∧i9<g2∧ee=0∧gm=g2∧rm=r2∧alI a ee=(i9:Int)∧DC N g2 g2 qb L)∧True,0⟩) ?_ ?_
  ·
   refine zwq ?_;refine hS.opsC 2 [200,0] [1,2,4] fun _=>seg [(22,.agg #[vi 1,vi (N:Int),vi (g:Int),vi rr,.slice ao9 L.length c9]),(23,vi k)] zn4 [.e (ν1 0),.e (ν1 0),.e (ν1 0),.e (ν1 0),.e (ν1 0)] tv fun ac wd hS=>?_;refine hS.callC 110 #[.agg #[vi 1,vi (N:Int),vi (g:Int),vi rr,.slice ao9 L.length c9],vi k] (r8_find ao9 c9 g9 o9 L N g rr k q _ (hS.mem.get 0 1 (.fn 0 64 dbT)) (hS.mem.get 1 g9 (zL L o9)) hv9 (by first|exact hDb|exact hDc) (by exact hk10)) ?_;rintro _ wd ⟨fi2,rfl,hfd3,hfb4,hF⟩;refine⟨vi fi2,rfl,?_⟩;replace hS:=hS.kp hF 24 (vi fi2);clear hF;refine hS.opsC 1 [0] [1,2,4] (sg [(25,vb (decide ((fi2:Int)<0)))] zn4 fun ac wd hS=>?_);refine zlq ?_;refine hS.condC (decide ((fi2:Int)<0)) (fun hb5o hb5=>?_) (fun hb5o hb5=>?_)
   ·
    have hno:=fd_neg (by assumption) hb5;refine zwq ?_;refine hS.opsC 2 [200,0] [1,2,4] fun _=>seg [(27,.agg #[vi 1,vi (N:Int),vi (g:Int),vi rr,.slice ao9 L.length c9]),(28,vi k)] zn4 [.e (ν1 0),.e (ν1 0),.e (ν1 0),.e (ν1 0),.e (ν1 0)] tv fun ac wd hS=>?_;refine hS.call0 63 #[.agg #[vi 1,vi (N:Int),vi (g:Int),vi rr,.slice ao9 L.length c9],vi k] 29 (r8_Grow ao9 c9 g9 o9 L N g rr k _ (hS.mem.get 1 g9 (zL L o9)) hv9 (by exact hr) (by exact hng)) fun ac wd hS=>?_;refine hS.opsC 6 [0,0,0,0,400,0] [1,2,4] fun ν7=>seg [(7,pt (ν7 0) 0),(8,vi (gwE N g rr k))] [(0,none),(1,none),(2,none),(3,none),(4,some ((ν7 0),.cells [vi 1,vi (N:Int),vi (((gwG N g rr k):Nat):Int),vi (gwR N g rr k),.slice ao9 L.length c9] 34))] [.e (ν7 0),.e (ν7 0),.e (ν7 0),.e (ν7 0),.e (ν7 0)] tv fun ac wd hS=>?_;refine zlq ?_;refine hS.regS [400,200] [1,2,4,8] fun _=>seg [] [(0,none),(1,none),(2,some ((ν1 0),.cells [vi 1,vi (N:Int),vi (((gwG N g rr k):Nat):Int),vi (gwR N g rr k),.slice ao9 L.length c9] 34)),(3,none)] [.e (ν1 0),.e (ν1 0),.e (ν1 0),.e (ν1 0),.e (ν1 0),.e (ν7 0),.e (ν7 0),.e (ν7 0),.e (ν7 0),.e (ν7 0)] tv fun ac wd hS=>?_;refine hS.regS [0,0] [1,2,4,8] (sg [(34,vb (((gwE N g rr k):Int)!=0))] zn4 fun ac wd hS=>?_);refine hS.condC (((gwE N g rr k):Int)!=0) (fun hb6o hb6=>?_) (fun hb6o hb6=>?_)
    ·
     have hge:gwE N g rr k≠0:=hb6;obtain⟨B1,B2,B3,hD,B5⟩:=al_no hDc hA hbd hno hge;refine hS.regS [200,0,300,0,0] [4] fun _=>seg [(5,vi 0),(6,vi (gwE N g rr k))] [(0,none),(1,none),(3,some ((ν1 1),.cells [vi 1,vi (N:Int),vi (((gwG N g rr k):Nat):Int),vi (gwR N g rr k),.slice ao9 L.length c9] 34))] [.e (ν1 1),.e (ν1 1),.e (ν1 1),.e (ν1 1),.e (ν1 1),.e (ν1 0),.e (ν1 0),.e (ν1 0),.e (ν1 0),.e (ν1 0)] tv fun ac wd hS=>?_;refine wp_ret ?_;refine zpr ?_;refine St.retC 2 hS (.tuple #[.agg #[vi 1,vi (N:Int),vi (((gwG N g rr k):Nat):Int),vi (gwR N g rr k),.slice ao9 L.length c9],vi 0,vi (gwE N g rr k)]) [.e (ν1 1),.e (ν1 1),.e (ν1 1),.e (ν1 1),.e (ν1 1)] tv fun hw=>?_;refine⟨ao9,c9,g9,o9,retd (tuple3 (agg5 rfl rfl (vint ?_) (vint ?_) (slN ?_)) (vint ?_) (vint ?_)),(by first|exact hv9|exact .inl hz_|(rw [←hD];exact hv9)|(rw [←hD];exact .inl hz_)),(by omega),(HE.fn_to (hw.get 1 g9 (zL L o9)) ?_ ?_),hw.fr0⟩
     all_goals (first|(first|rfl|(rw [←hD];done)|(rw [←hV];done)|(intro x_ _ _;rw [←hD])|omega|exact hv9|(rw [←hD];exact hv9)|exact B1.symm|exact B5.symm|(rw [B2];done)|(rw [B3];done)|exact B2.symm|exact B3.symm|exact ea9.symm|exact el9.symm|(rw [←eg9];done)|exact er9|(simp;omega))|(intro x_ hx_;rfl)|(intro x_ hx_ hy_;rfl))
    ·
     have hge:gwE N g rr k=0:=hb6;obtain⟨qb,i9,kk9,hDb,hFn,hTk,hi9,ea9,eg9,er9,el9,hDe⟩:=al_gr hDc hA hbd hno hge;refine wp_skip ?_;exact zpt (hS.next ((gwG N g rr k),(gwR N g rr k)) ⟨(by exact⟨qb,i9,kk9,hDb,hFn,hTk,hi9,ea9,eg9,er9,el9,hDe⟩),tv⟩ (by show 0<1;decide))
   ·
    obtain⟨i8,kk8,hF8⟩:=fd_pos (by assumption) hb5;obtain⟨qb,i9,kk9,hDb,hFn,hTk,hi9,ea9,eg9,er9,el9,hDe⟩:=al_yes hDc hA hbd (fun hn_=>hn_ kk8 hF8.1 hF8.2.1 i8 hF8.2.2.1);refine wp_skip ?_;exact zpt (hS.next (g,rr) ⟨(by exact⟨qb,i9,kk9,hDb,hFn,hTk,hi9,ea9,eg9,er9,el9,hDe⟩),tv⟩ (by show 0<1;decide))
  ·
   clear hS;rintro⟨gm,rm⟩ ⟨m1,-⟩ ac wd hS;replace m1:(∃(qb:List Tg) (i9 kk9:Nat),DC N gm gm qb L∧Fnd qb k.toNat i9 kk9∧TkP qb i9 k.toNat q2∧i9<g2∧ee=0∧gm=g2∧rm=r2∧alI a ee=(i9:Int)∧DC N g2 g2 qb L):=m1;obtain⟨qb,i9,kk9,hDb,hFn,hTk,hi9,ea9,eg9,er9,el9,hDe⟩:=m1;refine zwq ?_;refine hS.opsC 2 [200,0] [1,2,4] fun _=>seg [(37,.agg #[vi 1,vi (N:Int),vi (gm:Int),vi rm,.slice ao9 L.length c9]),(38,vi k)] zn4 [.e (ν1 0),.e (ν1 0),.e (ν1 0),.e (ν1 0),.e (ν1 0)] tv fun ac wd hS=>?_;refine hS.callC 110 #[.agg #[vi 1,vi (N:Int),vi (gm:Int),vi rm,.slice ao9 L.length c9],vi k] (r8_find ao9 c9 g9 o9 L N gm rm k qb _ (hS.mem.get 0 1 (.fn 0 64 dbT)) (hS.mem.get 1 g9 (zL L o9)) hv9 (by first|exact hDb|exact hDc) (by exact hk10)) ?_;rintro _ wd ⟨fi7,rfl,hfd8,hfb9,hF⟩;refine⟨vi fi7,rfl,?_⟩;replace hS:=hS.kp hF 39 (vi fi7);clear hF;refine hS.opsC 1 [0] [1,2,4] (sg [(9,vi fi7)] zn4 fun ac wd hS=>?_);refine zlq ?_;have ef9:fi7=(i9:Int):=fd_at (by assumption) hFn;rw [ef9]at hS;have hE8:=al_end hDe hTk hk10.1 hi9;have hi79:=hDe.c79;replace hS:=hS.to (hS.mem.grNew 69 3 (rnV (gtD ([]:List (Int×Int×Bool))) 0));refine hS.regS [0] [1,2,4,9] (sg [(10,vnil)] zn4 fun ac wd hS=>?_);refine wp_seq ?_;refine hS.regS [0,200,0,0] [1,2,4,9,10] fun _=>seg [(41,.slice ao9 L.length c9),(42,vi (L.length:Int)),(43,vi 0)] zn4 [.e (ν1 0)] tv fun ac wd hS=>?_;refine wp_block ?_;refine St.loopC (σ:=Int×Option Addr×Nat×(Nat→Prop)×(List (Int×Int×Bool))) (fun(x:Int×Option Addr×Nat×(Nat→Prop)×(List (Int×Int×Bool)))=>match x with|(x43,aoq,cq,Fq,lq)=>⟨[(1,[],vi k),(2,[],pt (ν1 0) 0),(4,[],pt (ν1 1) 0),(9,[],vi (i9:Int)),(10,[],.slice aoq lq.length cq),(41,[],.slice ao9 L.length c9),(42,[],vi (L.length:Int)),(43,[],vi x43)],[(1,.fn 0 64 dbT),(g9,zL L o9),((ν1 0),.cells [vi 1,vi (N:Int),vi (gm:Int),vi rm,.slice ao9 L.length c9] 34),((ν1 1),.cells [vi 0,vi 0,vi 0,vi 0,vnil] 34)],[grR 69 3 (.slice aoq lq.length cq) Fq (lq.length,(rnV (gtD lq) 0))],(0≤x43∧x43≤(L.length:Int))∧(lq=lowD (L.take x43.toNat) (i9:Int))∧True,L.length-Int.toNat x43⟩) (0,none,0,no,([]:List (Int×Int×Bool))) ⟨(by first|omega|rfl),(by first|omega|rfl),trivial⟩ hS ?_;clear hS;rintro⟨x43,aoq,cq,Fq,lq⟩ ⟨i0,i1,-⟩ ac wd hS;replace i0:0≤x43∧x43≤(L.length:Int):=i0;replace i1:lq=lowD (L.take x43.toNat) (i9:Int):=i1;refine hS.regS [0] [1,2,4,9,10,41,42,43] (sg [(44,vb (decide ((x43:Int)<(L.length:Int))))] zn4 fun ac wd hS=>?_);refine wp_seq ?_;refine hS.condC (decide ((x43:Int)<(L.length:Int))) (fun hb10o hb10=>?_) (fun hb10o hb10=>?_)
   ·
    refine wp_skip ?_;refine zpt ?_;refine wp_seq ?_;refine wp_block ?_;obtain rfl:ao9=some ⟨g9,o9,none⟩:=Or.resolve_left hv9 (by omega);refine hS.regS [20,fx 100 (.agg #[vi (gtD L x43.toNat).1,vi (gtD L x43.toNat).2.1,vb (gtD L x43.toNat).2.2]),0,400] [1,2,4,9,10,41,42,43] fun ν16=>seg [(12,pt (ν16 0) 0)] [(0,none),(1,none),(2,none),(3,none),(4,some ((ν16 0),.cells [vi (gtD L x43.toNat).1,vi (gtD L x43.toNat).2.1,vb (gtD L x43.toNat).2.2] 69))] [.e (ν16 0),.e (ν16 0),.e (ν16 0),.p ((.agg #[((rnV (gtD L) o9) (o9+Int.toNat x43*3)),((rnV (gtD L) o9) (o9+Int.toNat x43*3+1)),((rnV (gtD L) o9) (o9+Int.toNat x43*3+2))]:Value)=.agg #[vi (gtD L x43.toNat).1,vi (gtD L x43.toNat).2.1,vb (gtD L x43.toNat).2.2]),.e g9,.p (o9≤o9+Int.toNat x43*3+2∧o9+Int.toNat x43*3+2<(o9+L.length*3)),.e g9,.p (o9≤o9+Int.toNat x43*3+1∧o9+Int.toNat x43*3+1<(o9+L.length*3)),.e g9,.p (o9≤o9+Int.toNat x43*3∧o9+Int.toNat x43*3<(o9+L.length*3)),.p ((0:Int)≤x43∧(x43:Int)<(L.length:Int))] ⟨(agg3 (rnV_0 (gtD L) o9 x43.toNat) (rnV_1 (gtD L) o9 x43.toNat) (rnV_2 (gtD L) o9 x43.toNat)),(by omega),(by omega),(by omega),(by omega),tv⟩ fun ac wd hS=>?_;refine hS.regS [0,400,0,0] [1,2,4,9,10,12,41,42,43] fun _=>seg [(50,vb (decide (((gtD L x43.toNat).1:Int)<(i9:Int))))] zn5 [.e (ν16 0)] tv fun ac wd hS=>?_;refine hS.condC (decide (((gtD L x43.toNat).1:Int)<(i9:Int))) (fun hb11o hb11=>?_) (fun hb11o hb11=>?_)
    ·
     have hn9:=hb11;refine wp_region_lit ?_;refine hS.opsC 3 [0,400,0] [1,2,4,9,10,41,42,43] fun ν18=>seg [(51,.slice aoq lq.length cq),(53,sc (ν18 0) 0 1 1)] [(0,none),(1,none),(2,none),(3,none),(5,some ((ν18 0),.cells [vi (gtD L x43.toNat).1,vi (gtD L x43.toNat).2.1,vb (gtD L x43.toNat).2.2] 69))] [.e (ν16 0),.e (ν16 0),.e (ν16 0)] tv fun ac wd hS=>?_;obtain⟨i_,hi_,hz_,hs_,hb_⟩:=info_get (P:=Tryz.prog) (e:=69) (z:=.agg #[vi 0,vi 0,vb false]) (s:=3) (b:=24) (by kernel_rfl);refine Runs1.list ?_;refine St.appV (m:=lq.length) (f:=(rnV (gtD lq) 0)) (news:=[vi (gtD L x43.toNat).1,vi (gtD L x43.toNat).2.1,vb (gtD L x43.toNat).2.2]) (bx:=(ν18 0)) (cx:=1) (Tx:=69) 0 hS (.tmp 51) (.tmp 53) 32 rfl rfl (by decide) Tryz.underlying32 hi_ hz_ hs_ (by omega) rfl (by decide) 4 rfl rfl (by first|(rw [i1];have:=low_lenT L (i9:Int) x43.toNat;omega)|(rw [i2,List.length_append,List.length_append];have:=low_len L (i9:Int);have:=hig_lenT L (i9:Int) x65.toNat;simp;omega)|omega) fun ac wd v2_ F14 hB15 hS=>?_;obtain⟨xo12,xc13,rfl⟩:=hB15.slice;replace hS:=hS.to (hS.mem.grTell (m:=(lq.length+1)) 0 (rnV (gtD (lq++[((gtD L x43.toNat).1,(gtD L x43.toNat).2.1,(gtD L x43.toNat).2.2)])) 0) (rnV_app lq (gtD L x43.toNat).1 (gtD L x43.toNat).2.1 (gtD L x43.toNat).2.2));have hm_:lq.length+1=(lq++[((gtD L x43.toNat).1,(gtD L x43.toNat).2.1,(gtD L x43.toNat).2.2)]).length:=by simp
     replace hS:=hS.to (hS.mem.grRe (v:=.slice xo12 (lq.length+1) xc13) (v':=.slice xo12 (lq++[((gtD L x43.toNat).1,(gtD L x43.toNat).2.1,(gtD L x43.toNat).2.2)]).length xc13) (m:=(lq.length+1)) (m':=(lq++[((gtD L x43.toNat).1,(gtD L x43.toNat).2.1,(gtD L x43.toNat).2.2)]).length) (f:=(rnV (gtD (lq++[((gtD L x43.toNat).1,(gtD L x43.toNat).2.1,(gtD L x43.toNat).2.2)])) 0)) 0 (by rw [hm_]) hm_);replace hS:=hS.fix 54 (.slice xo12 (lq++[((gtD L x43.toNat).1,(gtD L x43.toNat).2.1,(gtD L x43.toNat).2.2)]).length xc13) (show(.slice xo12 (lq.length+1) xc13:Value)=.slice xo12 (lq++[((gtD L x43.toNat).1,(gtD L x43.toNat).2.1,(gtD L x43.toNat).2.2)]).length xc13 by rw [hm_]);refine hS.opsC 1 [0] [1,2,4,9,41,42,43] (sg [(10,.slice xo12 (lq++[((gtD L x43.toNat).1,(gtD L x43.toNat).2.1,(gtD L x43.toNat).2.2)]).length xc13)] zn4 fun ac wd hS=>?_);refine zln ?_;refine zpb ?_;refine zpt ?_;refine hS.regC [20,0] [1,2,4,9,10,41,42] fun _=>seg [(43,vi (x43+1))] zn4 [.p (fit .i64 (x43+1))] ⟨zf6 (by omega),tv⟩ fun ac wd hS=>?_;exact zpt (hS.next ((x43+1),xo12,xc13,F14,(lq++[((gtD L x43.toNat).1,(gtD L x43.toNat).2.1,(gtD L x43.toNat).2.2)])) ⟨(by first|omega|assumption|(simp;done)|(simp;omega)),(by first|exact low_y i1 i0.1 (by omega) hn9|exact low_n i1 i0.1 (by omega) hn9),tv⟩ (by dsimp only;omega))
    ·
     have hn9:=hb11;refine wp_skip ?_;refine zpb ?_;refine zpt ?_;refine hS.regC [20,0] [1,2,4,9,10,41,42] fun _=>seg [(43,vi (x43+1))] zn4 [.p (fit .i64 (x43+1))] ⟨zf6 (by omega),tv⟩ fun ac wd hS=>?_;exact zpt (hS.next ((x43+1),aoq,cq,Fq,lq) ⟨(by first|omega|assumption|(simp;done)|(simp;omega)),(by first|exact low_y i1 i0.1 (by omega) hn9|exact low_n i1 i0.1 (by omega) hn9),tv⟩ (by dsimp only;omega))
   ·
    refine wp_exit ?_;refine zpe ?_;refine zpe ?_;refine zph ?_;refine zpt ?_;refine zwq ?_;refine hS.opsC 5 [0,0,0,0,0] [2,4,9,10] fun ν22=>seg [(56,.slice aoq lq.length cq),(60,sc (ν22 0) 0 1 1)] [(0,none),(1,none),(2,none),(3,none),(4,some ((ν22 0),.cells [vi (i9:Int),vi k,vb true] 69))] [] tv fun ac wd hS=>?_;obtain⟨i_,hi_,hz_,hs_,hb_⟩:=info_get (P:=Tryz.prog) (e:=69) (z:=.agg #[vi 0,vi 0,vb false]) (s:=3) (b:=24) (by kernel_rfl);refine Runs1.list ?_;refine St.appV (m:=lq.length) (f:=(rnV (gtD lq) 0)) (news:=[vi (i9:Int),vi k,vb true]) (bx:=(ν22 0)) (cx:=1) (Tx:=69) 0 hS (.tmp 56) (.tmp 60) 32 rfl rfl (by decide) Tryz.underlying32 hi_ hz_ hs_ (by omega) rfl (by decide) 4 rfl rfl (by first|(rw [i1];have:=low_lenT L (i9:Int) x43.toNat;omega)|(rw [i2,List.length_append,List.length_append];have:=low_len L (i9:Int);have:=hig_lenT L (i9:Int) x65.toNat;simp;omega)|omega) fun ac wd v2_ F18 hB19 hS=>?_;obtain⟨xo16,xc17,rfl⟩:=hB19.slice;replace hS:=hS.to (hS.mem.grTell (m:=(lq.length+1)) 0 (rnV (gtD (lq++[((i9:Int),k,true)])) 0) (rnV_app lq (i9:Int) k true));have hm_:lq.length+1=(lq++[((i9:Int),k,true)]).length:=by simp
    replace hS:=hS.to (hS.mem.grRe (v:=.slice xo16 (lq.length+1) xc17) (v':=.slice xo16 (lq++[((i9:Int),k,true)]).length xc17) (m:=(lq.length+1)) (m':=(lq++[((i9:Int),k,true)]).length) (f:=(rnV (gtD (lq++[((i9:Int),k,true)])) 0)) 0 (by rw [hm_]) hm_);replace hS:=hS.fix 61 (.slice xo16 (lq++[((i9:Int),k,true)]).length xc17) (show(.slice xo16 (lq.length+1) xc17:Value)=.slice xo16 (lq++[((i9:Int),k,true)]).length xc17 by rw [hm_]);refine hS.opsC 1 [0] [2,4,9] (sg [(10,.slice xo16 (lq++[((i9:Int),k,true)]).length xc17)] zn4 fun ac wd hS=>?_);refine zlq ?_;refine wp_seq ?_;refine hS.regS [0,200,0,0] [2,4,9,10] fun _=>seg [(63,.slice ao9 L.length c9),(64,vi (L.length:Int)),(65,vi 0)] zn4 [.e (ν1 0)] tv fun ac wd hS=>?_;refine wp_block ?_;refine St.loopC (σ:=Int×Option Addr×Nat×(Nat→Prop)×(List (Int×Int×Bool))) (fun(x:Int×Option Addr×Nat×(Nat→Prop)×(List (Int×Int×Bool)))=>match x with|(x65,aop,cp,Fp,lp)=>⟨[(2,[],pt (ν1 0) 0),(4,[],pt (ν1 1) 0),(9,[],vi (i9:Int)),(10,[],.slice aop lp.length cp),(63,[],.slice ao9 L.length c9),(64,[],vi (L.length:Int)),(65,[],vi x65)],[(1,.fn 0 64 dbT),(g9,zL L o9),((ν1 0),.cells [vi 1,vi (N:Int),vi (gm:Int),vi rm,.slice ao9 L.length c9] 34),((ν1 1),.cells [vi 0,vi 0,vi 0,vi 0,vnil] 34)],[grR 69 3 (.slice aop lp.length cp) Fp (lp.length,(rnV (gtD lp) 0))],(0≤x65∧x65≤(L.length:Int))∧(lp=(lowD L (i9:Int)++[((i9:Int),k,true)])++higD (L.take x65.toNat) (i9:Int))∧True,L.length-Int.toNat x65⟩) (0,xo16,xc17,F18,(lq++[((i9:Int),k,true)])) ⟨(by omega),(by(rw [i1,List.take_of_length_le (by omega)];exact(List.append_nil _).symm)),trivial⟩ hS ?_;clear hS;rintro⟨x65,aop,cp,Fp,lp⟩ ⟨j0,i2,-⟩ ac wd hS;replace j0:0≤x65∧x65≤(L.length:Int):=j0;replace i2:lp=(lowD L (i9:Int)++[((i9:Int),k,true)])++higD (L.take x65.toNat) (i9:Int):=i2;refine hS.regS [0] [2,4,9,10,63,64,65] (sg [(66,vb (decide ((x65:Int)<(L.length:Int))))] zn4 fun ac wd hS=>?_);refine wp_seq ?_;refine hS.condC (decide ((x65:Int)<(L.length:Int))) (fun hb20o hb20=>?_) (fun hb20o hb20=>?_)
    ·
     refine wp_skip ?_;refine zpt ?_;refine wp_seq ?_;refine wp_block ?_;obtain rfl:ao9=some ⟨g9,o9,none⟩:=Or.resolve_left hv9 (by omega);refine hS.regS [20,fx 100 (.agg #[vi (gtD L x65.toNat).1,vi (gtD L x65.toNat).2.1,vb (gtD L x65.toNat).2.2]),0,400] [2,4,9,10,63,64,65] fun ν26=>seg [(14,pt (ν26 0) 0)] [(0,none),(1,none),(2,none),(3,none),(4,some ((ν26 0),.cells [vi (gtD L x65.toNat).1,vi (gtD L x65.toNat).2.1,vb (gtD L x65.toNat).2.2] 69))] [.e (ν26 0),.e (ν26 0),.e (ν26 0),.p ((.agg #[((rnV (gtD L) o9) (o9+Int.toNat x65*3)),((rnV (gtD L) o9) (o9+Int.toNat x65*3+1)),((rnV (gtD L) o9) (o9+Int.toNat x65*3+2))]:Value)=.agg #[vi (gtD L x65.toNat).1,vi (gtD L x65.toNat).2.1,vb (gtD L x65.toNat).2.2]),.e g9,.p (o9≤o9+Int.toNat x65*3+2∧o9+Int.toNat x65*3+2<(o9+L.length*3)),.e g9,.p (o9≤o9+Int.toNat x65*3+1∧o9+Int.toNat x65*3+1<(o9+L.length*3)),.e g9,.p (o9≤o9+Int.toNat x65*3∧o9+Int.toNat x65*3<(o9+L.length*3)),.p ((0:Int)≤x65∧(x65:Int)<(L.length:Int))] ⟨(agg3 (rnV_0 (gtD L) o9 x65.toNat) (rnV_1 (gtD L) o9 x65.toNat) (rnV_2 (gtD L) o9 x65.toNat)),(by omega),(by omega),(by omega),(by omega),tv⟩ fun ac wd hS=>?_;refine hS.regS [0,400,0,0] [2,4,9,10,14,63,64,65] fun _=>seg [(72,vb (decide (((i9:Int):Int)<(gtD L x65.toNat).1)))] zn5 [.e (ν26 0)] tv fun ac wd hS=>?_;refine hS.condC (decide (((i9:Int):Int)<(gtD L x65.toNat).1)) (fun hb21o hb21=>?_) (fun hb21o hb21=>?_)
     ·
      have hn9:=hb21;refine wp_region_lit ?_;refine hS.opsC 3 [0,400,0] [2,4,9,10,63,64,65] fun ν28=>seg [(73,.slice aop lp.length cp),(75,sc (ν28 0) 0 1 1)] [(0,none),(1,none),(2,none),(3,none),(5,some ((ν28 0),.cells [vi (gtD L x65.toNat).1,vi (gtD L x65.toNat).2.1,vb (gtD L x65.toNat).2.2] 69))] [.e (ν26 0),.e (ν26 0),.e (ν26 0)] tv fun ac wd hS=>?_;obtain⟨i_,hi_,hz_,hs_,hb_⟩:=info_get (P:=Tryz.prog) (e:=69) (z:=.agg #[vi 0,vi 0,vb false]) (s:=3) (b:=24) (by kernel_rfl);refine Runs1.list ?_;refine St.appV (m:=lp.length) (f:=(rnV (gtD lp) 0)) (news:=[vi (gtD L x65.toNat).1,vi (gtD L x65.toNat).2.1,vb (gtD L x65.toNat).2.2]) (bx:=(ν28 0)) (cx:=1) (Tx:=69) 0 hS (.tmp 73) (.tmp 75) 32 rfl rfl (by decide) Tryz.underlying32 hi_ hz_ hs_ (by omega) rfl (by decide) 4 rfl rfl (by first|(rw [i1];have:=low_lenT L (i9:Int) x43.toNat;omega)|(rw [i2,List.length_append,List.length_append];have:=low_len L (i9:Int);have:=hig_lenT L (i9:Int) x65.toNat;simp;omega)|omega) fun ac wd v2_ F24 hB25 hS=>?_;obtain⟨xo22,xc23,rfl⟩:=hB25.slice;replace hS:=hS.to (hS.mem.grTell (m:=(lp.length+1)) 0 (rnV (gtD (lp++[((gtD L x65.toNat).1,(gtD L x65.toNat).2.1,(gtD L x65.toNat).2.2)])) 0) (rnV_app lp (gtD L x65.toNat).1 (gtD L x65.toNat).2.1 (gtD L x65.toNat).2.2));have hm_:lp.length+1=(lp++[((gtD L x65.toNat).1,(gtD L x65.toNat).2.1,(gtD L x65.toNat).2.2)]).length:=by simp
      replace hS:=hS.to (hS.mem.grRe (v:=.slice xo22 (lp.length+1) xc23) (v':=.slice xo22 (lp++[((gtD L x65.toNat).1,(gtD L x65.toNat).2.1,(gtD L x65.toNat).2.2)]).length xc23) (m:=(lp.length+1)) (m':=(lp++[((gtD L x65.toNat).1,(gtD L x65.toNat).2.1,(gtD L x65.toNat).2.2)]).length) (f:=(rnV (gtD (lp++[((gtD L x65.toNat).1,(gtD L x65.toNat).2.1,(gtD L x65.toNat).2.2)])) 0)) 0 (by rw [hm_]) hm_);replace hS:=hS.fix 76 (.slice xo22 (lp++[((gtD L x65.toNat).1,(gtD L x65.toNat).2.1,(gtD L x65.toNat).2.2)]).length xc23) (show(.slice xo22 (lp.length+1) xc23:Value)=.slice xo22 (lp++[((gtD L x65.toNat).1,(gtD L x65.toNat).2.1,(gtD L x65.toNat).2.2)]).length xc23 by rw [hm_]);refine hS.opsC 1 [0] [2,4,9,63,64,65] (sg [(10,.slice xo22 (lp++[((gtD L x65.toNat).1,(gtD L x65.toNat).2.1,(gtD L x65.toNat).2.2)]).length xc23)] zn4 fun ac wd hS=>?_);refine zln ?_;refine zpb ?_;refine zpt ?_;refine hS.regC [20,0] [2,4,9,10,63,64] fun _=>seg [(65,vi (x65+1))] zn4 [.p (fit .i64 (x65+1))] ⟨zf6 (by omega),tv⟩ fun ac wd hS=>?_;exact zpt (hS.next ((x65+1),xo22,xc23,F24,(lp++[((gtD L x65.toNat).1,(gtD L x65.toNat).2.1,(gtD L x65.toNat).2.2)])) ⟨(by first|omega|assumption|(simp;done)|(simp;omega)),(by first|exact hig_y i2 j0.1 (by omega) hn9|exact hig_n i2 j0.1 (by omega) hn9),tv⟩ (by dsimp only;omega))
     ·
      have hn9:=hb21;refine wp_skip ?_;refine zpb ?_;refine zpt ?_;refine hS.regC [20,0] [2,4,9,10,63,64] fun _=>seg [(65,vi (x65+1))] zn4 [.p (fit .i64 (x65+1))] ⟨zf6 (by omega),tv⟩ fun ac wd hS=>?_;exact zpt (hS.next ((x65+1),aop,cp,Fp,lp) ⟨(by first|omega|assumption|(simp;done)|(simp;omega)),(by first|exact hig_y i2 j0.1 (by omega) hn9|exact hig_n i2 j0.1 (by omega) hn9),tv⟩ (by dsimp only;omega))
    ·
     refine wp_exit ?_;refine zpe ?_;refine zpe ?_;refine zph ?_;refine zpt ?_;have hq_:(tkD q2 g2)=lp:=(show lp=(tkD q2 g2) by rw [i2,List.take_of_length_le (by omega)];exact hE8).symm;subst hq_;obtain⟨gl26,hl27,hgo_,hO⟩:=WS.grListO (e:=69) (sz:=3) (m:=(tkD q2 g2).length) (F:=Fp) (f:=(rnV (gtD (tkD q2 g2)) 0)) (ao:=aop) (c2:=cp) hS.mem 0 0 (b:=1) (lo:=0) (hi:=64) (fd:=dbT);have hgogl26:gl26=1∨w.heap.size≤gl26:=hgo_.imp id fun h_=>h_.elim (fun h_=>h_.elim) id
     replace hS:=hS.to hO;clear hO;refine hS.regS [0,0,200] [2,4,9] fun _=>seg [] [(0,none),(2,some ((ν1 0),.cells [vi 1,vi (N:Int),vi (gm:Int),vi rm,.slice aop (tkD q2 g2).length cp] 34)),(3,none),(4,none)] [.e (ν1 0)] tv fun ac wd hS=>?_;refine hS.regS [100,0,200,0,0] [4] fun _=>seg [(5,vi (i9:Int)),(6,vi 0)] [(0,none),(2,some ((ν1 1),.cells [vi 1,vi (N:Int),vi (gm:Int),vi rm,.slice aop (tkD q2 g2).length cp] 34)),(3,none)] [.e (ν1 1),.e (ν1 1),.e (ν1 1),.e (ν1 1),.e (ν1 1),.e (ν1 0),.e (ν1 0),.e (ν1 0),.e (ν1 0),.e (ν1 0)] tv fun ac wd hS=>?_;refine wp_ret ?_;refine St.retC 1 hS (.tuple #[.agg #[vi 1,vi (N:Int),vi (gm:Int),vi rm,.slice aop (tkD q2 g2).length cp],vi (i9:Int),vi 0]) [.e (ν1 1),.e (ν1 1),.e (ν1 1),.e (ν1 1),.e (ν1 1)] tv fun hw=>?_;refine⟨aop,cp,gl26,0,retd (tuple3 (agg5 rfl rfl (vint ?_) (vint ?_) rfl) (vint ?_) (vint ?_)),(by first|exact hl27|exact .inl hz_|(rw [←hD];exact hl27)|(rw [←hD];exact .inl hz_)),(by omega),(hw.get 2 gl26 (zL (tkD q2 g2) 0)),hw.fr0⟩
     all_goals (first|(first|rfl|(rw [←hD];done)|(rw [←hV];done)|(intro x_ _ _;rw [←hD])|omega|exact hv9|(rw [←hD];exact hv9)|exact B1.symm|exact B5.symm|(rw [B2];done)|(rw [B3];done)|exact B2.symm|exact B3.symm|exact ea9.symm|exact el9.symm|(rw [←eg9];done)|exact er9|(simp;omega))|(intro x_ hx_;rfl)|(intro x_ hx_ hy_;rfl))
theorem r8_Shrink (ao9:Option Addr)(c9:Nat)(g9:Nat)(o9:Nat)(L:List (Int×Int×Bool))(N:Nat)(g:Nat)(rr:Int)(q:List Tg)(g2:Nat)(q2:List Tg)(w:World)(hh0:HE.holds w 1 (.fn 0 64 dbT))(hh1:HE.holds w g9 (zL L o9))(hv9:(L.length=0∨ao9=some ⟨g9,o9,none⟩))(hDc:DC N g g q L)(hS2:ShP q g g2 q2)(hQ2:DQ N g2 q2):
    Calls Tryz.prog 64 #[.agg #[vi 1,vi (N:Int),vi (g:Int),vi rr,.slice ao9 L.length c9]] w fun e w'=>e=.returned (.tuple #[.agg #[vi 1,vi (N:Int),vi (g2:Int),vi rr,.slice ao9 L.length c9],vi ((g:Int)-(g2:Int))])∧Fr w w' no no:=by
 have hl79:=hDc.len;have hc79:=hDc.c79;refine enter (args:=[.agg #[vi 1,vi (N:Int),vi (g:Int),vi rr,.slice ao9 L.length c9]]) (D:=no) (A:=[]) Tryz.func64 rfl 38 rfl [(1,.fn 0 64 dbT),(g9,zL L o9)] (WS.startL ⟨⟨rfl,hh0⟩,⟨rfl,hh1⟩,trivial⟩) fun ac hS=>?_;refine hS.regS [0,0,0] [] fun ν1=>seg [(1,pt (ν1 0) 0),(2,pt (ν1 1) 0)] [(0,none),(1,none),(2,some ((ν1 0),.cells [vi 1,vi (N:Int),vi (g:Int),vi rr,.slice ao9 L.length c9] 34)),(3,some ((ν1 1),.cells [vi 0,vi 0,vi 0,vi 0,vnil] 34))] [] tv fun ac wd hS=>?_;refine hS.regS [0,200,0] [1,2] fun _=>seg [(4,vi (g:Int))] zn4 [.e (ν1 0)] tv fun ac wd hS=>?_;refine zwq ?_;refine hS.opsC 1 [200] [1,2,4] fun _=>seg [(8,.agg #[vi 1,vi (N:Int),vi (g:Int),vi rr,.slice ao9 L.length c9])] zn4 [.e (ν1 0),.e (ν1 0),.e (ν1 0),.e (ν1 0),.e (ν1 0)] tv fun ac wd hS=>?_;refine hS.callC 38 #[.agg #[vi 1,vi (N:Int),vi (g:Int),vi rr,.slice ao9 L.length c9]] (r8_Runs ao9 c9 g9 o9 L N g rr g q _ (hS.mem.get 0 1 (.fn 0 64 dbT)) (hS.mem.get 1 g9 (zL L o9)) hv9 (by first|exact hsI.dc|exact hDc)) ?_;rintro _ wd ⟨ao21,c22,g23,o24,rfl,hv25,hog0,hoh0,hF⟩;have ho6:g23=1∨w.heap.size≤g23:=by have:=hS.mem.fr.size;have:w.heap.size≤_:=this;omega
 refine⟨.slice ao21 (rnP q g).length c22,rfl,?_⟩;replace hS:=(hS.to (hS.mem.outs hF [(g23,zL (rnP q g) o24)] ⟨⟨rfl,hoh0,(fun q_=>q_.elim (fun e=>.inl ⟨0,.fn 0 64 dbT,by rw [e];as_aux_lemma=>kernel_rfl,rfl⟩) (fun q_=>.inr q_)) hog0⟩,trivial⟩)).put (d:=9) (v:=.slice ao21 (rnP q g).length c22) (by decide);clear hF;refine hS.opsC 1 [0] [1,2,4] (sg [(5,.slice ao21 (rnP q g).length c22)] zn5 fun ac wd hS=>?_);refine zlq ?_;refine wp_seq ?_;refine wp_block ?_;refine St.loopC (σ:=Nat×Option Addr×Nat×Nat×Nat×(List (Int×Int×Bool))) (fun(x:Nat×Option Addr×Nat×Nat×Nat×(List (Int×Int×Bool)))=>match x with|(cc,aoz,cz,gz,oz,lz)=>⟨[(1,[],pt (ν1 0) 0),(2,[],pt (ν1 1) 0),(4,[],vi (g:Int)),(5,[],.slice aoz lz.length cz)],[(1,.fn 0 64 dbT),(g9,zL L o9),((ν1 0),.cells [vi 1,vi (N:Int),vi (cc:Int),vi rr,.slice ao9 L.length c9] 34),((ν1 1),.cells [vi 0,vi 0,vi 0,vi 0,vnil] 34),(gz,zL lz oz)],[],(ShI N g cc q L)∧(lz=rnP q cc)∧(lz.length=0∨aoz=some ⟨gz,oz,none⟩)∧True,cc⟩) (g,ao21,c22,g23,o24,(rnP q g)) ⟨(by exact ShI.zero hDc),(by rfl),(by exact hv25),trivial⟩ hS ?_;clear hS;rintro⟨cc,aoz,cz,gz,oz,lz⟩ ⟨i1,i2,hvz,-⟩ ac wd hS;replace i1:ShI N g cc q L:=i1;replace i2:lz=rnP q cc:=i2;replace hvz:lz.length=0∨aoz=some ⟨gz,oz,none⟩:=hvz;have hzl:lz.length≤79:=by rw [i2];have:=rnP_len q cc;have:=i1.dc.c79;omega
 have hcz0:=i1.dc.c79;refine wp_seq ?_;refine zwq ?_;refine hS.opsC 4 [0,0,0,0] [1,2,4,5] (sg [(13,vb (decide ((0:Int)<(lz.length:Int))))] zn5 fun ac wd hS=>?_)
 rcases Bool.eq_false_or_eq_true (decide ((0:Int)<(lz.length:Int)))with hg7o|hg7o
 ·
  have hg7:=nrm hg7o;have hl0:0<lz.length:=by have h_:=hg7;omega
  replace hS:=hS.fix 13 (vb true) (congrArg Value.bool hg7o);obtain rfl:aoz=some ⟨gz,oz,none⟩:=Or.resolve_left hvz (by omega);refine hS.opsC 9 [1,1,1,21,21,1,fx 401 (vb (gtD lz (Int.toNat ((lz.length:Int)-1))).2.2),1,70] [1,2,4,5] fun _=>seg [(22,vb (!(gtD lz (Int.toNat ((lz.length:Int)-1))).2.2))] zn5 [.t true,.t true,.t true,.p ((((rnV (gtD lz) oz) (oz+Int.toNat ((lz.length:Int)-1)*3+2)):Value)=vb (gtD lz (Int.toNat ((lz.length:Int)-1))).2.2),.e gz,.p (oz≤oz+Int.toNat ((lz.length:Int)-1)*3+2∧oz+Int.toNat ((lz.length:Int)-1)*3+2<(oz+lz.length*3)),.t true,.t true,.p ((0:Int)≤((lz.length:Int)-1)∧(((lz.length:Int)-1):Int)<(lz.length:Int)),.t true,.p (fit .i64 ((lz.length:Int)-1)),.t true,.t true,.t true] ⟨(rnV_2 (gtD lz) oz (Int.toNat ((lz.length:Int)-1))),(by omega),(by omega),zf6 (by omega),tv⟩ fun ac wd hS=>?_;refine zlq ?_;refine hS.condC (!(gtD lz (Int.toNat ((lz.length:Int)-1))).2.2) (fun hb8o hb8=>?_) (fun hb8o hb8=>?_)
  ·
   have hn9:=shr_g hb8o;refine wp_skip ?_;refine zpt ?_;refine wp_block ?_;obtain⟨s9,hs9,es9,hsI⟩:=ShI.step i1 (by rw [←i2];omega) (by rw [←i2];exact hn9);rw [←i2]at es9;have hcz:=i1.dc.c79;refine hS.regS [0,0,0,20,20,0,fx 400 (vi (gtD lz (Int.toNat ((lz.length:Int)-1))).1),0,200] [1,2,4] fun _=>seg [] [(0,none),(1,none),(2,some ((ν1 0),.cells [vi 1,vi (N:Int),vi (gtD lz (Int.toNat ((lz.length:Int)-1))).1,vi rr,.slice ao9 L.length c9] 34)),(3,none)] [.e (ν1 0),.p ((((rnV (gtD lz) oz) (oz+Int.toNat ((lz.length:Int)-1)*3)):Value)=vi (gtD lz (Int.toNat ((lz.length:Int)-1))).1),.e gz,.p (oz≤oz+Int.toNat ((lz.length:Int)-1)*3∧oz+Int.toNat ((lz.length:Int)-1)*3<(oz+lz.length*3)),.p ((0:Int)≤((lz.length:Int)-1)∧(((lz.length:Int)-1):Int)<(lz.length:Int)),.p (fit .i64 ((lz.length:Int)-1))] ⟨(rnV_0 (gtD lz) oz (Int.toNat ((lz.length:Int)-1))),(by omega),(by omega),zf6 (by omega),tv⟩ fun ac wd hS=>?_;rw [show(Int.toNat ((lz.length:Int)-1))=lz.length-1 by omega,es9]at hS;refine wp_region_lit ?_;refine hS.opsC 1 [200] [1,2,4] fun _=>seg [(31,.agg #[vi 1,vi (N:Int),vi (s9:Int),vi rr,.slice ao9 L.length c9])] zn4 [.e (ν1 0),.e (ν1 0),.e (ν1 0),.e (ν1 0),.e (ν1 0)] tv fun ac wd hS=>?_;refine hS.callC 38 #[.agg #[vi 1,vi (N:Int),vi (s9:Int),vi rr,.slice ao9 L.length c9]] (r8_Runs ao9 c9 g9 o9 L N s9 rr g q _ (hS.mem.get 0 1 (.fn 0 64 dbT)) (hS.mem.get 1 g9 (zL L o9)) hv9 (by first|exact hsI.dc|exact hDc)) ?_;rintro _ wd ⟨ao29,c210,g211,o212,rfl,hv213,hog0,hoh0,hF⟩;have ho14:g211=1∨w.heap.size≤g211:=by have:=hS.mem.fr.size;have:w.heap.size≤_:=this;omega
   refine⟨.slice ao29 (rnP q s9).length c210,rfl,?_⟩;replace hS:=(hS.to (hS.mem.outs hF [(g211,zL (rnP q s9) o212)] ⟨⟨rfl,hoh0,(fun q_=>q_.elim (fun e=>.inl ⟨0,.fn 0 64 dbT,by rw [e];as_aux_lemma=>kernel_rfl,rfl⟩) (fun q_=>.inr q_)) hog0⟩,trivial⟩)).put (d:=32) (v:=.slice ao29 (rnP q s9).length c210) (by decide);clear hF;refine hS.opsC 1 [0] [1,2,4] (sg [(5,.slice ao29 (rnP q s9).length c210)] zn5 fun ac wd hS=>?_);refine zln ?_;refine zpb ?_;replace hS:=hS.perm (H':=[(1,.fn 0 64 dbT),(g9,zL L o9),((ν1 0),.cells [vi 1,vi (N:Int),vi (s9:Int),vi rr,.slice ao9 L.length c9] 34),((ν1 1),.cells [vi 0,vi 0,vi 0,vi 0,vnil] 34),(g211,zL (rnP q s9) o212)]) [0,1,2,3,4] (by as_aux_lemma=>kernel_rfl) (by decide);exact zpt (hS.next (s9,ao29,c210,g211,o212,(rnP q s9)) ⟨(by exact hsI),(by rfl),(by exact hv213),tv⟩ (by dsimp only;omega))
  ·
   have hzz:=shr_f hb8o;refine wp_exit ?_;refine zpe ?_;refine zpe ?_;refine zph ?_;refine zpt ?_;obtain⟨ec9,hD⟩:=ShI.end_ i1 hS2 hQ2 (by rw [←i2];exact hzz);refine St.ordBeginS [(0,1),(1,1),(2,1),(3,1),(4,1),(5,0),(6,1)] [(1,.fn 0 64 dbT),(g9,zL L o9),((ν1 0),.cells [vi 1,vi (N:Int),vi (cc:Int),vi rr,.slice ao9 L.length c9] 34),(gz,zL lz oz)] [0,1,2,4] hS fun wd hS=>?_;have hap:=hS.mem.pairs (Hf:=[(1,.fn 0 64 dbT),(g9,zL L o9),((ν1 0),.cells [vi 1,vi (N:Int),vi (cc:Int),vi rr,.slice ao9 L.length c9] 34),(gz,zL lz oz)]) (l:=[0,1,2,4]);refine St.ordF [200,0,0,200,20] [0,1,2,3,4] [2] (rest:=[(5,0),(6,1)]) hS hap<|segF [(33,.agg #[vi 1,vi (N:Int),vi (cc:Int),vi rr,.slice ao9 L.length c9]),(37,vi ((g:Int)-(cc:Int)))] [.p (fit .i64 ((g:Int)-(cc:Int))),.e (ν1 0),.e (ν1 0),.e (ν1 0),.e (ν1 0),.e (ν1 0),.e (ν1 0)] ⟨zf6 (by omega),tv⟩ fun ac hS=>?_;refine St.ord1 5 [300] [2,37] [0,1,2,4] hS rfl fun _=>seg [] [(0,none),(1,none),(2,none),(3,some ((ν1 1),.cells [vi 1,vi (N:Int),vi (cc:Int),vi rr,.slice ao9 L.length c9] 34)),(4,none)] [.e (ν1 1),.e (ν1 1),.e (ν1 1),.e (ν1 1),.e (ν1 1)] trivial ⟨by as_aux_lemma=>kernel_rfl,fun ac wd hS=>?_⟩
   refine St.ordF [0] [6] [2] (rest:=[]) hS hap<|segF [(3,vi ((g:Int)-(cc:Int)))] [] tv fun ac hS=>?_;refine zon ?_;refine wp_ret ?_;refine St.retC 3 hS (.tuple #[.agg #[vi 1,vi (N:Int),vi (cc:Int),vi rr,.slice ao9 L.length c9],vi ((g:Int)-(cc:Int))]) [.e (ν1 1),.e (ν1 1),.e (ν1 1),.e (ν1 1),.e (ν1 1)] tv fun hw=>?_;refine⟨retd (tuple2 (agg5 rfl rfl (vint ?_) rfl rfl) (vint ?_)),hw.fr0⟩
   all_goals (first|rfl|(rw [ec9];done)|(rw [←ec9];done)|omega)
 ·
  have hg7:=nrm hg7o;have hzz:lz.length=0∨(gtD lz (lz.length-1)).2.2=true:=.inl (by have h_:=hg7;omega);replace hS:=hS.fix 13 (vb false) (congrArg Value.bool hg7o);refine hS.opsC 9 [2,2,2,2,2,2,2,2,60] [1,2,4,5] fun _=>seg [(22,vb false)] zn5 [.t false,.t false,.t false,.t false,.t false,.t false,.t false,.t false,.t false] tv fun ac wd hS=>?_;refine zlq ?_;refine hS.condF ?_;refine wp_exit ?_;refine zpe ?_;refine zpe ?_;refine zph ?_;refine zpt ?_;obtain⟨ec9,hD⟩:=ShI.end_ i1 hS2 hQ2 (by rw [←i2];exact hzz);refine St.ordBeginS [(0,1),(1,1),(2,1),(3,1),(4,1),(5,0),(6,1)] [(1,.fn 0 64 dbT),(g9,zL L o9),((ν1 0),.cells [vi 1,vi (N:Int),vi (cc:Int),vi rr,.slice ao9 L.length c9] 34),(gz,zL lz oz)] [0,1,2,4] hS fun wd hS=>?_;have hap:=hS.mem.pairs (Hf:=[(1,.fn 0 64 dbT),(g9,zL L o9),((ν1 0),.cells [vi 1,vi (N:Int),vi (cc:Int),vi rr,.slice ao9 L.length c9] 34),(gz,zL lz oz)]) (l:=[0,1,2,4]);refine St.ordF [200,0,0,200,20] [0,1,2,3,4] [2] (rest:=[(5,0),(6,1)]) hS hap<|segF [(33,.agg #[vi 1,vi (N:Int),vi (cc:Int),vi rr,.slice ao9 L.length c9]),(37,vi ((g:Int)-(cc:Int)))] [.p (fit .i64 ((g:Int)-(cc:Int))),.e (ν1 0),.e (ν1 0),.e (ν1 0),.e (ν1 0),.e (ν1 0),.e (ν1 0)] ⟨zf6 (by omega),tv⟩ fun ac hS=>?_;refine St.ord1 5 [300] [2,37] [0,1,2,4] hS rfl fun _=>seg [] [(0,none),(1,none),(2,none),(3,some ((ν1 1),.cells [vi 1,vi (N:Int),vi (cc:Int),vi rr,.slice ao9 L.length c9] 34)),(4,none)] [.e (ν1 1),.e (ν1 1),.e (ν1 1),.e (ν1 1),.e (ν1 1)] trivial ⟨by as_aux_lemma=>kernel_rfl,fun ac wd hS=>?_⟩
  refine St.ordF [0] [6] [2] (rest:=[]) hS hap<|segF [(3,vi ((g:Int)-(cc:Int)))] [] tv fun ac hS=>?_;refine zon ?_;refine wp_ret ?_;refine St.retC 3 hS (.tuple #[.agg #[vi 1,vi (N:Int),vi (cc:Int),vi rr,.slice ao9 L.length c9],vi ((g:Int)-(cc:Int))]) [.e (ν1 1),.e (ν1 1),.e (ν1 1),.e (ν1 1),.e (ν1 1)] tv fun hw=>?_;refine⟨retd (tuple2 (agg5 rfl rfl (vint ?_) rfl rfl) (vint ?_)),hw.fr0⟩
  all_goals (first|rfl|(rw [ec9];done)|(rw [←ec9];done)|omega)
theorem r8_Own (c:Int)(w:World)(hc:0≤c∧c≤100):
    Calls Tryz.prog 85 #[vi c] w fun e w'=>e=.returned (vi 1)∧Fr w w' no no:=by
 refine enter (args:=[vi c]) (D:=no) (A:=[]) Tryz.func85 rfl 14 rfl [] (WS.startL trivial) fun ac hS=>?_;refine hS.regS [0] [0] (sg [] [] fun ac wd hS=>?_);refine hS.regS [0,20,0] [] fun _=>seg [(3,vi (256+c))] [] [.p (fit .i64 (256+c))] ⟨zf6 (by omega),tv⟩ fun ac wd hS=>?_;refine wp_seq ?_;refine hS.regS [0,20,0] [3] fun _=>seg [(8,vb (decide ((0:Int)<((256+c)%4096))))] [] [.p ((4096:Int)≠0∧Int.tmod (256+c) 4096=(256+c)%4096)] ⟨rem2 (by omega) (by omega),tv⟩ fun ac wd hS=>?_;refine hS.condC (decide ((0:Int)<((256+c)%4096))) (fun hb1o hb1=>?_) (fun hb1o hb1=>?_)
 ·
  refine hS.regS [0,20,20,0] [] fun _=>seg [(2,vi (((256+c)/4096)+1))] [] [.p (fit .i64 (((256+c)/4096)+1)),.p ((4096:Int)≠0∧IntKind.i64.wrap (Int.tdiv (256+c) 4096)=(256+c)/4096)] ⟨zf6 (by omega),quo2 (by omega) (by omega) (by omega),tv⟩ fun ac wd hS=>?_;refine wp_ret ?_;refine zpr ?_;refine St.retC 0 hS (vi (((256+c)/4096)+1)) [] tv fun hw=>?_;refine⟨retd (vint ?_),hw.fr0⟩
  all_goals (first|rfl|omega)
 ·
  refine wp_skip ?_;refine zpt ?_;refine hS.regS [0,20,0] [] fun _=>seg [(2,vi ((256+c)/4096))] [] [.p ((4096:Int)≠0∧IntKind.i64.wrap (Int.tdiv (256+c) 4096)=(256+c)/4096)] ⟨quo2 (by omega) (by omega) (by omega),tv⟩ fun ac wd hS=>?_;refine wp_ret ?_;refine St.retC 0 hS (vi ((256+c)/4096)) [] tv fun hw=>?_;refine⟨retd (vint ?_),hw.fr0⟩
  all_goals (first|rfl|omega)
theorem r8_New_small (c:Int)(rr:Int)(w:World)(hc:0≤c∧c≤1):
    Calls Tryz.prog 34 #[vi c,vi rr] w fun e w'=>e=.returned (.tuple #[.agg #[vi 0,vi 0,vi 0,vi 0,vnil],vi 3])∧Fr w w' no no:=by
 refine enter (args:=[vi c,vi rr]) (D:=no) (A:=[]) Tryz.func34 rfl 30 rfl [] (WS.startL trivial) fun ac hS=>?_;refine hS.regS [0,0] [0,1] fun ν1=>seg [(4,pt (ν1 0) 0)] [(0,some ((ν1 0),.cells [vi 0,vi 0,vi 0,vi 0,vnil] 34))] [] tv fun ac wd hS=>?_;refine zwq ?_;refine hS.opsC 1 [0] [0,1,4] (sg [(8,vi c)] [(0,none)] fun ac wd hS=>?_);refine hS.call0 85 #[vi c] 9 (r8_Own c _ (by omega)) fun ac wd hS=>?_;refine hS.opsC 2 [0,0] [1,4,9] (sg [(10,vi c),(11,vi c)] [(0,none)] fun ac wd hS=>?_);refine hS.call0 85 #[vi c] 12 (r8_Own c _ (by omega)) fun ac wd hS=>?_;refine hS.opsC 5 [20,0,0,0,100] [4] fun ν4=>seg [(6,pt (ν4 0) 0)] [(0,none),(1,some ((ν4 0),.cells [vi 1,vi (c-1),vi 0,vi rr,vnil] 34))] [.e (ν4 0),.e (ν4 0),.e (ν4 0),.e (ν4 0),.e (ν4 0),.p (fit .i64 (c-1))] ⟨zf6 (by omega),tv⟩ fun ac wd hS=>?_;refine zlq ?_;refine wp_seq ?_;refine hS.regS [0,100,0] [4,6] fun _=>seg [(18,vb (decide (((c-1):Int)<1)))] zn2 [.e (ν4 0)] tv fun ac wd hS=>?_;refine hS.condK (decide (((c-1):Int)<1)) true (by exact decide_eq_true (by omega)) ?_
 show Code.wp _ _ _ _ _
 refine hS.regS [0,0,0] [4] fun _=>seg [(5,vi 3)] [(0,none)] [.e (ν1 0),.e (ν1 0),.e (ν1 0),.e (ν1 0),.e (ν1 0)] tv fun ac wd hS=>?_;refine wp_ret ?_;refine zpr ?_;refine St.retC 0 hS (.tuple #[.agg #[vi 0,vi 0,vi 0,vi 0,vnil],vi 3]) [.e (ν1 0),.e (ν1 0),.e (ν1 0),.e (ν1 0),.e (ν1 0)] tv fun hw=>?_;refine⟨retd rfl,hw.fr0⟩
theorem r8_commit0 (N:Int)(rr:Int)(w:World)(hr: -1≤rr∧rr≤9223372036854775807):
    Calls Tryz.prog 86 #[.agg #[vi 1,vi N,vi 0,vi rr,vnil]] w fun e w'=>e=.returned (.tuple #[.agg #[vi 1,vi N,vi 0,vi (cmR rr),vnil],vi (cmE rr)])∧Fr w w' no no:=by
 refine enter (args:=[.agg #[vi 1,vi N,vi 0,vi rr,vnil]]) (D:=no) (A:=[]) Tryz.func86 rfl 17 rfl [] (WS.startL trivial) fun ac hS=>?_;refine hS.regS [0,0,0] [] fun ν1=>seg [(1,pt (ν1 0) 0),(2,pt (ν1 1) 0)] [(0,some ((ν1 0),.cells [vi 1,vi N,vi 0,vi rr,vnil] 34)),(1,some ((ν1 1),.cells [vi 0,vi 0,vi 0,vi 0,vnil] 34))] [] tv fun ac wd hS=>?_;refine wp_seq ?_;refine hS.regS [0,0,0] [1,2] fun _=>seg [(6,vb ((rr:Int)==0))] zn2 [.e (ν1 0)] tv fun ac wd hS=>?_;refine hS.condC ((rr:Int)==0) (fun hb1o hb1=>?_) (fun hb1o hb1=>?_)
 ·
  have hr0:rr=0:=hb1;refine hS.regS [0,0] [1,2] fun _=>seg [] [(0,some ((ν1 0),.cells [vi 1,vi N,vi 0,vi (-1),vnil] 34)),(1,none)] [.e (ν1 0)] tv fun ac wd hS=>?_;refine hS.regS [0,100,0] [2] fun _=>seg [(3,vi 4)] [(1,some ((ν1 1),.cells [vi 1,vi N,vi 0,vi (-1),vnil] 34))] [.e (ν1 1),.e (ν1 1),.e (ν1 1),.e (ν1 1),.e (ν1 1),.e (ν1 0),.e (ν1 0),.e (ν1 0),.e (ν1 0),.e (ν1 0)] tv fun ac wd hS=>?_;refine wp_ret ?_;refine zpr ?_;refine St.retC 0 hS (.tuple #[.agg #[vi 1,vi N,vi 0,vi (-1),vnil],vi 4]) [.e (ν1 1),.e (ν1 1),.e (ν1 1),.e (ν1 1),.e (ν1 1)] tv fun hw=>?_;refine⟨retd (tuple2 (agg5 rfl rfl rfl (vint ?_) rfl) (vint ?_)),hw.fr0⟩
  all_goals (first|rfl|exact cm_1 hr0|exact cm_2 hr0|exact cm_3 hr0|exact cm_4 hr0 (by omega)|exact cm_5 (by omega))
 ·
  have hr0:rr≠0:=hb1;refine wp_skip ?_;refine zpt ?_;refine wp_seq ?_;refine hS.regS [0,0,0] [1,2] fun _=>seg [(11,vb (decide ((0:Int)<rr)))] zn2 [.e (ν1 0)] tv fun ac wd hS=>?_;refine hS.condC (decide ((0:Int)<rr)) (fun hb2o hb2=>?_) (fun hb2o hb2=>?_)
  ·
   refine hS.regC [0,0,20,0,0] [1,2] fun _=>seg [] [(0,some ((ν1 0),.cells [vi 1,vi N,vi 0,vi (rr-1),vnil] 34)),(1,none)] [.e (ν1 0),.p (fit .i64 (rr-1)),.e (ν1 0)] ⟨zf6 (by omega),tv⟩ fun ac wd hS=>?_;refine zpt ?_;refine hS.regS [0,100,0] [2] fun _=>seg [(3,vi 0)] [(1,some ((ν1 1),.cells [vi 1,vi N,vi 0,vi (rr-1),vnil] 34))] [.e (ν1 1),.e (ν1 1),.e (ν1 1),.e (ν1 1),.e (ν1 1),.e (ν1 0),.e (ν1 0),.e (ν1 0),.e (ν1 0),.e (ν1 0)] tv fun ac wd hS=>?_;refine wp_ret ?_;refine St.retC 0 hS (.tuple #[.agg #[vi 1,vi N,vi 0,vi (rr-1),vnil],vi 0]) [.e (ν1 1),.e (ν1 1),.e (ν1 1),.e (ν1 1),.e (ν1 1)] tv fun hw=>?_;refine⟨retd (tuple2 (agg5 rfl rfl rfl (vint ?_) rfl) (vint ?_)),hw.fr0⟩
   all_goals (first|rfl|exact cm_1 hr0|exact cm_2 hr0|exact cm_3 hr0|exact cm_4 hr0 (by omega)|exact cm_5 (by omega))
  ·
   refine wp_skip ?_;refine zpt ?_;refine hS.regS [0,100,0] [2] fun _=>seg [(3,vi 0)] [(1,some ((ν1 1),.cells [vi 1,vi N,vi 0,vi rr,vnil] 34))] [.e (ν1 1),.e (ν1 1),.e (ν1 1),.e (ν1 1),.e (ν1 1),.e (ν1 0),.e (ν1 0),.e (ν1 0),.e (ν1 0),.e (ν1 0)] tv fun ac wd hS=>?_;refine wp_ret ?_;refine St.retC 0 hS (.tuple #[.agg #[vi 1,vi N,vi 0,vi rr,vnil],vi 0]) [.e (ν1 1),.e (ν1 1),.e (ν1 1),.e (ν1 1),.e (ν1 1)] tv fun hw=>?_;refine⟨retd (tuple2 (agg5 rfl rfl rfl (vint ?_) rfl) (vint ?_)),hw.fr0⟩
   all_goals (first|rfl|exact cm_1 hr0|exact cm_2 hr0|exact cm_3 hr0|exact cm_4 hr0 (by omega)|exact cm_5 (by omega))
theorem r8_New_ok (c:Int)(rr:Int)(N:Nat)(w:World)(hc:c=(N:Int)+1∧1≤N∧N≤79)(hr: -1≤rr∧rr≤9223372036854775807)(hr0:rr≠0):
    Calls Tryz.prog 34 #[vi c,vi rr] w fun e w'=>e=.returned (.tuple #[.agg #[vi 1,vi (N:Int),vi 0,vi (cmR rr),vnil],vi 0])∧Fr w w' no no:=by
 refine enter (args:=[vi c,vi rr]) (D:=no) (A:=[]) Tryz.func34 rfl 30 rfl [] (WS.startL trivial) fun ac hS=>?_;refine hS.regS [0,0] [0,1] fun ν1=>seg [(4,pt (ν1 0) 0)] [(0,some ((ν1 0),.cells [vi 0,vi 0,vi 0,vi 0,vnil] 34))] [] tv fun ac wd hS=>?_;refine zwq ?_;refine hS.opsC 1 [0] [0,1,4] (sg [(8,vi c)] [(0,none)] fun ac wd hS=>?_);refine hS.call0 85 #[vi c] 9 (r8_Own c _ (by omega)) fun ac wd hS=>?_;refine hS.opsC 2 [0,0] [1,4,9] (sg [(10,vi c),(11,vi c)] [(0,none)] fun ac wd hS=>?_);refine hS.call0 85 #[vi c] 12 (r8_Own c _ (by omega)) fun ac wd hS=>?_;refine hS.opsC 5 [20,0,0,0,100] [4] fun ν4=>seg [(6,pt (ν4 0) 0)] [(0,none),(1,some ((ν4 0),.cells [vi 1,vi (c-1),vi 0,vi rr,vnil] 34))] [.e (ν4 0),.e (ν4 0),.e (ν4 0),.e (ν4 0),.e (ν4 0),.p (fit .i64 (c-1))] ⟨zf6 (by omega),tv⟩ fun ac wd hS=>?_;refine zlq ?_;refine wp_seq ?_;refine hS.regS [0,100,0] [4,6] fun _=>seg [(18,vb (decide (((c-1):Int)<1)))] zn2 [.e (ν4 0)] tv fun ac wd hS=>?_;refine hS.condK (decide (((c-1):Int)<1)) false (by exact decide_eq_false (by omega)) ?_
 show Code.wp _ _ _ _ _
 refine wp_skip ?_;refine zpt ?_;refine zwq ?_;refine hS.opsC 1 [100] [4,6] fun _=>seg [(21,.agg #[vi 1,vi (c-1),vi 0,vi rr,vnil])] zn2 [.e (ν4 0),.e (ν4 0),.e (ν4 0),.e (ν4 0),.e (ν4 0)] tv fun ac wd hS=>?_;refine hS.call0 86 #[.agg #[vi 1,vi (c-1),vi 0,vi rr,vnil]] 22 (r8_commit0 (c-1) rr _ (by exact hr)) fun ac wd hS=>?_;refine hS.opsC 5 [0,0,0,100,0] [4,6] fun _=>seg [(7,vi (cmE rr))] [(0,none),(1,some ((ν4 0),.cells [vi 1,vi (c-1),vi 0,vi (cmR rr),vnil] 34))] [.e (ν4 0),.e (ν4 0),.e (ν4 0),.e (ν4 0),.e (ν4 0)] tv fun ac wd hS=>?_;refine zlq ?_;refine wp_seq ?_;refine hS.regS [0,0] [4,6,7] (sg [(26,vb (((cmE rr):Int)!=0))] zn2 fun ac wd hS=>?_);refine hS.condK (((cmE rr):Int)!=0) false (by(rw [←cm_3 hr0];rfl)) ?_
 show Code.wp _ _ _ _ _
 refine wp_skip ?_;refine zpt ?_;refine hS.regS [100,0,0] [4] fun _=>seg [(5,vi 0)] [(0,some ((ν1 0),.cells [vi 1,vi (c-1),vi 0,vi (cmR rr),vnil] 34))] [.e (ν1 0),.e (ν1 0),.e (ν1 0),.e (ν1 0),.e (ν1 0),.e (ν4 0),.e (ν4 0),.e (ν4 0),.e (ν4 0),.e (ν4 0)] tv fun ac wd hS=>?_;refine wp_ret ?_;refine St.retC 0 hS (.tuple #[.agg #[vi 1,vi (c-1),vi 0,vi (cmR rr),vnil],vi 0]) [.e (ν1 0),.e (ν1 0),.e (ν1 0),.e (ν1 0),.e (ν1 0)] tv fun hw=>?_;refine⟨retd (tuple2 (agg5 rfl (vint ?_) rfl rfl rfl) rfl),hw.fr0⟩
 all_goals (first|rfl|omega)
theorem l08_DoR (b:Nat)(F:Nat→Prop)(m:AM)(bb:Nat)(N:Nat)(ao9:Option Addr)(c9:Nat)(g9:Nat)(o9:Nat)(L:List (Int×Int×Bool))(g:Nat)(r:Int)(d:Int)(k:Int)(n:Int)(q:List Tg)(Q:Nat→List Int)(w:World)(hr:(arR b F m).R w)(hh0:HE.holds w 1 (.fn 0 64 dbT))(hh1:HE.holds w bb (.fn 0 12 (roF (zbx b N))))(hh2:HE.holds w g9 (zL L o9))(hf0:¬F 1)(hf1:¬F bb)(hf2:¬F g9)(hv9:(L.length=0∨ao9=some ⟨g9,o9,none⟩))(hB:Bdy m N g r q Q)(hfl:FullG g q)(hDc:DC N g g q L)(hd:0≤d∧d≤255)(hn:n≤9223372036854775807)(hrh:r≤9223372036854775807):
    Calls Tryz.prog 15 #[pt bb 0,.agg #[vi 1,vi (N:Int),vi (g:Int),vi r,.slice ao9 L.length c9],.agg #[v8 d,vi k,vi n]] w fun e w'=>∃(g2:Nat) (r2:Int) (mo:AM) (q2:List Tg) (Q2:Nat→List Int) (ao8:Option Addr) (c8:Nat) (g8:Nat) (o8:Nat) (F':Nat→Prop),e=.returned (.tuple #[.agg #[vi 1,vi (N:Int),vi (g2:Int),vi r2,.slice ao8 (tkD q2 g2).length c8],vb true])∧Bdy mo N g2 r2 q2 Q2∧FullG g2 q2∧(r2≤9223372036854775807)∧((tkD q2 g2).length=0∨ao8=some ⟨g8,o8,none⟩)∧(arR b F' mo).R w'∧(g8=1∨g8=g9∨w.heap.size≤g8)∧HE.holds w' g8 (zL (tkD q2 g2) o8)∧¬F' g8∧Fr w w' F F':=by
 have hpk:=pk_rng hB n;have hl79:=hDc.len;have hrw:=hB.rLow;refine enter (args:=[pt bb 0,.agg #[vi 1,vi (N:Int),vi (g:Int),vi r,.slice ao9 L.length c9],.agg #[v8 d,vi k,vi n]]) (D:=F) (A:=[arR b F m]) Tryz.func15 rfl 154 rfl [(1,.fn 0 64 dbT),(bb,.fn 0 12 (roF (zbx b N))),(g9,zL L o9)] (WS.startA (r:=arR b F m) hr ⟨⟨rfl,hh0⟩,⟨rfl,hh1⟩,⟨rfl,hh2⟩,trivial⟩ ⟨hf0,hf1,hf2,trivial⟩) fun ac hS=>?_;refine hS.regS [0,0,0,0] [0] fun ν1=>seg [(4,pt (ν1 0) 0),(5,pt (ν1 1) 0),(6,pt (ν1 2) 0)] [(0,none),(1,none),(2,none),(3,some ((ν1 0),.cells [vi 1,vi (N:Int),vi (g:Int),vi r,.slice ao9 L.length c9] 34)),(4,some ((ν1 1),.cells [v8 d,vi k,vi n] 31)),(5,some ((ν1 2),.cells [vi 0,vi 0,vi 0,vi 0,vnil] 34))] [] tv fun ac wd hS=>?_;refine hS.regS [0,0] [0,4,5,6] (sg [(8,vi 0),(9,vi 0)] zn6 fun ac wd hS=>?_);refine wp_seq ?_;refine hS.regS [0,400,20] [0,4,5,6,8,9] fun _=>seg [(25,v8 (d%8))] zn6 [.p ((8:Int)≠0∧Int.tmod d 8=d%8),.e (ν1 1)] ⟨rem2 (by omega) (by omega),tv⟩ fun ac wd hS=>?_;refine wp_block ?_;refine St.meetC (c:=⟨w,F,[]⟩) (n:=154) (σ:=Bool) (fun(x66:Bool)=>⟨[(0,[],pt bb 0),(4,[],pt (ν1 0) 0),(5,[],pt (ν1 1) 0),(6,[],pt (ν1 2) 0),(8,[],vi 0),(9,[],vi 0),(25,[],v8 (d%8)),(66,[],vb x66)],[(1,.fn 0 64 dbT),(bb,.fn 0 12 (roF (zbx b N))),(g9,zL L o9),((ν1 0),.cells [vi 1,vi (N:Int),vi (g:Int),vi r,.slice ao9 L.length c9] 34),((ν1 1),.cells [v8 d,vi k,vi n] 31),((ν1 2),.cells [vi 0,vi 0,vi 0,vi 0,vnil] 34)],[arR b F m],True,0⟩) ?_ ?_
 ·
  refine hS.regS [0,0] [0,4,5,6,8,9,25] (sg [(66,vb (((d%8):Int)==3))] zn6 fun ac wd hS=>?_);refine hS.condC (((d%8):Int)==3) (fun hb1o hb1=>?_) (fun hb1o hb1=>?_)
  ·
   replace hS:=hS.fix 66 (vb true) (congrArg Value.bool hb1o);refine wp_skip ?_;exact zpt (hS.next true trivial (by show 0<1;decide))
  ·
   replace hS:=hS.fix 66 (vb false) (congrArg Value.bool hb1o);refine hS.regC [0,0] [0,4,5,6,8,9,25] (sg [(66,vb (((d%8):Int)==4))] zn6 fun ac wd hS=>?_);exact zpt (hS.next (((d%8):Int)==4) trivial (by show 0<1;decide))
 ·
  clear hS;rintro x66-ac wd hS;refine hS.condC x66 (fun hb2o hb2=>?_) (fun hb2o hb2=>?_)
  ·
   replace hS:=hS.fix 66 (vb true) (congrArg Value.bool hb2o);refine zwq ?_;refine hS.opsC 3 [0,0,400] [0,4,6] fun _=>seg [(69,pt bb 0),(71,vi n)] [(0,none),(1,none),(2,none),(3,none),(5,none)] [.e (ν1 1)] tv fun ac wd hS=>?_;refine hS.call0 26 #[pt bb 0,vi n] 72 (l08_Pick b F m bb N n g r q Q _ (hS.mem.res 0) (hS.mem.get 0 1 (.fn 0 64 dbT)) (hS.mem.get 1 bb (.fn 0 12 (roF (zbx b N)))) (by exact hB) (by exact hfl)) fun ac wd hS=>?_;refine hS.opsC 1 [0] [0,4,6] (sg [(10,vi (pkA (rnTo q g) n))] zn5 fun ac wd hS=>?_);refine zlq ?_;refine zwq ?_;refine hS.opsC 2 [0,0] [0,4,6,10] (sg [(74,pt bb 0),(75,vi (pkA (rnTo q g) n))] zn5 fun ac wd hS=>?_);refine hS.call0 18 #[pt bb 0,vi (pkA (rnTo q g) n)] 76 (bu_Order b F m bb N (pkA (rnTo q g) n) g r q Q _ (hS.mem.res 0) (hS.mem.get 1 bb (.fn 0 12 (roF (zbx b N)))) (by exact hB) (by(have:=pk_rng hB n;omega))) fun ac wd hS=>?_;refine hS.opsC 5 [0,0,0,0,0] [0,4,6,10] (sg [(11,vi (tkK q (pkA (rnTo q g) n))),(12,vi (tkE q (pkA (rnTo q g) n)))] zn5 fun ac wd hS=>?_);refine zlq ?_;refine zwq ?_;refine hS.opsC 6 [300,0,20,0,300,20] [0,4,6,10,11,12] fun _=>seg [(80,.agg #[vi 1,vi (N:Int),vi (g:Int),vi r,.slice ao9 L.length c9]),(85,vi (((pkA (rnTo q g) n)/4096)-1))] zn5 [.p (fit .i64 (((pkA (rnTo q g) n)/4096)-1)),.e (ν1 0),.p ((4096:Int)≠0∧IntKind.i64.wrap (Int.tdiv (pkA (rnTo q g) n) 4096)=(pkA (rnTo q g) n)/4096),.e (ν1 0),.e (ν1 0),.e (ν1 0),.e (ν1 0),.e (ν1 0)] ⟨zf6 (by omega),quo2 (by omega) (by omega) (by omega),tv⟩ fun ac wd hS=>?_;refine hS.call0 61 #[.agg #[vi 1,vi (N:Int),vi (g:Int),vi r,.slice ao9 L.length c9],vi (((pkA (rnTo q g) n)/4096)-1)] 86 (r8_Order ao9 c9 g9 o9 L N g r (((pkA (rnTo q g) n)/4096)-1) q _ (hS.mem.get 2 g9 (zL L o9)) hv9 (by exact hDc) (by(have:=pk_rng hB n;omega))) fun ac wd hS=>?_;refine hS.opsC 5 [0,0,0,0,0] [0,4,6,10,11,12] (sg [(13,vi (tkK q (((((pkA (rnTo q g) n)/4096)-1)+1)*4096))),(14,vi (tkE q (((((pkA (rnTo q g) n)/4096)-1)+1)*4096)))] zn5 fun ac wd hS=>?_);refine zlq ?_;refine zwq ?_;refine hS.opsC 2 [0,0] [4,6,10,11,12,13,14] (sg [(89,pt bb 0),(90,vi (pkA (rnTo q g) n))] zn5 fun ac wd hS=>?_);refine hS.callC 19 #[pt bb 0,vi (pkA (rnTo q g) n)] (bu_Free b F m bb N (pkA (rnTo q g) n) g r q Q _ (hS.mem.res 0) (hS.mem.get 1 bb (.fn 0 12 (roF (zbx b N)))) (hS.mem.nF (g:=bb) (r:=arR b F m) 1 0) (by exact hB) (by(have:=pk_rng hB n;omega))) ?_;rintro _ wd ⟨mo3,q24,Q25,F6,rfl,hB27,hF28,hK29,hA,hF⟩;refine⟨vi (tkE q (pkA (rnTo q g) n)),rfl,?_⟩;replace hS:=hS.sA 0 rfl hA hF 91 (vi (tkE q (pkA (rnTo q g) n)));clear hF;refine hS.opsC 1 [0] [4,6,10,11,12,13,14] (sg [(8,vi (tkE q (pkA (rnTo q g) n)))] [(0,none),(2,none),(3,none),(4,none)] fun ac wd hS=>?_);refine zlq ?_;refine zwq ?_;refine hS.opsC 6 [200,0,20,0,200,20] [4,6,8,11,12,13,14] fun _=>seg [(93,.agg #[vi 1,vi (N:Int),vi (g:Int),vi r,.slice ao9 L.length c9]),(98,vi (((pkA (rnTo q g) n)/4096)-1))] zn4 [.p (fit .i64 (((pkA (rnTo q g) n)/4096)-1)),.e (ν1 0),.p ((4096:Int)≠0∧IntKind.i64.wrap (Int.tdiv (pkA (rnTo q g) n) 4096)=(pkA (rnTo q g) n)/4096),.e (ν1 0),.e (ν1 0),.e (ν1 0),.e (ν1 0),.e (ν1 0)] ⟨zf6 (by omega),quo2 (by omega) (by omega) (by omega),tv⟩ fun ac wd hS=>?_;refine hS.callC 62 #[.agg #[vi 1,vi (N:Int),vi (g:Int),vi r,.slice ao9 L.length c9],vi (((pkA (rnTo q g) n)/4096)-1)] (r8_Free ao9 c9 g9 o9 L N g r (((pkA (rnTo q g) n)/4096)-1) q q24 _ (hS.mem.get 0 1 (.fn 0 64 dbT)) (hS.mem.get 1 g9 (zL L o9)) hv9 (by exact hDc) (by(have:=pk_rng hB n;omega)) (by(rw [pk_al hB n];assumption))) ?_;rintro _ wd ⟨ao210,c211,g212,o213,rfl,hv214,hog0,hoh0,hF⟩;have ho15:g212=1∨g212=g9∨w.heap.size≤g212:=by have:=hS.mem.fr.size;have:w.heap.size≤_:=this;omega
   refine⟨.tuple #[.agg #[vi 1,vi (N:Int),vi (g:Int),vi r,.slice ao210 (tkD q24 g).length c211],vi (tkE q (((((pkA (rnTo q g) n)/4096)-1)+1)*4096))],rfl,?_⟩;replace hS:=(hS.to (hS.mem.outs hF [(g212,zL (tkD q24 g) o213)] ⟨⟨rfl,hoh0,(fun q_=>q_.elim (fun e=>.inl ⟨0,.fn 0 64 dbT,by rw [e];as_aux_lemma=>kernel_rfl,rfl⟩) (fun q_=>q_.elim (fun e=>.inl ⟨1,zL L o9,by rw [e];as_aux_lemma=>kernel_rfl,rfl⟩) (fun q_=>.inr q_))) hog0⟩,trivial⟩)).put (d:=99) (v:=.tuple #[.agg #[vi 1,vi (N:Int),vi (g:Int),vi r,.slice ao210 (tkD q24 g).length c211],vi (tkE q (((((pkA (rnTo q g) n)/4096)-1)+1)*4096))]) (by decide);clear hF;refine hS.opsC 5 [0,0,0,200,0] [4,6,8,11,12,13,14] fun _=>seg [(9,vi (tkE q (((((pkA (rnTo q g) n)/4096)-1)+1)*4096)))] [(0,none),(2,some ((ν1 0),.cells [vi 1,vi (N:Int),vi (g:Int),vi r,.slice ao210 (tkD q24 g).length c211] 34)),(3,none),(4,none)] [.e (ν1 0),.e (ν1 0),.e (ν1 0),.e (ν1 0),.e (ν1 0)] tv fun ac wd hS=>?_;refine zlq ?_;have hpk9:=pk_al hB n;refine hS.regS [0,0,0,0,3,3,3,80] [4,6,8,9] (sg [(109,vb ((((tkK q (pkA (rnTo q g) n)):Int)!=(tkK q (((((pkA (rnTo q g) n)/4096)-1)+1)*4096)))||(((tkE q (pkA (rnTo q g) n)):Int)!=(tkE q (((((pkA (rnTo q g) n)/4096)-1)+1)*4096)))))] zn4 fun ac wd hS=>?_);refine hS.condK ((((tkK q (pkA (rnTo q g) n)):Int)!=(tkK q (((((pkA (rnTo q g) n)/4096)-1)+1)*4096)))||(((tkE q (pkA (rnTo q g) n)):Int)!=(tkE q (((((pkA (rnTo q g) n)/4096)-1)+1)*4096)))) false (by(rw [hpk9];simp)) ?_
   show Code.wp _ _ _ _ _
   refine wp_skip ?_;refine zpb ?_;refine zpt ?_;refine hS.regS [100,0,0,0,200,0] [6] fun _=>seg [(7,vb (((tkE q (pkA (rnTo q g) n)):Int)==(tkE q (((((pkA (rnTo q g) n)/4096)-1)+1)*4096))))] [(0,none),(2,some ((ν1 2),.cells [vi 1,vi (N:Int),vi (g:Int),vi r,.slice ao210 (tkD q24 g).length c211] 34)),(3,none)] [.e (ν1 2),.e (ν1 2),.e (ν1 2),.e (ν1 2),.e (ν1 2),.e (ν1 0),.e (ν1 0),.e (ν1 0),.e (ν1 0),.e (ν1 0)] tv fun ac wd hS=>?_;refine wp_ret ?_;refine St.retC 1 hS (.tuple #[.agg #[vi 1,vi (N:Int),vi (g:Int),vi r,.slice ao210 (tkD q24 g).length c211],vb (((tkE q (pkA (rnTo q g) n)):Int)==(tkE q (((((pkA (rnTo q g) n)/4096)-1)+1)*4096)))]) [.e (ν1 2),.e (ν1 2),.e (ν1 2),.e (ν1 2),.e (ν1 2)] tv fun hw=>?_;refine⟨g,r,mo3,q24,Q25,ao210,c211,g212,o213,F6,retd (tuple2 rfl (vbool ?_)),?_,?_,?_,(by first|exact hv214|exact .inl hz_|(rw [←hD];exact hv214)|(rw [←hD];exact .inl hz_)),(hw.res 0),(by omega),(hw.get 2 g212 (zL (tkD q24 g) o213)),(fun q_=>hw.free (g212,zL (tkD q24 g) o213) (List.mem_of_getElem? (i:=2) (by as_aux_lemma=>kernel_rfl)) (.inl q_)),hw.frA⟩
   all_goals (first|(first|rfl|assumption|exact hB.refM n|exact hfl|exact FreeP.full hfl (by assumption)|exact hrh|exact gwR_le hrh|exact al_r (by assumption) hrh|exact imx_c n|exact imx_le hn|(rw [hpk9];exact beq_self_eq_true _)|exact beq_self_eq_true _|(rw [←hD];done)|(rw [←hD];exact hv9)|(intro x_ _ _;rw [←hD])|omega)|(intro x_ hx_;rfl)|(intro x_ hx_ hy_;rfl))
  ·
   replace hS:=hS.fix 66 (vb false) (congrArg Value.bool hb2o);refine hS.regS [0,0] [0,4,5,6,8,9,25] (sg [(111,vb (((d%8):Int)==5))] zn6 fun ac wd hS=>?_);refine hS.condC (((d%8):Int)==5) (fun hb16o hb16=>?_) (fun hb16o hb16=>?_)
   ·
    replace hS:=hS.fix 111 (vb true) (congrArg Value.bool hb16o);refine zwq ?_;refine hS.opsC 3 [0,0,400] [4,5,6,8] fun _=>seg [(113,pt bb 0),(115,vi k)] zn6 [.e (ν1 1)] tv fun ac wd hS=>?_;refine hS.callC 23 #[pt bb 0,vi k] (bu_Grow b F m bb N k g r q Q _ (hS.mem.res 0) (hS.mem.get 0 1 (.fn 0 64 dbT)) (hS.mem.get 1 bb (.fn 0 12 (roF (zbx b N)))) (hS.mem.nF (g:=1) (r:=arR b F m) 0 0) (hS.mem.nF (g:=bb) (r:=arR b F m) 1 0) (by exact hB) (by exact hfl)) ?_;rintro _ wd ⟨mo17,q218,Q219,F20,rfl,hB221,hF222,hT223,hS224,hK225,hA,hF⟩;refine⟨vi (gwE N g r k),rfl,?_⟩;replace hS:=hS.sA 0 rfl hA hF 116 (vi (gwE N g r k));clear hF;refine hS.opsC 1 [0] [4,5,6] (sg [(8,vi (gwE N g r k))] [(0,none),(2,none),(3,none),(4,none),(5,none)] fun ac wd hS=>?_);refine zlq ?_;have hD:=gr_L (r:=r) (k:=k) hDc hT223;refine wp_region_lit ?_;refine hS.opsC 3 [200,0,300] [4,6,8] fun _=>seg [(118,.agg #[vi 1,vi (N:Int),vi (g:Int),vi r,.slice ao9 L.length c9]),(120,vi k)] [(0,none),(1,none),(2,none),(4,none)] [.e (ν1 1),.e (ν1 0),.e (ν1 0),.e (ν1 0),.e (ν1 0),.e (ν1 0)] tv fun ac wd hS=>?_;refine hS.call0 63 #[.agg #[vi 1,vi (N:Int),vi (g:Int),vi r,.slice ao9 L.length c9],vi k] 121 (r8_Grow ao9 c9 g9 o9 L N g r k _ (hS.mem.get 1 g9 (zL L o9)) hv9 (by exact⟨hB.rLow,hrh⟩) (by exact⟨hB.bm.cn,hB.bm.nb.2⟩)) fun ac wd hS=>?_;refine hS.opsC 5 [0,0,0,200,0] [4,6,8] fun _=>seg [(9,vi (gwE N g r k))] [(0,none),(1,none),(2,some ((ν1 0),.cells [vi 1,vi (N:Int),vi (((gwG N g r k):Nat):Int),vi (gwR N g r k),.slice ao9 L.length c9] 34)),(3,none)] [.e (ν1 0),.e (ν1 0),.e (ν1 0),.e (ν1 0),.e (ν1 0)] tv fun ac wd hS=>?_;refine zln ?_;refine zpb ?_;refine zpt ?_;refine hS.regS [200,0,0,0,300,0] [6] fun _=>seg [(7,vb (((gwE N g r k):Int)==(gwE N g r k)))] [(0,none),(1,none),(3,some ((ν1 2),.cells [vi 1,vi (N:Int),vi (((gwG N g r k):Nat):Int),vi (gwR N g r k),.slice ao9 L.length c9] 34))] [.e (ν1 2),.e (ν1 2),.e (ν1 2),.e (ν1 2),.e (ν1 2),.e (ν1 0),.e (ν1 0),.e (ν1 0),.e (ν1 0),.e (ν1 0)] tv fun ac wd hS=>?_;refine wp_ret ?_;refine St.retC 2 hS (.tuple #[.agg #[vi 1,vi (N:Int),vi (((gwG N g r k):Nat):Int),vi (gwR N g r k),.slice ao9 L.length c9],vb (((gwE N g r k):Int)==(gwE N g r k))]) [.e (ν1 2),.e (ν1 2),.e (ν1 2),.e (ν1 2),.e (ν1 2)] tv fun hw=>?_;refine⟨(gwG N g r k),(gwR N g r k),mo17,q218,Q219,ao9,c9,g9,o9,F20,retd (tuple2 (agg5 rfl rfl rfl rfl (slN ?_)) (vbool ?_)),?_,?_,?_,(by first|exact hv9|exact .inl hz_|(rw [←hD];exact hv9)|(rw [←hD];exact .inl hz_)),(hw.res 0),(by omega),(HE.fn_to (hw.get 1 g9 (zL L o9)) ?_ ?_),(fun q_=>hw.free (g9,zL L o9) (List.mem_of_getElem? (i:=1) (by as_aux_lemma=>kernel_rfl)) (.inl q_)),hw.frA⟩
    all_goals (first|(first|rfl|assumption|exact hB.refM n|exact hfl|exact FreeP.full hfl (by assumption)|exact hrh|exact gwR_le hrh|exact al_r (by assumption) hrh|exact imx_c n|exact imx_le hn|(rw [hpk9];exact beq_self_eq_true _)|exact beq_self_eq_true _|(rw [←hD];done)|(rw [←hD];exact hv9)|(intro x_ _ _;rw [←hD])|omega)|(intro x_ hx_;rfl)|(intro x_ hx_ hy_;rfl))
   ·
    replace hS:=hS.fix 111 (vb false) (congrArg Value.bool hb16o);refine hS.regS [0,0] [0,4,5,6,8,9,25] (sg [(124,vb (((d%8):Int)==6))] zn6 fun ac wd hS=>?_);refine hS.condC (((d%8):Int)==6) (fun hb26o hb26=>?_) (fun hb26o hb26=>?_)
    ·
     replace hS:=hS.fix 124 (vb true) (congrArg Value.bool hb26o);refine zwq ?_;refine hS.opsC 1 [0] [4,6] (sg [(126,pt bb 0)] [(0,none),(1,none),(2,none),(3,none),(5,none)] fun ac wd hS=>?_);refine hS.callC 25 #[pt bb 0] (bu_Shrink b F m bb N g r q Q _ (hS.mem.res 0) (hS.mem.get 1 bb (.fn 0 12 (roF (zbx b N)))) (hS.mem.nF (g:=bb) (r:=arR b F m) 1 0) (by exact hB) (by exact hfl)) ?_;rintro _ wd ⟨g227,mo28,q229,Q230,F31,rfl,hB232,hF233,hS234,hK235,hA,hF⟩;refine⟨vi ((g:Int)-(g227:Int)),rfl,?_⟩;replace hS:=hS.sA 0 rfl hA hF 127 (vi ((g:Int)-(g227:Int)));clear hF;refine hS.opsC 1 [0] [4,6] (sg [(15,vi ((g:Int)-(g227:Int)))] [(0,none),(2,none),(3,none),(4,none)] fun ac wd hS=>?_);refine zlq ?_;have hD:=sh_L hDc hS234 (Bdy.dq hB232 hF233);refine zwq ?_;refine hS.opsC 1 [200] [6,15] fun _=>seg [(129,.agg #[vi 1,vi (N:Int),vi (g:Int),vi r,.slice ao9 L.length c9])] [(0,none),(1,none),(3,none)] [.e (ν1 0),.e (ν1 0),.e (ν1 0),.e (ν1 0),.e (ν1 0)] tv fun ac wd hS=>?_;refine hS.call0 64 #[.agg #[vi 1,vi (N:Int),vi (g:Int),vi r,.slice ao9 L.length c9]] 130 (r8_Shrink ao9 c9 g9 o9 L N g r q g227 q229 _ (hS.mem.get 0 1 (.fn 0 64 dbT)) (hS.mem.get 1 g9 (zL L o9)) hv9 (by exact hDc) (by assumption) (by exact Bdy.dq (by assumption) (by assumption))) fun ac wd hS=>?_;refine hS.opsC 6 [0,0,0,0,300,0] [6,15] fun ν28=>seg [(16,pt (ν28 0) 0),(17,vi ((g:Int)-(g227:Int)))] [(0,none),(1,none),(2,none),(3,some ((ν28 0),.cells [vi 1,vi (N:Int),vi (g227:Int),vi r,.slice ao9 L.length c9] 34))] [.e (ν28 0),.e (ν28 0),.e (ν28 0),.e (ν28 0),.e (ν28 0)] tv fun ac wd hS=>?_;refine zlq ?_;refine hS.regS [300,0,0,0,200,0] [6] fun _=>seg [(7,vb ((((g:Int)-(g227:Int)):Int)==((g:Int)-(g227:Int))))] [(0,none),(1,none),(2,some ((ν1 2),.cells [vi 1,vi (N:Int),vi (g227:Int),vi r,.slice ao9 L.length c9] 34))] [.e (ν1 2),.e (ν1 2),.e (ν1 2),.e (ν1 2),.e (ν1 2),.e (ν28 0),.e (ν28 0),.e (ν28 0),.e (ν28 0),.e (ν28 0)] tv fun ac wd hS=>?_;refine wp_ret ?_;refine zpc ?_;refine zpr ?_;refine St.retC 2 hS (.tuple #[.agg #[vi 1,vi (N:Int),vi (g227:Int),vi r,.slice ao9 L.length c9],vb ((((g:Int)-(g227:Int)):Int)==((g:Int)-(g227:Int)))]) [.e (ν1 2),.e (ν1 2),.e (ν1 2),.e (ν1 2),.e (ν1 2)] tv fun hw=>?_;refine⟨g227,r,mo28,q229,Q230,ao9,c9,g9,o9,F31,retd (tuple2 (agg5 rfl rfl rfl rfl (slN ?_)) (vbool ?_)),?_,?_,?_,(by first|exact hv9|exact .inl hz_|(rw [←hD];exact hv9)|(rw [←hD];exact .inl hz_)),(hw.res 0),(by omega),(HE.fn_to (hw.get 1 g9 (zL L o9)) ?_ ?_),(fun q_=>hw.free (g9,zL L o9) (List.mem_of_getElem? (i:=1) (by as_aux_lemma=>kernel_rfl)) (.inl q_)),hw.frA⟩
     all_goals (first|(first|rfl|assumption|exact hB.refM n|exact hfl|exact FreeP.full hfl (by assumption)|exact hrh|exact gwR_le hrh|exact al_r (by assumption) hrh|exact imx_c n|exact imx_le hn|(rw [hpk9];exact beq_self_eq_true _)|exact beq_self_eq_true _|(rw [←hD];done)|(rw [←hD];exact hv9)|(intro x_ _ _;rw [←hD])|omega)|(intro x_ hx_;rfl)|(intro x_ hx_ hy_;rfl))
    ·
     replace hS:=hS.fix 124 (vb false) (congrArg Value.bool hb26o);refine hS.regS [0,0] [0,4,5,6,8,9] (sg [(137,vb (((d%8):Int)==7))] zn6 fun ac wd hS=>?_);refine hS.condC (((d%8):Int)==7) (fun hb36o hb36=>?_) (fun hb36o hb36=>?_)
     ·
      replace hS:=hS.fix 137 (vb true) (congrArg Value.bool hb36o);have hD:=hDc.lst;refine St.ordBeginS [(0,1),(1,1),(2,1),(3,1),(4,1),(5,1),(6,0)] [(1,.fn 0 64 dbT),(bb,.fn 0 12 (roF (zbx b N))),(g9,zL L o9),((ν1 0),.cells [vi 1,vi (N:Int),vi (g:Int),vi r,.slice ao9 L.length c9] 34),((ν1 1),.cells [v8 d,vi k,vi n] 31),((ν1 2),.cells [vi 0,vi 0,vi 0,vi 0,vnil] 34)] [0,1,2,3,4,5] hS fun wd hS=>?_;have hap:=hS.mem.pairs (Hf:=[(1,.fn 0 64 dbT),(bb,.fn 0 12 (roF (zbx b N))),(g9,zL L o9),((ν1 0),.cells [vi 1,vi (N:Int),vi (g:Int),vi r,.slice ao9 L.length c9] 34),((ν1 1),.cells [v8 d,vi k,vi n] 31),((ν1 2),.cells [vi 0,vi 0,vi 0,vi 0,vnil] 34)]) (l:=[0,1,2,3,4,5]);refine St.ordF [0,0,0,100,0,400] [0,1,2,3,4,5] [4,5,6,8,9] (rest:=[(6,0)]) hS hap<|segF [(142,pt b 0),(144,vi n)] [.e (ν1 1),.e bb,.p (0≤0∧0<12)] ⟨(by decide),tv⟩ fun ac hS=>?_;refine hS.ordC 6 28 #[pt b 0,vi n] (ar_Refuse b F m n _ (hS.mem.res 0) (by first|assumption|omega|(simp_all;done)|(simp_all;omega))) ?_;rintro _ wd ⟨F37,rfl,hA,hF⟩;refine⟨.tuple #[],rfl,?_⟩;replace hS:=hS.sA 0 rfl hA hF 145 (.tuple #[]);clear hF;refine hS.ordV (l:=[0,1,2,3,4,5]) ?_;refine zon ?_;refine hS.regC [0,400,0,0,300] [4,6,8,9] fun _=>seg [] [(0,none),(2,none),(3,some ((ν1 0),.cells [vi 1,vi (N:Int),vi (g:Int),vi (imax n 0),.slice ao9 L.length c9] 34)),(5,none)] [.e (ν1 0),.e (ν1 1)] tv fun ac wd hS=>?_;refine zpb ?_;refine zpt ?_;refine hS.regS [200,0,0,0,300,0] [6] fun _=>seg [(7,vb true)] [(0,none),(1,none),(3,some ((ν1 2),.cells [vi 1,vi (N:Int),vi (g:Int),vi (imax n 0),.slice ao9 L.length c9] 34))] [.e (ν1 2),.e (ν1 2),.e (ν1 2),.e (ν1 2),.e (ν1 2),.e (ν1 0),.e (ν1 0),.e (ν1 0),.e (ν1 0),.e (ν1 0)] tv fun ac wd hS=>?_;refine wp_ret ?_;refine St.retC 2 hS (.tuple #[.agg #[vi 1,vi (N:Int),vi (g:Int),vi (imax n 0),.slice ao9 L.length c9],vb true]) [.e (ν1 2),.e (ν1 2),.e (ν1 2),.e (ν1 2),.e (ν1 2)] tv fun hw=>?_;refine⟨g,(imax 0 n),(refM m n),q,Q,ao9,c9,g9,o9,F37,retd (tuple2 (agg5 rfl rfl rfl (vint ?_) (slN ?_)) rfl),?_,?_,?_,(by first|exact hv9|exact .inl hz_|(rw [←hD];exact hv9)|(rw [←hD];exact .inl hz_)),(hw.res 0),(by omega),(HE.fn_to (hw.get 1 g9 (zL L o9)) ?_ ?_),(fun q_=>hw.free (g9,zL L o9) (List.mem_of_getElem? (i:=1) (by as_aux_lemma=>kernel_rfl)) (.inl q_)),hw.frA⟩
      all_goals (first|(first|rfl|assumption|exact hB.refM n|exact hfl|exact FreeP.full hfl (by assumption)|exact hrh|exact gwR_le hrh|exact al_r (by assumption) hrh|exact imx_c n|exact imx_le hn|(rw [hpk9];exact beq_self_eq_true _)|exact beq_self_eq_true _|(rw [←hD];done)|(rw [←hD];exact hv9)|(intro x_ _ _;rw [←hD])|omega)|(intro x_ hx_;rfl)|(intro x_ hx_ hy_;rfl))
     ·
      replace hS:=hS.fix 137 (vb false) (congrArg Value.bool hb36o);refine zwq ?_;refine hS.opsC 3 [0,0,400] [4,5,6] fun _=>seg [(27,pt bb 0),(29,vi k)] zn6 [.e (ν1 1)] tv fun ac wd hS=>?_;refine hS.callC 21 #[pt bb 0,vi k] (bu_Alloc b F m bb N k g r q Q _ (hS.mem.res 0) (hS.mem.get 0 1 (.fn 0 64 dbT)) (hS.mem.get 1 bb (.fn 0 12 (roF (zbx b N)))) (hS.mem.nF (g:=1) (r:=arR b F m) 0 0) (hS.mem.nF (g:=bb) (r:=arR b F m) 1 0) (by exact hB) (by exact hfl)) ?_;rintro _ wd ⟨ao_38,ae_39,g240,r241,mo42,q243,Q244,F45,rfl,hB246,hF247,hA248,hK249,hA,hF⟩;refine⟨.tuple #[vi ao_38,vi ae_39],rfl,?_⟩;replace hS:=hS.sA 0 rfl hA hF 30 (.tuple #[vi ao_38,vi ae_39]);clear hF;refine hS.opsC 5 [0,0,0,0,0] [4,5,6] (sg [(18,vi ao_38),(19,vi ae_39)] [(0,none),(2,none),(3,none),(4,none),(5,none)] fun ac wd hS=>?_);refine zlq ?_;refine zwq ?_;refine hS.opsC 3 [200,0,300] [4,6,18,19] fun _=>seg [(34,.agg #[vi 1,vi (N:Int),vi (g:Int),vi r,.slice ao9 L.length c9]),(36,vi k)] [(0,none),(1,none),(2,none),(4,none)] [.e (ν1 1),.e (ν1 0),.e (ν1 0),.e (ν1 0),.e (ν1 0),.e (ν1 0)] tv fun ac wd hS=>?_;refine hS.callC 65 #[.agg #[vi 1,vi (N:Int),vi (g:Int),vi r,.slice ao9 L.length c9],vi k] (r8_Alloc ao9 c9 g9 o9 L N g r k q ao_38 ae_39 g240 r241 q243 _ (hS.mem.get 0 1 (.fn 0 64 dbT)) (hS.mem.get 1 g9 (zL L o9)) hv9 (by exact hDc) (by assumption) (by exact⟨hB.rLow,hrh⟩) (by exact⟨hB.bm.cn,hB.bm.nb.2⟩)) ?_;rintro _ wd ⟨ao850,c851,g852,o853,rfl,hv854,hog0,hoh0,hF⟩;have ho55:g852=1∨g852=g9∨w.heap.size≤g852:=by have:=hS.mem.fr.size;have:w.heap.size≤_:=this;omega
      refine⟨.tuple #[.agg #[vi 1,vi (N:Int),vi (g240:Int),vi r241,.slice ao850 (tkD q243 g240).length c851],vi (alI ao_38 ae_39),vi ae_39],rfl,?_⟩;replace hS:=(hS.to (hS.mem.outs hF [(g852,zL (tkD q243 g240) o853)] ⟨⟨rfl,hoh0,(fun q_=>q_.elim (fun e=>.inl ⟨0,.fn 0 64 dbT,by rw [e];as_aux_lemma=>kernel_rfl,rfl⟩) (fun q_=>q_.elim (fun e=>.inl ⟨1,zL L o9,by rw [e];as_aux_lemma=>kernel_rfl,rfl⟩) (fun q_=>.inr q_))) hog0⟩,trivial⟩)).put (d:=37) (v:=.tuple #[.agg #[vi 1,vi (N:Int),vi (g240:Int),vi r241,.slice ao850 (tkD q243 g240).length c851],vi (alI ao_38 ae_39),vi ae_39]) (by decide);clear hF;refine hS.opsC 8 [0,0,0,0,0,500,0,0] [4,6,18,19] fun ν36=>seg [(20,pt (ν36 0) 0),(21,vi (alI ao_38 ae_39)),(22,vi ae_39)] [(0,none),(1,none),(2,none),(3,none),(4,none),(5,some ((ν36 0),.cells [vi 1,vi (N:Int),vi (g240:Int),vi r241,.slice ao850 (tkD q243 g240).length c851] 34))] [.e (ν36 0),.e (ν36 0),.e (ν36 0),.e (ν36 0),.e (ν36 0)] tv fun ac wd hS=>?_;refine zlq ?_
      by_cases hz5:ae_39=0
      ·
       have ha5:=al_a1 hA248 hz5;have hb5:=al_bd hA248 hz5 hB.bm.nb.2;refine St.ordBeginS [(0,1),(1,1),(2,1),(3,1),(4,1),(5,1),(6,1),(7,1),(8,1),(9,1),(10,1),(11,1),(12,1),(13,1),(14,1),(15,1),(16,1),(17,1),(18,1),(19,1),(20,1),(21,1),(22,1),(23,1),(24,1),(25,0),(26,1)] [(1,.fn 0 64 dbT),(g9,zL L o9),((ν1 0),.cells [vi 1,vi (N:Int),vi (g:Int),vi r,.slice ao9 L.length c9] 34),(g852,zL (tkD q243 g240) o853),((ν36 0),.cells [vi 1,vi (N:Int),vi (g240:Int),vi r241,.slice ao850 (tkD q243 g240).length c851] 34)] [0,1,2,4,5] hS fun wd hS=>?_;have hap:=hS.mem.pairs (Hf:=[(1,.fn 0 64 dbT),(g9,zL L o9),((ν1 0),.cells [vi 1,vi (N:Int),vi (g:Int),vi r,.slice ao9 L.length c9] 34),(g852,zL (tkD q243 g240) o853),((ν36 0),.cells [vi 1,vi (N:Int),vi (g240:Int),vi r241,.slice ao850 (tkD q243 g240).length c851] 34)]) (l:=[0,1,2,4,5]);refine St.ordF [400,0,0,0,0] [0,1,2,3,4] [4,6,18,21,22] (rest:=[(5,1),(6,1),(7,1),(8,1),(9,1),(10,1),(11,1),(12,1),(13,1),(14,1),(15,1),(16,1),(17,1),(18,1),(19,1),(20,1),(21,1),(22,1),(23,1),(24,1),(25,0),(26,1)]) hS hap<|segF [(41,.agg #[vi 1,vi (N:Int),vi (g240:Int),vi r241,.slice ao850 (tkD q243 g240).length c851]),(45,vb ((ae_39:Int)==ae_39))] [.e (ν36 0),.e (ν36 0),.e (ν36 0),.e (ν36 0),.e (ν36 0)] tv fun ac hS=>?_;have hk56:((ae_39:Int)==ae_39)=true:=by exact beq_self_eq_true _
       replace hS:=hS.fix 45 (vb true) (congrArg Value.bool hk56);refine St.ordF [1,1,1] [5,6,7] [4,6,18,21,22,41,45] (rest:=[(8,1),(9,1),(10,1),(11,1),(12,1),(13,1),(14,1),(15,1),(16,1),(17,1),(18,1),(19,1),(20,1),(21,1),(22,1),(23,1),(24,1),(25,0),(26,1)]) hS hap<|segF [(48,vb ((ae_39:Int)!=0))] [.t true,.t true,.t true] tv fun ac hS=>?_;have hk57:((ae_39:Int)!=0)=false:=by(rw [hz5];rfl)
       replace hS:=hS.fix 48 (vb false) (congrArg Value.bool hk57);refine St.ordF [2,2,61,1] [8,9,10,11] [4,6,18,21,22,41,45] (rest:=[(12,1),(13,1),(14,1),(15,1),(16,1),(17,1),(18,1),(19,1),(20,1),(21,1),(22,1),(23,1),(24,1),(25,0),(26,1)]) hS hap<|segF [(52,vb false)] [.t true,.t true,.t false,.t false,.t false] tv fun ac hS=>?_;refine St.ordF [1,1,1] [12,13,14] [4,6,18,21,41,45,52] (rest:=[(15,1),(16,1),(17,1),(18,1),(19,1),(20,1),(21,1),(22,1),(23,1),(24,1),(25,0),(26,1)]) hS hap<|segF [(55,vb ((ae_39:Int)==0))] [.t false,.t false,.t false] tv fun ac hS=>?_;have hk58:((ae_39:Int)==0)=true:=by(rw [hz5];rfl)
       replace hS:=hS.fix 55 (vb true) (congrArg Value.bool hk58);refine St.ordF [1,1,1,201,21,21,1,71,61,70] [15,16,17,18,19,20,21,22,23,24] [6,41] (rest:=[(25,0),(26,1)]) hS hap<|segF [(65,vb ((ao_38:Int)==(((alI ao_38 ae_39)+1)*4096)))] [.t true,.t true,.t false,.t false,.t true,.t true,.t true,.p (fit .i64 (((alI ao_38 ae_39)+1)*4096)),.t true,.p (fit .i64 ((alI ao_38 ae_39)+1)),.t true,.e (ν1 0),.t true,.t true,.t true] ⟨zf6 (by omega),zf6 (by omega),tv⟩ fun ac hS=>?_;refine St.ord1 25 [300] [6,65] [0,1,2,4,5] hS rfl fun _=>seg [] [(0,none),(1,none),(2,none),(3,some ((ν1 2),.cells [vi 1,vi (N:Int),vi (g240:Int),vi r241,.slice ao850 (tkD q243 g240).length c851] 34)),(4,none),(5,none)] [.e (ν1 2),.e (ν1 2),.e (ν1 2),.e (ν1 2),.e (ν1 2)] trivial ⟨by as_aux_lemma=>kernel_rfl,fun ac wd hS=>?_⟩
       refine St.ordF [0] [26] [6] (rest:=[]) hS hap<|segF [(7,vb ((ao_38:Int)==(((alI ao_38 ae_39)+1)*4096)))] [] tv fun ac hS=>?_;refine zon ?_;refine wp_ret ?_;refine zpc ?_;refine zpr ?_;refine St.retC 3 hS (.tuple #[.agg #[vi 1,vi (N:Int),vi (g240:Int),vi r241,.slice ao850 (tkD q243 g240).length c851],vb ((ao_38:Int)==(((alI ao_38 ae_39)+1)*4096))]) [.e (ν1 2),.e (ν1 2),.e (ν1 2),.e (ν1 2),.e (ν1 2)] tv fun hw=>?_;refine⟨g240,r241,mo42,q243,Q244,ao850,c851,g852,o853,F45,retd (tuple2 rfl (vbool ?_)),?_,?_,?_,(by first|exact hv854|exact .inl hz_|(rw [←hD];exact hv854)|(rw [←hD];exact .inl hz_)),(hw.res 0),(by omega),(hw.get 4 g852 (zL (tkD q243 g240) o853)),(fun q_=>hw.free (g852,zL (tkD q243 g240) o853) (List.mem_of_getElem? (i:=4) (by as_aux_lemma=>kernel_rfl)) (.inl q_)),hw.frA⟩
       all_goals (first|(first|rfl|assumption|exact hB.refM n|exact hfl|exact FreeP.full hfl (by assumption)|exact hrh|exact gwR_le hrh|exact al_r (by assumption) hrh|exact imx_c n|exact imx_le hn|(rw [hpk9];exact beq_self_eq_true _)|exact beq_self_eq_true _|(rw [←hD];done)|(rw [←hD];exact hv9)|(intro x_ _ _;rw [←hD])|omega)|(intro x_ hx_;rfl)|(intro x_ hx_ hy_;rfl))
      ·
       have ha5:=al_a0 hA248 hz5;refine St.ordBeginS [(0,1),(1,1),(2,1),(3,1),(4,1),(5,1),(6,1),(7,1),(8,1),(9,1),(10,1),(11,1),(12,1),(13,1),(14,1),(15,1),(16,1),(17,1),(18,1),(19,1),(20,1),(21,1),(22,1),(23,1),(24,1),(25,0),(26,1)] [(1,.fn 0 64 dbT),(g9,zL L o9),((ν1 0),.cells [vi 1,vi (N:Int),vi (g:Int),vi r,.slice ao9 L.length c9] 34),(g852,zL (tkD q243 g240) o853),((ν36 0),.cells [vi 1,vi (N:Int),vi (g240:Int),vi r241,.slice ao850 (tkD q243 g240).length c851] 34)] [0,1,2,4,5] hS fun wd hS=>?_;have hap:=hS.mem.pairs (Hf:=[(1,.fn 0 64 dbT),(g9,zL L o9),((ν1 0),.cells [vi 1,vi (N:Int),vi (g:Int),vi r,.slice ao9 L.length c9] 34),(g852,zL (tkD q243 g240) o853),((ν36 0),.cells [vi 1,vi (N:Int),vi (g240:Int),vi r241,.slice ao850 (tkD q243 g240).length c851] 34)]) (l:=[0,1,2,4,5]);refine St.ordF [400,0,0,0,0] [0,1,2,3,4] [4,6,18,21,22] (rest:=[(5,1),(6,1),(7,1),(8,1),(9,1),(10,1),(11,1),(12,1),(13,1),(14,1),(15,1),(16,1),(17,1),(18,1),(19,1),(20,1),(21,1),(22,1),(23,1),(24,1),(25,0),(26,1)]) hS hap<|segF [(41,.agg #[vi 1,vi (N:Int),vi (g240:Int),vi r241,.slice ao850 (tkD q243 g240).length c851]),(45,vb ((ae_39:Int)==ae_39))] [.e (ν36 0),.e (ν36 0),.e (ν36 0),.e (ν36 0),.e (ν36 0)] tv fun ac hS=>?_;have hk59:((ae_39:Int)==ae_39)=true:=by exact beq_self_eq_true _
       replace hS:=hS.fix 45 (vb true) (congrArg Value.bool hk59);refine St.ordF [1,1,1] [5,6,7] [4,6,18,21,22,41,45] (rest:=[(8,1),(9,1),(10,1),(11,1),(12,1),(13,1),(14,1),(15,1),(16,1),(17,1),(18,1),(19,1),(20,1),(21,1),(22,1),(23,1),(24,1),(25,0),(26,1)]) hS hap<|segF [(48,vb ((ae_39:Int)!=0))] [.t true,.t true,.t true] tv fun ac hS=>?_;have hk60:((ae_39:Int)!=0)=true:=by exact bne_iff_ne.2 hz5
       replace hS:=hS.fix 48 (vb true) (congrArg Value.bool hk60);refine St.ordF [1,1,71,1] [8,9,10,11] [4,6,18,21,22,41,45] (rest:=[(12,1),(13,1),(14,1),(15,1),(16,1),(17,1),(18,1),(19,1),(20,1),(21,1),(22,1),(23,1),(24,1),(25,0),(26,1)]) hS hap<|segF [(52,vb ((ao_38:Int)==0))] [.t true,.t true,.t true,.t true,.t true] tv fun ac hS=>?_;have hk61:((ao_38:Int)==0)=true:=by(rw [ha5];rfl)
       replace hS:=hS.fix 52 (vb true) (congrArg Value.bool hk61);refine St.ordF [2,2,2] [12,13,14] [4,6,18,21,41,45,52] (rest:=[(15,1),(16,1),(17,1),(18,1),(19,1),(20,1),(21,1),(22,1),(23,1),(24,1),(25,0),(26,1)]) hS hap<|segF [(55,undef)] [.t true,.t true,.t true] tv fun ac hS=>?_;refine St.ordF [4,4,4,4,4,4,4,2,71,70] [15,16,17,18,19,20,21,22,23,24] [6,41] (rest:=[(25,0),(26,1)]) hS hap<|segF [(65,vb true)] [.t true,.t true,.t true,.t true,.u,.u,.u,.u,.u,.u,.u] tv fun ac hS=>?_;refine St.ord1 25 [300] [6,65] [0,1,2,4,5] hS rfl fun _=>seg [] [(0,none),(1,none),(2,none),(3,some ((ν1 2),.cells [vi 1,vi (N:Int),vi (g240:Int),vi r241,.slice ao850 (tkD q243 g240).length c851] 34)),(4,none),(5,none)] [.e (ν1 2),.e (ν1 2),.e (ν1 2),.e (ν1 2),.e (ν1 2)] trivial ⟨by as_aux_lemma=>kernel_rfl,fun ac wd hS=>?_⟩
       refine St.ordF [0] [26] [6] (rest:=[]) hS hap<|segF [(7,vb true)] [] tv fun ac hS=>?_;refine zon ?_;refine wp_ret ?_;refine zpc ?_;refine zpr ?_;refine St.retC 3 hS (.tuple #[.agg #[vi 1,vi (N:Int),vi (g240:Int),vi r241,.slice ao850 (tkD q243 g240).length c851],vb true]) [.e (ν1 2),.e (ν1 2),.e (ν1 2),.e (ν1 2),.e (ν1 2)] tv fun hw=>?_;refine⟨g240,r241,mo42,q243,Q244,ao850,c851,g852,o853,F45,retd rfl,?_,?_,?_,(by first|exact hv854|exact .inl hz_|(rw [←hD];exact hv854)|(rw [←hD];exact .inl hz_)),(hw.res 0),(by omega),(hw.get 4 g852 (zL (tkD q243 g240) o853)),(fun q_=>hw.free (g852,zL (tkD q243 g240) o853) (List.mem_of_getElem? (i:=4) (by as_aux_lemma=>kernel_rfl)) (.inl q_)),hw.frA⟩
       all_goals (first|(first|rfl|assumption|exact hB.refM n|exact hfl|exact FreeP.full hfl (by assumption)|exact hrh|exact gwR_le hrh|exact al_r (by assumption) hrh|exact imx_c n|exact imx_le hn|(rw [hpk9];exact beq_self_eq_true _)|exact beq_self_eq_true _|(rw [←hD];done)|(rw [←hD];exact hv9)|(intro x_ _ _;rw [←hD])|omega)|(intro x_ hx_;rfl)|(intro x_ hx_ hy_;rfl))
section
variable {m mo:AM}{N g y:Nat}{r:Int}{q q0 q2:List Tg}{Q:Nat→List Int}{x:Int}
end
end Go.Proofs.YtojjkjedcafpeaaGreatDoor.K
