import Derived.Test.YtojjkjedcafpeaaGreatDoorNa
namespace Go.Proofs.YtojjkjedcafpeaaGreatDoor.K
set_option linter.unusedSimpArgs false
set_option linter.unusedVariables false
def updQ (Q:Nat→List Int)(k:Nat)(L:List Int)(k':Nat):List Int:=if k'=k then L else Q k'
def insL (L:List Int)(at_:Int):List Int:=L.take (cntL L at_)++at_::L.drop (cntL L at_)
def remL (L:List Int)(at_:Int):List Int:=L.take (cntL L at_)++L.drop (cntL L at_+1)
theorem cntL_le (L:List Int)(at_:Int):cntL L at_≤L.length:=(cntL_up L at_).1.1
theorem insL_len (L:List Int)(at_:Int):(insL L at_).length=L.length+1:=by
  have:=cntL_le L at_
  unfold insL;simp;omega
theorem remL_len {L:List Int}{at_:Int}(h:cntL L at_<L.length):(remL L at_).length=L.length-1:=by
  unfold remL;simp;omega
theorem insL_get (L:List Int)(at_:Int)(i:Nat):(insL L at_).getD i 0=if i<cntL L at_ then L.getD i 0 else if i=cntL L at_ then at_ else L.getD (i-1) 0:=by
  have hl:=cntL_le L at_;have ht:(L.take (cntL L at_)).length=cntL L at_:=by rw [List.length_take];omega
  unfold insL
  simp only [List.getD_eq_getElem?_getD]
  by_cases h1:i<cntL L at_
  · rw [if_pos h1,List.getElem?_append_left (by omega),List.getElem?_take_of_lt h1]
  · rw [if_neg h1,List.getElem?_append_right (by omega),ht]
    by_cases h2:i=cntL L at_
    · rw [if_pos h2,h2,Nat.sub_self];rfl
    · rw [if_neg h2,show i-cntL L at_=(i-cntL L at_-1)+1 by omega,List.getElem?_cons_succ,List.getElem?_drop,show cntL L at_+(i-cntL L at_-1)=i-1 by omega]
theorem remL_get (L:List Int)(at_:Int)(i:Nat):(remL L at_).getD i 0=if i<cntL L at_ then L.getD i 0 else L.getD (i+1) 0:=by
  have hl:=cntL_le L at_;have ht:(L.take (cntL L at_)).length=cntL L at_:=by rw [List.length_take];omega
  unfold remL
  simp only [List.getD_eq_getElem?_getD]
  by_cases h1:i<cntL L at_
  · rw [if_pos h1,List.getElem?_append_left (by omega),List.getElem?_take_of_lt h1]
  · rw [if_neg h1,List.getElem?_append_right (by omega),ht,List.getElem?_drop,show cntL L at_+1+(i-cntL L at_)=i+1 by omega]
theorem insL_lt {L:List Int}{at_:Int}{i:Nat}(h:i<cntL L at_):(insL L at_).getD i 0=L.getD i 0:=by rw [insL_get,if_pos h]
theorem insL_eq (L:List Int)(at_:Int):(insL L at_).getD (cntL L at_) 0=at_:=by rw [insL_get,if_neg (Nat.lt_irrefl _),if_pos rfl]
theorem insL_gt {L:List Int}{at_:Int}{i:Nat}(h:cntL L at_<i):(insL L at_).getD i 0=L.getD (i-1) 0:=by rw [insL_get,if_neg (by omega),if_neg (by omega)]
theorem remL_lt {L:List Int}{at_:Int}{i:Nat}(h:i<cntL L at_):(remL L at_).getD i 0=L.getD i 0:=by rw [remL_get,if_pos h]
theorem remL_ge {L:List Int}{at_:Int}{i:Nat}(h:cntL L at_≤i):(remL L at_).getD i 0=L.getD (i+1) 0:=by rw [remL_get,if_neg (by omega)]
theorem prevI_le {L:List Int}{at_:Int} :∀ {i:Nat},i≤cntL L at_→prevL (insL L at_) i=prevL L i
  |0,_=>rfl
  |i+1,h=>insL_lt h
theorem prevI_eq (L:List Int)(at_:Int):prevL (insL L at_) (cntL L at_+1)=at_:=insL_eq L at_
theorem prevI_gt {L:List Int}{at_:Int} :∀ {i:Nat},cntL L at_+1<i→prevL (insL L at_) i=prevL L (i-1)
  |0,h=>absurd h (by omega)
  |1,h=>absurd h (by omega)
  |i+2,h=>insL_gt (i:=i+1) (by omega)
theorem prevR_le {L:List Int}{at_:Int} :∀ {i:Nat},i≤cntL L at_→prevL (remL L at_) i=prevL L i
  |0,_=>rfl
  |i+1,h=>remL_lt h
theorem prevR_gt {L:List Int}{at_:Int} :∀ {i:Nat},cntL L at_<i→prevL (remL L at_) i=prevL L (i+1)
  |0,h=>absurd h (by omega)
  |i+1,h=>remL_ge (i:=i) (by omega)
theorem mem_getD {L:List Int}{a:Int}(h:a∈L):∃i,i<L.length∧L.getD i 0=a:=by
  obtain⟨i,hi,rfl⟩:=List.mem_iff_getElem.1 h;exact⟨i,hi,by rw [List.getD_eq_getElem?_getD,List.getElem?_eq_getElem hi];rfl⟩
theorem insL_mem {L:List Int}{at_ a:Int}(h:a∈insL L at_):a=at_∨a∈L:=by
  unfold insL at h
  rcases List.mem_append.1 h with h|h
  · exact .inr (List.mem_of_mem_take h)
  · rcases List.mem_cons.1 h with h|h
    · exact .inl h
    · exact .inr (List.mem_of_mem_drop h)
theorem remL_mem {L:List Int}{at_ a:Int}(h:a∈remL L at_):a∈L:=by
  unfold remL at h
  rcases List.mem_append.1 h with h|h
  · exact List.mem_of_mem_take h
  · exact List.mem_of_mem_drop h
theorem rise_of {L:List Int}(h:∀i j,i<j→j<L.length→L.getD i 0<L.getD j 0):L.Pairwise (· < ·):=by
  rw [List.pairwise_iff_getElem];intro i j hi hj hij;have:=h i j hij hj
  rwa [List.getD_eq_getElem?_getD,List.getD_eq_getElem?_getD,List.getElem?_eq_getElem hi,List.getElem?_eq_getElem hj]at this
theorem insL_rise {L:List Int}{at_:Int}(h:L.Pairwise (· < ·))(hn:∀a,a∈L→a≠at_):(insL L at_).Pairwise (· < ·):=by
  obtain⟨⟨u1,u2⟩,u3⟩:=cntL_up L at_
  have up:∀j,cntL L at_≤j→j<L.length→at_<L.getD j 0:=fun j h1 h2=>by
    have hne:=hn _ (getD_mem0 (i:=cntL L at_) (by omega));have:at_<L.getD (cntL L at_) 0:=by omega
    rcases Nat.lt_or_ge (cntL L at_) j with q|q
    · have:=rise_lt h q h2;omega
    · rw [show j=cntL L at_ by omega];exact this
  refine rise_of fun i j hij hj=>?_;rw [insL_len]at hj
  rcases Nat.lt_trichotomy i (cntL L at_)with hi|hi|hi
  · rw [insL_lt hi]
    rcases Nat.lt_trichotomy j (cntL L at_)with hj1|hj1|hj1
    · rw [insL_lt hj1];exact rise_lt h hij (by omega)
    · rw [hj1,insL_eq];exact u2 i hi
    · rw [insL_gt hj1];exact rise_lt h (by omega) (by omega)
  · rw [hi,insL_eq,insL_gt (by omega)]
    exact up _ (by omega) (by omega)
  · rw [insL_gt hi,insL_gt (by omega)]
    exact rise_lt h (by omega) (by omega)
theorem remL_rise {L:List Int}{at_:Int}(h:L.Pairwise (· < ·))(hc:cntL L at_<L.length):(remL L at_).Pairwise (· < ·):=by
  refine rise_of fun i j hij hj=>?_;rw [remL_len hc]at hj
  rcases Nat.lt_or_ge i (cntL L at_)with hi|hi
  · rw [remL_lt hi]
    rcases Nat.lt_or_ge j (cntL L at_)with hj1|hj1
    · rw [remL_lt hj1];exact rise_lt h hij (by omega)
    · rw [remL_ge hj1];exact rise_lt h (by omega) (by omega)
  · rw [remL_ge hi,remL_ge (by omega)]
    exact rise_lt h (by omega) (by omega)
def PlaceL (n:Nat)(Q:Nat→List Int)(k:Nat)(x:Int):Prop:=k<n∧(x=0∨x∈Q k)
section
variable {m:AM}{o z:Int}{n:Nat}{Q:Nat→List Int}
theorem place_prev (Q:Nat→List Int){k i:Nat}(hk:k<n)(hi:i≤(Q k).length):PlaceL n Q k (prevL (Q k) i):=by
  refine⟨hk,?_⟩
  cases i with
  |zero=>exact .inl rfl
  |succ i=>exact .inr (getD_mem0 (by omega))
theorem LQ.pl (h:LQ m o z n Q){k:Nat}{x:Int}(hp:PlaceL n Q k x):0≤x∧x≤4611686018427387904∧thr m (wherL o (k:Int) x) 8=true∧(0≤(k:Int)∧8*(k:Int)+8≤z)∧(x=0→wherL o (k:Int) x=o+8*(k:Int))∧(x≠0→wherL o (k:Int) x=x∧o+z≤x):=by
  have hr:=h.room;have hk:=hp.1
  unfold wherL
  by_cases h0:x=0
  · rw [if_pos h0]
    exact⟨by omega,by omega,thr_sub h.there (by omega) (by omega) (by decide),by omega,fun _=>rfl,fun q=>absurd h0 q⟩
  · rw [if_neg h0]
    have hm:=h.mem k hk x (hp.2.resolve_left h0);exact⟨by omega,hm.2.2.2,thr_sub hm.2.1 (by omega) (by omega) (by decide),by omega,fun q=>absurd q h0,fun _=>⟨rfl,hm.1⟩⟩
theorem LQ.two (h:LQ m o z n Q){k k':Nat}{x x':Int}(hp:PlaceL n Q k x)(hp':PlaceL n Q k' x')(hne:¬(k=k'∧x=x')):wherL o (k:Int) x+8≤wherL o (k':Int) x'∨wherL o (k':Int) x'+8≤wherL o (k:Int) x:=by
  obtain⟨a1,a2,a3,a4,a5,a6⟩:=h.pl hp;obtain⟨b1,b2,b3,b4,b5,b6⟩:=h.pl hp'
  by_cases h0:x=0
  · have e:=a5 h0
    by_cases h0':x'=0
    · have e':=b5 h0'
      rw [e,e'];have:k≠k':=fun q=>hne ⟨q,by omega⟩
      omega
    · have e':=b6 h0';omega
  · have e:=a6 h0
    by_cases h0':x'=0
    · have e':=b5 h0';omega
    · have e':=b6 h0'
      rcases h.apart k k' hp.1 hp'.1 x x' (hp.2.resolve_left h0) (hp'.2.resolve_left h0')with q|q|q
      · exact absurd ⟨q.2,q.1⟩ hne
      · omega
      · omega
theorem LQ.b8 (h:LQ m o z n Q){k k':Nat}{x b:Int}(hp:PlaceL n Q k x)(hk:k'<n)(hb:b∈Q k'):wherL o (k:Int) x+8≤b+8∨b+16≤wherL o (k:Int) x:=by
  obtain⟨a1,a2,a3,a4,a5,a6⟩:=h.pl hp;have hm:=h.mem k' hk b hb
  by_cases h0:x=0
  · have e:=a5 h0;omega
  · have e:=a6 h0
    rcases h.apart k k' hp.1 hk x b (hp.2.resolve_left h0) hb with q|q|q
    · omega
    · omega
    · omega
theorem LQ.keep {m':AM}(h:LQ m o z n Q)(hc:m'.cap=m.cap)(hm:m'.com=m.com){k:Nat}{x:Int}(hp:PlaceL n Q k x)(hy:∀y:Nat,wherL o (k:Int) x≤(y:Int)→(y:Int)<wherL o (k:Int) x+8→m'.mem y=m.mem y):lnx m' o z (k:Int) x=lnx m o z (k:Int) x:=by
  obtain⟨a1,a2,a3,a4,a5,a6⟩:=h.pl hp;refine lnx_keep hc hm (fun h0 y y1 y2=>hy y ?_ ?_) (fun h0 y y1 y2=>hy y ?_ ?_)
  · rw [a5 h0];exact y1
  · rw [a5 h0];exact y2
  · rw [(a6 h0).1];exact y1
  · rw [(a6 h0).1];exact y2
theorem prevL_ne {L:List Int}(h:L.Pairwise (· < ·))(hp:∀a,a∈L→0<a){i j:Nat}(hij:i≠j)(hi:i≤L.length)(hj:j≤L.length):prevL L i≠prevL L j:=by
  have key:∀i j,i<j→j≤L.length→prevL L i≠prevL L j:=fun i j hij hj=>by
    cases j with
    |zero=>omega
    |succ j=>
      have hpj:=hp _ (getD_mem0 (i:=j) (by omega))
      cases i with
      |zero=>show(0:Int)≠L.getD j 0;omega
      |succ i=>
        have:=rise_lt h (i:=i) (j:=j) (by omega) (by omega)
        show L.getD i 0≠L.getD j 0;omega
  rcases Nat.lt_or_ge i j with q|q
  · exact key i j q hj
  · exact(key j i (by omega) hi).symm
theorem LQ.add (h:LQ m o z n Q){k:Nat}(hk:k<n){at_:Int}(ha:o+z≤at_∧thr m at_ 16=true∧0<at_∧at_≤4611686018427387904)(hn:∀k',k'<n→∀a,a∈Q k'→a+16≤at_∨at_+16≤a):
    LQ (ljM (ljM m o z (k:Int) at_ ((Q k).getD (cntL (Q k) at_) 0)) o z (k:Int) (prevL (Q k) (cntL (Q k) at_)) at_) o z n (updQ Q k (insL (Q k) at_)):=by
  have hjl:=cntL_le (Q k) at_;have hpa:=place_prev Q hk hjl
  generalize hj:cntL (Q k) at_=j at*
  obtain⟨a1,a2,a3,a4,a5,a6⟩:=h.pl hpa;have hwa:wherL o (k:Int) at_=at_:=by unfold wherL;rw [if_neg (by omega)]
  have hta:thr m (wherL o (k:Int) at_) 8=true:=by rw [hwa];exact thr_sub ha.2.1 (by omega) (by omega) (by decide)
  have hb:(Q k).getD j 0=0∨((Q k).getD j 0∈Q k∧j<(Q k).length):=by
    rcases Nat.lt_or_ge j (Q k).length with q|q
    · exact .inr ⟨getD_mem0 q,q⟩
    · exact .inl (getD_out0 q)
  generalize hbe:(Q k).getD j 0=b at*
  have hbm:b≠0→o+z≤b∧thr m b 16=true∧0<b∧b≤4611686018427387904:=fun q=>h.mem k hk b (hb.resolve_left q).1
  have hbr:0≤b∧b≤9223372036854775799:=by by_cases q:b=0;omega;have:=hbm q;omega
  have hb8:b≠0→thr m (b+8) 8=true:=fun q=>thr_sub (hbm q).2.1 (by omega) (by omega) (by decide)
  have hbn:b≠0→b+16≤at_∨at_+16≤b:=fun q=>hn k hk b (hb.resolve_left q).1
  have c1:=ljM_com m o z (k:Int) at_ b;have l1:lnx (ljM m o z (k:Int) at_ b) o z (k:Int) at_=b:=ljM_at (by omega) hbr a4 hta hb8 (fun q=>by rw [hwa];have:=hbn q;omega);have f1:∀y:Nat,((y:Int)<at_∨at_+8≤(y:Int))→(b≠0→(y:Int)<b+8∨b+16≤(y:Int))→(ljM m o z (k:Int) at_ b).mem y=m.mem y:=fun y h1 h2=>ljM_far (by omega) hbr a4 hta hb8 (by rw [hwa];exact h1) h2
  generalize ljM m o z (k:Int) at_ b=m1 at*
  have ht1:thr m1 (wherL o (k:Int) (prevL (Q k) j)) 8=true:=(thr_same c1.1 c1.2 _ _).trans a3;have ht8:at_≠0→thr m1 (at_+8) 8=true:=fun _=>(thr_same c1.1 c1.2 _ _).trans (thr_sub ha.2.1 (by omega) (by omega) (by decide))
  have new:∀ {k':Nat} {x:Int},PlaceL n Q k' x→wherL o (k':Int) x+8≤at_∨at_+16≤wherL o (k':Int) x:=fun {k' x} hp=>by
    obtain⟨b1,b2,b3,b4,b5,b6⟩:=h.pl hp
    by_cases h0:x=0
    · have e:=b5 h0;omega
    · have e:=b6 h0
      have:=hn k' hp.1 x (hp.2.resolve_left h0);omega
  have hpn:=new hpa;have c2:=ljM_com m1 o z (k:Int) (prevL (Q k) j) at_;have l2:lnx (ljM m1 o z (k:Int) (prevL (Q k) j) at_) o z (k:Int) (prevL (Q k) j)=at_:=ljM_at (by omega) (by omega) a4 ht1 ht8 (fun _=>by omega);have f2:∀y:Nat,((y:Int)<wherL o (k:Int) (prevL (Q k) j)∨wherL o (k:Int) (prevL (Q k) j)+8≤(y:Int))→((y:Int)<at_+8∨at_+16≤(y:Int))→(ljM m1 o z (k:Int) (prevL (Q k) j) at_).mem y=m1.mem y:=fun y h1 h2=>ljM_far (by omega) (by omega) a4 ht1 ht8 h1 (fun _=>h2)
  have l3:lnx (ljM m1 o z (k:Int) (prevL (Q k) j) at_) o z (k:Int) at_=b:=by
    refine(lnx_keep c2.1 c2.2 (fun h0=>absurd h0 (by omega)) (fun h0 y y1 y2=>f2 y (by omega) (by omega))).trans l1
  generalize ljM m1 o z (k:Int) (prevL (Q k) j) at_=m2 at*
  have cc:m2.cap=m.cap∧m2.com=m.com:=⟨c2.1.trans c1.1,c2.2.trans c1.2⟩
  have rest:∀ {k':Nat} {x:Int},PlaceL n Q k' x→¬(k'=k∧x=prevL (Q k) j)→lnx m2 o z (k':Int) x=lnx m o z (k':Int) x:=fun {k' x} hp hne=>by
    have t1:=h.two hp hpa hne;have t2:=new hp;refine h.keep cc.1 cc.2 hp fun y y1 y2=>?_;rw [f2 y (by omega) (by omega)];refine f1 y (by omega) fun q=>?_;have:=h.b8 hp hk (hb.resolve_left q).1;omega
  have hpos:∀a,a∈Q k→0<a:=fun a hm=>(h.mem k hk a hm).2.2.1
  refine⟨(thr_same cc.1 cc.2 _ _).trans h.there,h.o0,h.room,fun k' hk' a hm=>?_,fun k1 k2 h1 h2 a a' hm hm'=>?_,fun k' hk'=>?_,fun k' hk'=>?_⟩
  · rw [thr_same cc.1 cc.2]
    unfold updQ at hm
    split at hm
    · rcases insL_mem hm with rfl|q
      · exact ha
      · exact h.mem k hk a q
    · exact h.mem k' hk' a hm
  · have mk:∀ {k':Nat} {a:Int},a∈updQ Q k (insL (Q k) at_) k'→(k'=k∧a=at_)∨a∈Q k':=fun {k' a} hm=>by
      unfold updQ at hm
      split at hm
      · rename_i e;subst e
        rcases insL_mem hm with q|q
        · exact .inl ⟨rfl,q⟩
        · exact .inr q
      · exact .inr hm
    rcases mk hm with⟨e1,e2⟩|q1
    · rcases mk hm' with⟨e3,e4⟩|q2
      · exact .inl ⟨by omega,by omega⟩
      · have:=hn k2 h2 a' q2;omega
    · rcases mk hm' with⟨e3,e4⟩|q2
      · have:=hn k1 h1 a q1;omega
      · exact h.apart k1 k2 h1 h2 a a' q1 q2
  · unfold updQ
    split
    · exact insL_rise (h.rise k hk) fun a hm q=>by have:=hn k hk a hm;omega
    · exact h.rise k' hk'
  · unfold updQ
    by_cases e:k'=k
    · subst e
      rw [if_pos rfl];intro i hi;rw [insL_len]at hi;subst hj
      rcases Nat.lt_trichotomy i (cntL (Q k') at_)with h1|h1|h1
      · rw [prevI_le (by omega),insL_lt h1,rest (place_prev Q hk (by omega)) (fun q=>prevL_ne (h.rise k' hk) hpos (by omega) (by omega) hjl q.2)]
        exact h.chain k' hk i (by omega)
      · rw [h1,prevI_le (Nat.le_refl _),insL_eq]
        exact l2
      · by_cases h2:i=cntL (Q k') at_+1
        · rw [h2,prevI_eq,insL_gt (by omega),show cntL (Q k') at_+1-1=cntL (Q k') at_ by omega,hbe]
          exact l3
        · rw [prevI_gt (by omega),insL_gt h1,rest (place_prev Q hk (by omega)) (fun q=>prevL_ne (h.rise k' hk) hpos (by omega) (by omega) hjl q.2)]
          exact h.chain k' hk (i-1) (by omega)
    · rw [if_neg e]
      intro i hi;rw [rest (place_prev Q hk' hi) (fun q=>e q.1)];exact h.chain k' hk' i hi
theorem LQ.rem (h:LQ m o z n Q){k:Nat}(hk:k<n){at_:Int}(hj0:cntL (Q k) at_<(Q k).length):
    LQ (ljM m o z (k:Int) (prevL (Q k) (cntL (Q k) at_)) ((Q k).getD (cntL (Q k) at_+1) 0)) o z n (updQ Q k (remL (Q k) at_)):=by
  have hjl:=cntL_le (Q k) at_;have hpa:=place_prev Q hk hjl;have hrr:=remL_rise (h.rise k hk) hj0;have hrl:=remL_len hj0
  generalize hj:cntL (Q k) at_=j at*
  obtain⟨a1,a2,a3,a4,a5,a6⟩:=h.pl hpa
  have hb:(Q k).getD (j+1) 0=0∨((Q k).getD (j+1) 0∈Q k∧j+1<(Q k).length):=by
    rcases Nat.lt_or_ge (j+1) (Q k).length with q|q
    · exact .inr ⟨getD_mem0 q,q⟩
    · exact .inl (getD_out0 q)
  generalize hbe:(Q k).getD (j+1) 0=b at*
  have hbm:b≠0→o+z≤b∧thr m b 16=true∧0<b∧b≤4611686018427387904:=fun q=>h.mem k hk b (hb.resolve_left q).1
  have hbr:0≤b∧b≤9223372036854775799:=by by_cases q:b=0;omega;have:=hbm q;omega
  have hb8:b≠0→thr m (b+8) 8=true:=fun q=>thr_sub (hbm q).2.1 (by omega) (by omega) (by decide)
  have cc:=ljM_com m o z (k:Int) (prevL (Q k) j) b;have l1:lnx (ljM m o z (k:Int) (prevL (Q k) j) b) o z (k:Int) (prevL (Q k) j)=b:=ljM_at (by omega) hbr a4 a3 hb8 (fun q=>h.b8 hpa hk (hb.resolve_left q).1);have f1:∀y:Nat,((y:Int)<wherL o (k:Int) (prevL (Q k) j)∨wherL o (k:Int) (prevL (Q k) j)+8≤(y:Int))→(b≠0→(y:Int)<b+8∨b+16≤(y:Int))→(ljM m o z (k:Int) (prevL (Q k) j) b).mem y=m.mem y:=fun y h1 h2=>ljM_far (by omega) hbr a4 a3 hb8 h1 h2
  generalize ljM m o z (k:Int) (prevL (Q k) j) b=m1 at*
  have rest:∀ {k':Nat} {x:Int},PlaceL n Q k' x→¬(k'=k∧x=prevL (Q k) j)→lnx m1 o z (k':Int) x=lnx m o z (k':Int) x:=fun {k' x} hp hne=>by
    have t1:=h.two hp hpa hne;refine h.keep cc.1 cc.2 hp fun y y1 y2=>f1 y (by omega) fun q=>?_;have:=h.b8 hp hk (hb.resolve_left q).1;omega
  have hpos:∀a,a∈Q k→0<a:=fun a hm=>(h.mem k hk a hm).2.2.1
  have mk:∀ {k':Nat} {a:Int},a∈updQ Q k (remL (Q k) at_) k'→a∈Q k':=fun {k' a} hm=>by
    unfold updQ at hm
    split at hm
    · rename_i e;subst e;exact remL_mem hm
    · exact hm
  refine⟨(thr_same cc.1 cc.2 _ _).trans h.there,h.o0,h.room,fun k' hk' a hm=>?_,fun k1 k2 h1 h2 a a' hm hm'=>h.apart k1 k2 h1 h2 a a' (mk hm) (mk hm'),fun k' hk'=>?_,fun k' hk'=>?_⟩
  · rw [thr_same cc.1 cc.2];exact h.mem k' hk' a (mk hm)
  · unfold updQ
    split
    · exact hrr
    · exact h.rise k' hk'
  · unfold updQ
    by_cases e:k'=k
    · subst e
      rw [if_pos rfl];intro i hi;rw [hrl]at hi;subst hj
      rcases Nat.lt_trichotomy i (cntL (Q k') at_)with h1|h1|h1
      · rw [prevR_le (by omega),remL_lt h1,rest (place_prev Q hk (by omega)) (fun q=>prevL_ne (h.rise k' hk) hpos (by omega) (by omega) hjl q.2)]
        exact h.chain k' hk i (by omega)
      · rw [h1,prevR_le (Nat.le_refl _),remL_ge (Nat.le_refl _),hbe]
        exact l1
      · rw [prevR_gt h1,remL_ge (by omega),rest (place_prev Q hk (by omega)) (fun q=>prevL_ne (h.rise k' hk) hpos (by omega) (by omega) hjl q.2)]
        exact h.chain k' hk (i+1) (by omega)
    · rw [if_neg e]
      intro i hi;rw [rest (place_prev Q hk' hi) (fun q=>e q.1)];exact h.chain k' hk' i hi
end
end Go.Proofs.YtojjkjedcafpeaaGreatDoor.K
