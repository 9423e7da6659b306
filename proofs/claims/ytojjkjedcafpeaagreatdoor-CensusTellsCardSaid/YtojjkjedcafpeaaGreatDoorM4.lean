import Derived.Test.YtojjkjedcafpeaaGreatDoorM3
import Derived.Test.YtojjkjedcafpeaaGreatDoorProg
set_option maxRecDepth 100000
set_option maxHeartbeats 1000000
namespace Go.Proofs.YtojjkjedcafpeaaGreatDoor.K
set_option linter.unusedSimpArgs false
set_option linter.unusedVariables false
def GrV (e:TypeId)(sz:Nat)(w:World)(v:Value)(F:Nat→Prop)(n:Nat)(f:Nat→Value):Prop:=
  (v=vnil∧n=0∧∀k,¬F k)∨∃g cap,v=sc g 0 n cap∧0<n∧HE.holds w g (.row e (n*sz) (cap*sz) f)∧n≤cap∧∀k,F k↔k=g
theorem GrV.slice {e:TypeId}{sz:Nat}{w:World}{v:Value}{F:Nat→Prop}{n:Nat}{f:Nat→Value}(h:GrV e sz w v F n f):∃x c,v=.slice x n c:=by
  rcases h with⟨rfl,rfl,_⟩|⟨g,cap,rfl,_⟩
  · exact⟨none,0,rfl⟩
  · exact⟨_,_,rfl⟩
def grR (e:TypeId)(sz:Nat)(v:Value)(F:Nat→Prop)(q:Nat×(Nat→Value)):Res:=⟨F,fun w=>GrV e sz w v F q.1 q.2,fun w h k hk=>by
  rcases h with⟨_,_,h⟩|⟨g,cap,_,_,h,_,hF⟩
  · exact absurd hk (h k)
  · rw [(hF k).1 hk];exact h.lt,fun w w' h he=>by
  rcases h with h|⟨g,cap,h1,h2,h3,h4,hF⟩
  · exact .inl h
  · exact .inr ⟨g,cap,h1,h2,h3.congr (he g ((hF g).2 rfl)),h4,hF⟩⟩
theorem grow_fits {n cap bytes:Nat}(h:cap<n+1)(hb:bytes≤64)(hn:n+1≤2^32):Builtin.nextslicecap (n+1) cap*bytes≤281474976710656:=growslice_fits (by omega) (by
  have:(n+1)*bytes≤2^32*64:=Nat.mul_le_mul hn hb
  omega)
section
variable {P:Program}{c:Cx}{n:Nat}{E:Env}{H:Heap}{A:List Res}{a:Act}{w:World}{o:Oper}
theorem gr_room {e:TypeId}{sz:Nat}{w:World}{g cap n:Nat}{f:Nat→Value}(hrow:HE.holds w g (.row e (n*sz) (cap*sz) f))(hr:n+1≤cap){news:List Value}(hl:news.length=sz):
    ∃cur,w.heap[g]? =some (.cells cur e (0,0))∧cur.size=cap*sz∧n*sz+news.length≤cur.size∧
      HE.holds (w.setRow g (cur.toList.take (n*sz)++news++cur.toList.drop (n*sz+news.length)).toArray) g (.row e ((n+1)*sz) (cap*sz) (appF f (n*sz) news)):=by
  obtain⟨cur,hc,hsz,hnt,hf⟩:=hrow;have hcl:cur.toList.length=cap*sz:=by simpa using hsz
  have hm:(n+1)*sz≤cap*sz:=Nat.mul_le_mul_right _ hr;have hm2:(n+1)*sz=n*sz+sz:=Nat.succ_mul n sz;refine⟨cur,hc,hsz,by omega,⟨_,setRow_heap w g cur _ e _ hc,?_,hm,fun x hx=>?_⟩⟩
  · simp only [List.size_toArray,List.length_append,List.length_take,List.length_drop,hcl]
    omega
  · rw [List.getElem?_toArray]
    unfold appF
    by_cases hx2:x<n*sz
    · rw [if_pos hx2,List.append_assoc,List.getElem?_append_left (by rw [List.length_take,hcl];omega),List.getElem?_take_of_lt hx2,Array.getElem?_toList]
      exact hf x hx2
    · rw [if_neg hx2,List.append_assoc,List.getElem?_append_right (by rw [List.length_take,hcl];omega),List.length_take,hcl,show min (n*sz) (cap*sz)=n*sz by omega,List.getElem?_append_left (by omega),List.getD_eq_getElem?_getD,List.getElem?_eq_getElem (by omega)]
      rfl
theorem St.appV {K:Act→World→Prop}{v:Value}{Fv:Nat→Prop}{m sz:Nat}{f:Nat→Value}{e:TypeId}(j:Nat)(hS:St c n E H A a w)(x y:Operand)(t:TypeId)(ho:o.op=.call { callee:=.builtin .append,args:=#[x,y],argTypes:=#[t,t] }){d:Nat}(hd:o.dst=some d)(hdn:d<n){z:Value}{i:TypeInfo}(ht:P.underlying t=some (.slice e))(hi:P.info? e=some i)(hz:i.zero=some z)(h1:i.size=sz)(hby:i.bytes≤64)(hzc:z.cells.size=sz)(hsz:0<sz)
    {bx cx:Nat} {news:List Value} {Tx:TypeId} (ix:Nat) (hone:news.all (fun u=>u.oneCell')=true) (hl:news.length=sz) (hn:m+1≤2^32)
    (h:∀a' w' v' F',GrV e sz w' v' F' (m+1) (appF f (m*sz) news)→St c n (putE E d [] v') H (A.set j (grR e sz v' F' (m+1,appF f (m*sz) news))) a' w'→K a' w')
    (hj:A[j]? =some (grR e sz v Fv (m,f)):=by rfl) (hbx:H[ix]? =some (bx,.cells news Tx):=by as_aux_lemma=>kernel_rfl)
    (hok:okO E [] x=true:=by as_aux_lemma=>kernel_rfl) (hok2:okO E [] y=true:=by as_aux_lemma=>kernel_rfl) (hx:rho E x=v:=by as_aux_lemma=>kernel_rfl) (hy:rho E y=sc bx 0 1 cx:=by as_aux_lemma=>kernel_rfl):Runs1 P o a w K:=by
  have hB:GrV e sz w v Fv m f:=hS.mem.ars.each _ (List.mem_of_getElem? hj);have hxh:w.heap[bx]? =some (.cells news.toArray Tx (0,0)):=hS.mem.heap _ (List.mem_of_getElem? hbx)
  have hcell:∀j u,news[j]? =some u→w.cell? ((⟨bx,0,none⟩:Addr).add j)=some u:=by
    intro j u hj;rw [addr_add _ rfl,Nat.zero_add]
    unfold World.cell?
    simp only [hxh]
    simpa using hj
  have hone':∀u∈news,u.oneCell'=true:=fun u hu=>List.all_eq_true.1 hone u hu
  rcases hB with⟨rfl,rfl,hF⟩|⟨gb,cap,rfl,h0,hrow,hcap,hF⟩
  · have hr:=run_append_nil (P:=P) (w:=w) t o.type e i z ht hi hz ⟨bx,0,none⟩ 1 cx news (by omega) hcell (by omega) (by omega) (by omega)
    have hge:=grownCap_ge w 1 0 e
    have hh:GrV e sz (w.drew.alloc (.cells (news.toArray++Builtin.zeroCells z.cells (grownCap w 1 0 e-1)) e (0,0))) (sc w.heap.size 0 1 (grownCap w 1 0 e)) (one w.heap.size) (0+1) (appF f (0*sz) news):=by
      refine .inr ⟨w.heap.size,grownCap w 1 0 e,rfl,by omega,⟨_,alloc_at _ _,?_,Nat.mul_le_mul_right _ hge,fun x hx=>?_⟩,hge,fun q=>Iff.rfl⟩
      · simp only [Array.size_append,List.size_toArray,size_zeroCells,hzc,hl]
        have h1:1*sz≤grownCap w 1 0 e*sz:=Nat.mul_le_mul_right _ hge;have h2:(grownCap w 1 0 e-1)*sz=grownCap w 1 0 e*sz-1*sz:=Nat.mul_sub_right_distrib _ _ _;have h3:sz*(grownCap w 1 0 e-1)=(grownCap w 1 0 e-1)*sz:=Nat.mul_comm _ _;omega
      · rw [Array.getElem?_append_left (by simp;omega)]
        unfold appF
        rw [Nat.zero_mul,if_neg (by omega),Nat.sub_zero,List.getElem?_toArray,List.getD_eq_getElem?_getD,List.getElem?_eq_getElem (by omega)]
        rfl
    refine⟨_,_,append_run ho (by rw [eval1 hS hok,eval1 hS hok2,hx,hy];exact hr),?_⟩;rw [hd];have hA:=hS.mem.stepA j (r':=grR e sz (sc w.heap.size 0 1 (grownCap w 1 0 e)) (one w.heap.size) (0+1,appF f (0*sz) news)) hj hh ((Fr.alloc w _).to (fun k hk=>hk.elim) (fun q hq=>.inr (by rw [show q=w.heap.size from hq];exact Nat.le_refl _)));exact h _ _ _ _ hh ((hS.to hA).put hdn)
  · by_cases hroom:m+1≤cap
    · obtain⟨cur,hc,hcs,hfit,hh⟩:=gr_room hrow hroom hl
      have hr:=run_append_room (P:=P) w t o.type e i ht hi gb m cap cur hc ⟨bx,0,none⟩ 1 cx news (by rw [h1,Nat.one_mul];exact hl) hcell hone' hroom (by rw [h1];exact hfit);rw [h1]at hr;have hh2:GrV e sz (w.setRow gb (cur.toList.take (m*sz)++news++cur.toList.drop (m*sz+news.length)).toArray) (sc gb 0 (m+1) cap) (one gb) (m+1) (appF f (m*sz) news):=.inr ⟨gb,cap,rfl,by omega,hh,hroom,fun q=>Iff.rfl⟩;refine⟨_,_,append_run ho (by rw [eval1 hS hok,eval1 hS hok2,hx,hy];exact hr),?_⟩;rw [hd];have hA:=hS.mem.stepA j (r':=grR e sz (sc gb 0 (m+1) cap) (one gb) (m+1,appF f (m*sz) news)) hj hh2 ⟨rfl,rfl,rfl,by simp,fun q hq hn=>setRow_other w gb q _ (fun e=>hn ((hF q).2 e)),fun q hq=>.inl ((hF q).2 hq)⟩;exact h _ _ _ _ hh2 ((hS.to hA).put hdn)
    · obtain⟨cur,hc,hcs,hnt,hf⟩:=id hrow
      have hmc:m=cap:=by omega
      have hol:((List.range (m*sz)).map f).length=m*i.size:=by simp [h1]
      have hold:∀j v,((List.range (m*sz)).map f)[j]? =some v→w.cell? ((⟨gb,0,none⟩:Addr).add j)=some v:=by
        intro j v hj
        have hjn:j<m*sz:=by
          have:=(List.getElem?_eq_some_iff.1 hj).1
          simpa using this
        rw [List.getElem?_map,List.getElem?_range hjn]at hj
        simp only [Option.map_some,Option.some.injEq]at hj
        subst hj;rw [addr_add _ rfl,Nat.zero_add]
        unfold World.cell?
        simp only [hc]
        exact hf _ hjn
      have hr:=run_append_grow (P:=P) (w:=w) t o.type e i z ht hi hz ⟨gb,0,none⟩ m cap _ hol hold ⟨bx,0,none⟩ 1 cx news (by rw [h1,Nat.one_mul];exact hl) hcell (by omega) (by omega) (grow_fits (by omega) hby hn);have hge:=grownCap_ge w (m+1) cap e;have hm2:(m+1)*sz=m*sz+sz:=Nat.succ_mul m sz;have hml:(m+1)*sz≤grownCap w (m+1) cap e*sz:=Nat.mul_le_mul_right _ hge
      have hh2:GrV e sz (w.drew.alloc (.cells (((List.range (m*sz)).map f).toArray++news.toArray++Builtin.zeroCells z.cells (grownCap w (m+1) cap e-(m+1))) e (0,0))) (sc w.heap.size 0 (m+1) (grownCap w (m+1) cap e)) (one w.heap.size) (m+1) (appF f (m*sz) news):=by
        refine .inr ⟨w.heap.size,_,rfl,by omega,⟨_,alloc_at _ _,?_,hml,fun x hx=>?_⟩,hge,fun q=>Iff.rfl⟩
        · simp only [Array.size_append,List.size_toArray,List.length_map,List.length_range,size_zeroCells,hzc,hl]
          have:(grownCap w (m+1) cap e-(m+1))*sz=grownCap w (m+1) cap e*sz-(m+1)*sz:=Nat.mul_sub_right_distrib _ _ _;have h3:sz*(grownCap w (m+1) cap e-(m+1))=(grownCap w (m+1) cap e-(m+1))*sz:=Nat.mul_comm _ _;omega
        · have hx1:x<(((List.range (m*sz)).map f).toArray++news.toArray).size:=by simp [hl];omega
          rw [Array.getElem?_append_left hx1]
          unfold appF
          by_cases hx2:x<m*sz
          · rw [if_pos hx2,Array.getElem?_append_left (by simpa using hx2)]
            simp [hx2]
          · rw [if_neg hx2,Array.getElem?_append_right (by simp;omega)]
            simp only [List.size_toArray,List.length_map,List.length_range,List.getElem?_toArray]
            rw [List.getD_eq_getElem?_getD,List.getElem?_eq_getElem (by omega)]
            rfl
      refine⟨_,_,append_run ho (by rw [eval1 hS hok,eval1 hS hok2,hx,hy];exact hr),?_⟩;rw [hd];have hA:=hS.mem.stepA j (r':=grR e sz (sc w.heap.size 0 (m+1) (grownCap w (m+1) cap e)) (one w.heap.size) (m+1,appF f (m*sz) news)) hj hh2 ((Fr.alloc w _).to (fun k hk=>hk.elim) (fun q hq=>.inr (by rw [show q=w.heap.size from hq];exact Nat.le_refl _)));exact h _ _ _ _ hh2 ((hS.to hA).put hdn)
theorem WS.grNew (h:WS c H A w)(e:TypeId)(sz:Nat)(f:Nat→Value):WS c H (A++[grR e sz vnil no (0,f)]) w:=
  h.newA (r:=grR e sz vnil no (0,f)) (.inl ⟨rfl,rfl,fun _ h=>h⟩) ((Fr.refl w no).to (fun k hk=>hk.elim) (fun k hk=>hk.elim))
theorem WS.grTell {e:TypeId}{sz m:Nat}{v:Value}{F:Nat→Prop}{f:Nat→Value}(h:WS c H A w)(j:Nat)(f':Nat→Value)(hf:∀x,x<m*sz→f x=f' x)(hj:A[j]? =some (grR e sz v F (m,f)):=by rfl):WS c H (A.set j (grR e sz v F (m,f'))) w:=by
  have hB:GrV e sz w v F m f:=h.ars.each _ (List.mem_of_getElem? hj);refine h.stepA j (r':=grR e sz v F (m,f')) hj ?_ ((Fr.refl w no).to (fun k hk=>hk.elim) (fun k hk=>.inl hk))
  rcases hB with h|⟨g,cap,h1,h2,h3,h4,hF⟩
  · exact .inl h
  · exact .inr ⟨g,cap,h1,h2,HE.row_eq h3 (fun x hx=>(hf x hx).symm),h4,hF⟩
theorem WS.grRe {e:TypeId}{sz m m':Nat}{v v':Value}{F:Nat→Prop}{f:Nat→Value}(h:WS c H A w)(j:Nat)(hv:v=v')(hm:m=m')(hj:A[j]? =some (grR e sz v F (m,f)):=by rfl):WS c H (A.set j (grR e sz v' F (m',f))) w:=by
  subst hv hm;exact h.grTell j f (fun _ _=>rfl) hj
theorem WS.grOpen {e:TypeId}{sz m:Nat}{v:Value}{F:Nat→Prop}{f:Nat→Value}(h:WS c H [grR e sz v F (m,f)] w)(hm:0<m):∃g cap,v=sc g 0 m cap∧m≤cap∧WS c (H++[(g,.row e (m*sz) (cap*sz) f)]) [] w:=by
  have hB:GrV e sz w v F m f:=h.res 0
  rcases hB with⟨_,h1,_⟩|⟨g,cap,rfl,h2,h3,h4,hF⟩
  · omega
  have hin:inF [grR e sz (sc g 0 m cap) F (m,f)] g:=.inl ((hF g).2 rfl);refine⟨g,cap,rfl,h4,fun q hq=>?_,?_,fun q hq ho=>?_,fun q hq hk=>hk.elim,AllAr.nil w,h.fr.to (fun k hk=>.inl hk) (fun k hk=>hk.elim)⟩
  · rcases List.mem_append.1 hq with hq|hq
    · exact h.heap q hq
    · obtain rfl:=List.mem_singleton.1 hq;exact h3
  · rw [List.pairwise_append]
    refine⟨h.apart,List.pairwise_singleton _ _,fun p hp q hq ho e=>?_⟩;obtain rfl:=List.mem_singleton.1 hq;exact h.free p hp (show inF _ p.1 from(show p.1=g from e)▸hin)
  · rcases List.mem_append.1 hq with hq|hq
    · exact h.mine q hq ho
    · obtain rfl:=List.mem_singleton.1 hq
      exact(h.fr.foot _ hin).symm
end
section
variable {P:Program}{c:Cx}{n:Nat}{E:Env}{H:Heap}{A:List Res}{a:Act}{w:World}
end
section
variable {P:Program}{ops:Array Oper}{V:World→Prop}{Q:Exit→Act→World→Prop}
inductive OT where
  |lin (r:List (Nat×Nat))
  |two (p:List (Nat×Nat)) (i:Nat) (t:OT) (j:Nat) (u:OT)
  |three (p:List (Nat×Nat)) (i:Nat) (t:OT) (j:Nat) (u:OT) (k:Nat) (v:OT)
def wpT (P:Program)(ops:Array Oper)(V:World→Prop)(R:Act→World→Prop):OT→Act→World→Prop
  | .lin r=>wpOrd P ops V R r
  | .two p i t j u=>wpOrd P ops V (fun a w=>wpOrd P ops V (wpT P ops V R t) [(i,0)] a w∧wpOrd P ops V (wpT P ops V R u) [(j,0)] a w) p
  | .three p i t j u k v=>wpOrd P ops V (fun a w=>wpOrd P ops V (wpT P ops V R t) [(i,0)] a w∧wpOrd P ops V (wpT P ops V R u) [(j,0)] a w∧wpOrd P ops V (wpT P ops V R v) [(k,0)] a w) p
def lenT:OT→Nat
  | .lin r=>r.length
  | .two p _ t _ _=>p.length+(lenT t+1)
  | .three p _ t _ _ _ _=>p.length+(lenT t+1)
def ordP (md:Region.Mode)(ops:Array Oper):List (Nat×Nat)→Array Bool→Option (Array Bool)
  |[],l=>some l
  |(i,1)::r,l=>match(Region.ready md ops l).contains i&&Region.free md ops l i with
    |true=>ordP md ops r (l.setIfInBounds i true)
    |false=>none
  |(i,0)::r,l=>match onlyB i (Region.ready md ops l)with
    |true=>ordP md ops r (l.setIfInBounds i true)
    |false=>none
  |_,_=>none
def inB0 (r0:List (Nat×Nat))(r:List (Nat×Nat)):Bool:=r.all fun q=>r0.any fun x=>Nat.beq x.1 q.1&&Nat.beq x.2 q.2
def ordT (md:Region.Mode)(ops:Array Oper)(r0:List (Nat×Nat)):OT→Array Bool→Bool
  | .lin r,l=>ordFrom md ops r l&&inB0 r0 r
  | .two p i t j u,l=>match ordP md ops p l with
    |some l'=>inB0 r0 p&& !(Region.ready md ops l').isEmpty&&(Region.ready md ops l').all (fun x=>Nat.beq x i||Nat.beq x j)&&Nat.beq (lenT u) (lenT t)&&ordT md ops r0 t (l'.setIfInBounds i true)&&ordT md ops r0 u (l'.setIfInBounds j true)
    |none=>false
  | .three p i t j u k v,l=>match ordP md ops p l with
    |some l'=>inB0 r0 p&& !(Region.ready md ops l').isEmpty&&(Region.ready md ops l').all (fun x=>Nat.beq x i||Nat.beq x j||Nat.beq x k)&&Nat.beq (lenT u) (lenT t)&&Nat.beq (lenT v) (lenT t)&&ordT md ops r0 t (l'.setIfInBounds i true)&&ordT md ops r0 u (l'.setIfInBounds j true)&&ordT md ops r0 v (l'.setIfInBounds k true)
    |none=>false
theorem inB0_mem {r0 r:List (Nat×Nat)}(h:inB0 r0 r=true):∀q∈r,q∈r0:=by
  intro q hq;have h1:=List.all_eq_true.1 h q hq;obtain⟨x,hx,hb⟩:=List.any_eq_true.1 h1
  simp only [Bool.and_eq_true]at hb
  have e1:=Nat.eq_of_beq_eq_true hb.1;have e2:=Nat.eq_of_beq_eq_true hb.2;rw [show q=x from Prod.ext e1.symm e2.symm];exact hx
theorem anyV_P {md:Region.Mode}{R R':Act→World→Prop}(hs:Region.noSelect ops=true)(r0:List (Nat×Nat))(hl:lastB md ops r0=true){f:Nat} :∀(p:List (Nat×Nat)) (listed listed':Array Bool) (a:Act) (w:World),ordP md ops p listed=some listed'→(∀q∈p,q∈r0)→V w→wpOrd P ops V R' p a w→
    (∀a' w',V w'→R' a' w'→anyV P md ops V (vfOf r0) R f listed' a' w')→anyV P md ops V (vfOf r0) R (p.length+f) listed a w
  |[],listed,listed',a,w,hB,_,hV,h,H=>by
    simp only [ordP,Option.some.injEq]at hB
    subst hB;rw [List.length_nil,Nat.zero_add];exact H a w hV h
  |(i,0)::r,listed,listed',a,w,hB,hm,hV,h,H=>by
    simp only [ordP]at hB
    split at hB
    · rename_i h1
      have e:=onlyB_eq h1;rw [List.length_cons,Nat.add_right_comm];refine⟨fun h0=>(by rw [e]at h0;cases h0),fun j hj=>?_⟩;rw [e]at hj;obtain rfl:=List.mem_singleton.1 hj;exact nAt_mono (fun a' w' hh=>⟨fun _=>hh.1,anyV_P hs r0 hl r _ listed' a' w' hB (fun q hq=>hm q (List.mem_cons_of_mem _ hq)) hh.1 hh.2 H⟩) h
    · cases hB
  |(i,1)::r,listed,listed',a,w,hB,hm,hV,h,H=>by
    simp only [ordP]at hB
    split at hB
    · rename_i h1
      simp only [Bool.and_eq_true]at h1
      obtain⟨hr,hf⟩:=h1;obtain⟨o,v,ho,ht,hk⟩:=h;rw [List.length_cons,Nat.add_right_comm];exact anyV_first ho (fun j oj hj hv=>lastB_spec hl (mem_flB (hm _ List.mem_cons_self)) j oj hj hv) (Region.noSelect_spec hs) (r.length+f) listed a w (Region.free_spec ho hf) (by simpa using hr) ht hV (anyV_P hs r0 hl r _ listed' _ _ hB (fun q hq=>hm q (List.mem_cons_of_mem _ hq)) hV hk H)
    · cases hB
  |(i,k+2)::r,listed,listed',a,w,hB,hm,hV,h,H=>by simp [ordP]at hB
theorem anyV_T {md:Region.Mode}{R:Act→World→Prop}(hs:Region.noSelect ops=true)(r0:List (Nat×Nat))(hl:lastB md ops r0=true):∀(t:OT) (listed:Array Bool) (a:Act) (w:World),ordT md ops r0 t listed=true→V w→wpT P ops V R t a w→anyV P md ops V (vfOf r0) R (lenT t) listed a w
  | .lin r,listed,a,w,hB,hV,h=>by
    simp only [ordT,Bool.and_eq_true]at hB
    exact anyV_ord hs r0 hl r listed a w (inB0_mem hB.2) hB.1 (fun _=>hV) h
  | .two p i t j u,listed,a,w,hB,hV,h=>by
    simp only [ordT]at hB
    split at hB
    · rename_i l' hp
      simp only [Bool.and_eq_true,Bool.not_eq_true']at hB
      obtain⟨⟨⟨⟨⟨b0,b1⟩,b2⟩,b3⟩,b4⟩,b5⟩:=hB;have e3:=Nat.eq_of_beq_eq_true b3;refine anyV_P hs r0 hl (R':=fun a w=>wpOrd P ops V (wpT P ops V R t) [(i,0)] a w∧wpOrd P ops V (wpT P ops V R u) [(j,0)] a w) p listed l' a w hp (inB0_mem b0) hV h fun a' w' hV' hh=>⟨fun h0=>(by rw [h0]at b1;cases b1),fun x hx=>?_⟩
      have hx2:=List.all_eq_true.1 b2 x hx
      simp only [Bool.or_eq_true]at hx2
      rcases hx2 with hx2|hx2
      · obtain rfl:=Nat.eq_of_beq_eq_true hx2
        exact nAt_mono (fun a2 w2 h2=>⟨fun _=>h2.1,anyV_T hs r0 hl t _ a2 w2 b4 h2.1 h2.2⟩) hh.1
      · obtain rfl:=Nat.eq_of_beq_eq_true hx2
        exact nAt_mono (fun a2 w2 h2=>⟨fun _=>h2.1,e3▸anyV_T hs r0 hl u _ a2 w2 b5 h2.1 h2.2⟩) hh.2
    · cases hB
  | .three p i t j u k v,listed,a,w,hB,hV,h=>by
    simp only [ordT]at hB
    split at hB
    · rename_i l' hp
      simp only [Bool.and_eq_true,Bool.not_eq_true']at hB
      obtain⟨⟨⟨⟨⟨⟨⟨b0,b1⟩,b2⟩,b3⟩,b33⟩,b4⟩,b5⟩,b6⟩:=hB;have e3:=Nat.eq_of_beq_eq_true b3;have e33:=Nat.eq_of_beq_eq_true b33;refine anyV_P hs r0 hl (R':=fun a w=>wpOrd P ops V (wpT P ops V R t) [(i,0)] a w∧wpOrd P ops V (wpT P ops V R u) [(j,0)] a w∧wpOrd P ops V (wpT P ops V R v) [(k,0)] a w) p listed l' a w hp (inB0_mem b0) hV h fun a' w' hV' hh=>⟨fun h0=>(by rw [h0]at b1;cases b1),fun x hx=>?_⟩
      have hx2:=List.all_eq_true.1 b2 x hx
      simp only [Bool.or_eq_true]at hx2
      rcases hx2 with(hx2|hx2)|hx2
      · obtain rfl:=Nat.eq_of_beq_eq_true hx2
        exact nAt_mono (fun a2 w2 h2=>⟨fun _=>h2.1,anyV_T hs r0 hl t _ a2 w2 b4 h2.1 h2.2⟩) hh.1
      · obtain rfl:=Nat.eq_of_beq_eq_true hx2
        exact nAt_mono (fun a2 w2 h2=>⟨fun _=>h2.1,e3▸anyV_T hs r0 hl u _ a2 w2 b5 h2.1 h2.2⟩) hh.2.1
      · obtain rfl:=Nat.eq_of_beq_eq_true hx2
        exact nAt_mono (fun a2 w2 h2=>⟨fun _=>h2.1,e33▸anyV_T hs r0 hl v _ a2 w2 b6 h2.1 h2.2⟩) hh.2.2
    · cases hB
def ordTB (md:Region.Mode)(ops:Array Oper)(r0:List (Nat×Nat))(t:OT):Bool:=Region.noSelect ops&&Nat.beq (lenT t) ops.size&&ordT md ops r0 t (Array.replicate ops.size false)&&lastB md ops r0
theorem wp_region_T {id:Nat}{a:Act}{w:World}(r0:List (Nat×Nat))(t:OT)(hm:P.follows .mixedOrders=true)(hB:ordTB .any ops r0 t=true)(hV:V { w with drawn:=w.drawn+1 })
    (h:wpT P ops V (fun a' w'=>Q .normal a' w') t a { w with drawn:=w.drawn+1 }):(Code.region id ops true).wp P Q a w:=by
  simp only [ordTB,Bool.and_eq_true]at hB
  have hl:=Nat.eq_of_beq_eq_true hB.1.1.2;refine wp_region_any hm (wpAny_of_anyV (V:=V) (Vf:=vfOf r0) (R:=fun a' w'=>Q .normal a' w') (fun _ _ h=>h) _ _ _ _ ?_);have:=anyV_T (V:=V) (P:=P) (R:=fun a' w'=>Q .normal a' w') hB.1.1.1 r0 hB.2 t _ a _ hB.1.2 hV h;rw [hl]at this;exact this
variable {c:Cx}{n:Nat}{E:Env}{H Hf:Heap}{A:List Res}{a:Act}{w:World}{R:Act→World→Prop}
theorem St.ordBeginT {id:Nat}{l:List Oper}(r0:List (Nat×Nat))(t:OT)(Hf:Heap)(p:List Nat)(hS:St c n E H A a w)(h:∀w1,St c n E H A a w1→wpT P l.toArray (Stay Hf) (fun a' w'=>Q .normal a' w') t a w1)
    (hp:pickH H p=some Hf:=by as_aux_lemma=>kernel_rfl) (hm:P.follows .mixedOrders=true:=by as_aux_lemma=>kernel_rfl) (hB:ordTB .any l.toArray r0 t=true:=by as_aux_lemma=>kernel_rfl):(Code.region id l.toArray true).wp P Q a w:=
  wp_region_T r0 t hm hB (hS.mem.drew.stay hp) (h _ (hS.to hS.mem.drew))
theorem St.ordBeginTS {id:Nat}{l:List Oper}{y:Code}(r0:List (Nat×Nat))(t:OT)(Hf:Heap)(p:List Nat)(hS:St c n E H A a w)(h:∀w1,St c n E H A a w1→wpT P l.toArray (Stay Hf) (fun a' w'=>y.wp P Q a' w') t a w1)
    (hp:pickH H p=some Hf:=by as_aux_lemma=>kernel_rfl) (hm:P.follows .mixedOrders=true:=by as_aux_lemma=>kernel_rfl) (hB:ordTB .any l.toArray r0 t=true:=by as_aux_lemma=>kernel_rfl):((Code.region id l.toArray true).seq y).wp P Q a w:=
  wp_seq (St.ordBeginT r0 t Hf p hS h hp hm hB)
theorem wpT_lin {r:List (Nat×Nat)}{a:Act}{w:World}(h:wpOrd P ops V R r a w):wpT P ops V R (.lin r) a w:=h
theorem wpT_two {p:List (Nat×Nat)}{i j:Nat}{t u:OT}{a:Act}{w:World}(h:wpOrd P ops V (fun a w=>wpOrd P ops V (wpT P ops V R t) [(i,0)] a w∧wpOrd P ops V (wpT P ops V R u) [(j,0)] a w) p a w):wpT P ops V R (.two p i t j u) a w:=h
def OT.app:OT→List (Nat×Nat)→OT
  | .lin r,x=>.lin (r++x)
  | .two p i t j u,x=>.two p i (t.app x) j (u.app x)
  | .three p i t j u k v,x=>.three p i (t.app x) j (u.app x) k (v.app x)
theorem wpOrd_mono {R R':Act→World→Prop}(hR:∀a w,R a w→R' a w):∀ {r:List (Nat×Nat)} {a:Act} {w:World},wpOrd P ops V R r a w→wpOrd P ops V R' r a w
  |[],_,_,h=>hR _ _ h
  |(_,1)::_,_,_,⟨o,v,h1,h2,h3⟩=>⟨o,v,h1,h2,wpOrd_mono hR h3⟩
  |(_,0)::_,_,_,h=>nAt_mono (fun _ _ hh=>⟨hh.1,wpOrd_mono hR hh.2⟩) h
  |(_,_+2)::_,_,_,h=>nAt_mono (fun _ _ hh=>wpOrd_mono hR hh) h
theorem wpOrd_app {x:List (Nat×Nat)}{R:Act→World→Prop} :∀ {r:List (Nat×Nat)} {a:Act} {w:World},wpOrd P ops V (fun a w=>wpOrd P ops V R x a w) r a w→wpOrd P ops V R (r++x) a w
  |[],_,_,h=>h
  |(_,1)::_,_,_,⟨o,v,h1,h2,h3⟩=>⟨o,v,h1,h2,wpOrd_app h3⟩
  |(_,0)::_,_,_,h=>nAt_mono (fun _ _ hh=>⟨hh.1,wpOrd_app hh.2⟩) h
  |(_,_+2)::_,_,_,h=>nAt_mono (fun _ _ hh=>wpOrd_app hh) h
theorem wpT_app {x:List (Nat×Nat)}{R:Act→World→Prop} :∀ {t:OT} {a:Act} {w:World},wpT P ops V (fun a w=>wpOrd P ops V R x a w) t a w→wpT P ops V R (t.app x) a w
  | .lin _,_,_,h=>wpOrd_app h
  | .two _ _ _ _ _,_,_,h=>wpOrd_mono (fun _ _ hh=>⟨wpOrd_mono (fun _ _ h=>wpT_app h) hh.1,wpOrd_mono (fun _ _ h=>wpT_app h) hh.2⟩) h
  | .three _ _ _ _ _ _ _,_,_,h=>wpOrd_mono (fun _ _ hh=>⟨wpOrd_mono (fun _ _ h=>wpT_app h) hh.1,wpOrd_mono (fun _ _ h=>wpT_app h) hh.2.1,wpOrd_mono (fun _ _ h=>wpT_app h) hh.2.2⟩) h
theorem wpT_mono {R R':Act→World→Prop}(hR:∀a w,R a w→R' a w):∀ {t:OT} {a:Act} {w:World},wpT P ops V R t a w→wpT P ops V R' t a w
  | .lin _,_,_,h=>wpOrd_mono hR h
  | .two _ _ _ _ _,_,_,h=>wpOrd_mono (fun _ _ hh=>⟨wpOrd_mono (fun _ _ h=>wpT_mono hR h) hh.1,wpOrd_mono (fun _ _ h=>wpT_mono hR h) hh.2⟩) h
  | .three _ _ _ _ _ _ _,_,_,h=>wpOrd_mono (fun _ _ hh=>⟨wpOrd_mono (fun _ _ h=>wpT_mono hR h) hh.1,wpOrd_mono (fun _ _ h=>wpT_mono hR h) hh.2.1,wpOrd_mono (fun _ _ h=>wpT_mono hR h) hh.2.2⟩) h
theorem St.sel (kE kH:List Nat){E2:Env}{H2:Heap}(hS:St c n E H A a w)(h2:pickE E kE=some E2:=by as_aux_lemma=>kernel_rfl)(h3:pickH H kH=some H2:=by as_aux_lemma=>kernel_rfl)(h4:incr 0 kH=true:=by as_aux_lemma=>kernel_rfl):St c n E2 H2 A a w:=
  ⟨hS.defers,hS.size,pickE_agree hS.env h2,hS.mem.pick h3 h4⟩
theorem St.ordCutT {id:Nat}{l:List Oper}(r0:List (Nat×Nat))(t:OT)(x:List (Nat×Nat))(Hf:Heap)(p:List Nat)(E2:Env)(H2:Heap)(hS:St c n E H A a w)(h:∀w1,St c n E H A a w1→wpT P l.toArray (Stay Hf) (fun a' w'=>St c n E2 H2 A a' w') t a w1)
    (h2:∀a' w',St c n E2 H2 A a' w'→wpOrd P l.toArray (Stay Hf) (fun a' w'=>Q .normal a' w') x a' w')
    (hp:pickH H p=some Hf:=by as_aux_lemma=>kernel_rfl) (hm:P.follows .mixedOrders=true:=by as_aux_lemma=>kernel_rfl) (hB:ordTB .any l.toArray r0 (t.app x)=true:=by as_aux_lemma=>kernel_rfl):(Code.region id l.toArray true).wp P Q a w:=
  St.ordBeginT r0 _ Hf p hS (fun w1 h1=>wpT_app (wpT_mono h2 (h w1 h1))) hp hm hB
theorem St.ordCutTS {id:Nat}{l:List Oper}{y:Code}(r0:List (Nat×Nat))(t:OT)(x:List (Nat×Nat))(Hf:Heap)(p:List Nat)(E2:Env)(H2:Heap)(hS:St c n E H A a w)(h:∀w1,St c n E H A a w1→wpT P l.toArray (Stay Hf) (fun a' w'=>St c n E2 H2 A a' w') t a w1)
    (h2:∀a' w',St c n E2 H2 A a' w'→wpOrd P l.toArray (Stay Hf) (fun a' w'=>y.wp P Q a' w') x a' w')
    (hp:pickH H p=some Hf:=by as_aux_lemma=>kernel_rfl) (hm:P.follows .mixedOrders=true:=by as_aux_lemma=>kernel_rfl) (hB:ordTB .any l.toArray r0 (t.app x)=true:=by as_aux_lemma=>kernel_rfl):((Code.region id l.toArray true).seq y).wp P Q a w:=
  wp_seq (St.ordCutT r0 t x Hf p E2 H2 hS h h2 hp hm hB)
end
def okw (w:Int):Bool:=w==1||w==2||w==4||w==8
def okW (l:List Int):Prop:=0<l.length∧l.length≤32∧l.all okw=true
instance (l:List Int):Decidable (okW l):=by unfold okW;exact inferInstance
theorem law04_Awake (w:World)(hh0:HE.holds w 1 (.fn 0 64 dbT)):
    Calls Tryz.prog 130 #[] w fun e w'=>e=.returned (vb true)∧Fr w w' no no:=by
 refine enter (args:=[]) (D:=no) (A:=[]) Tryz.func130 rfl 2 rfl [(1,.fn 0 64 dbT)] (WS.startL ⟨⟨rfl,hh0⟩,trivial⟩) fun ac hS=>?_;refine hS.regS [0] [] (sg [] [(0,none)] fun ac wd hS=>?_);refine zwq ?_;refine hS.call0 143 #[] 1 (law04_awake _ (hS.mem.get 0 1 (.fn 0 64 dbT))) fun ac wd hS=>?_;refine hS.opsC 1 [0] [] (sg [(0,vb true)] [(0,none)] fun ac wd hS=>?_);refine zlq ?_;refine wp_ret ?_;refine St.retC 0 hS (vb true) [] tv fun hw=>?_;refine⟨retd rfl,hw.fr0⟩
end Go.Proofs.YtojjkjedcafpeaaGreatDoor.K
