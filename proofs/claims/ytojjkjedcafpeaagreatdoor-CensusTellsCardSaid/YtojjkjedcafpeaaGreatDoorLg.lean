import Derived.Test.YtojjkjedcafpeaaGreatDoorLe
import Derived.Test.YtojjkjedcafpeaaGreatDoorM5
namespace Go.Proofs.YtojjkjedcafpeaaGreatDoor.K
open Go.ChangeShapes Go.WideShapes Go.ChangeAt Go.RowKit
set_option linter.unusedVariables false
set_option linter.unusedSimpArgs false
section
variable {H:Type}{enc:TypeId×Value→H}{w:World}{sp:Nat→Bool}{held:Bool}{P:Program}
theorem open_rows {t e:TypeId}{sz:Nat}{α:Type}(z:α)(C:α→Nat→Value)(ok:α→Prop)(ht:P.underlying t=some (.slice e))(hc:P.cellsOf e=sz)(h0:0<sz)
    (hel:∀n cs y,DataW.trod enc P w 0 sp held n e cs=some y→∃c:α,ok c∧cs=(List.range sz).map (C c)) {fuel:Nat} {cs:List Value} {x:DataW H×List MemPlace} (h:DataW.trod enc P w 0 sp held fuel t cs=some x):
    cs=[.slice none 0 0]∨∃(a:Addr) (len cap:Nat) (f:Nat→α),cs=[.slice (some a) len cap]∧(0<len→(len≤cap∧cap≤9223372036854775807)∧a.spot=none∧(∀i,i<len→ok (f i))∧HE.holds w a.block (.fn a.off (a.off+len*sz) (fun x=>C (f ((x-a.off)/sz)) ((x-a.off)%sz)))):=by
  rcases DataW.trod_slice ht h with⟨e,_⟩|⟨a,len,cap,elems,rest,n,_,rfl,_,hb,hl,hm,hlen,hel',_⟩
  · exact .inl e
  right
  rcases Nat.eq_zero_or_pos len with hz|hz
  · exact⟨a,len,cap,fun _=>z,rfl,fun h0=>absurd h0 (by omega)⟩
  have got:∀i,i<len→∃c:α,ok c∧∀j,j<sz→w.cell? ((a.add (i*sz)).add j)=some (C c j):=by
    intro i hi;have hk:=hel' i hi;rw [hc,List.getElem?_eq_getElem (by omega),Option.bind_eq_some_iff]at hk;obtain⟨c3,hc3,hy⟩:=hk;obtain⟨c,hok,rfl⟩:=hel _ _ _ hy;refine⟨c,hok,fun j hj=>?_⟩;have:=(World.cells?_some hc3).2.2 j (by simpa using hj);rw [this,List.getElem?_map,List.getElem?_range hj];rfl
  have hs:a.spot=none:=by
    obtain⟨c,_,h3⟩:=got 0 hz;have h0:=h3 0 h0;rw [Nat.zero_mul]at h0;have e:(a.add 0).add 0=a:=by simp [Addr.add]
    rw [e]at h0;exact(cell_block (v:=C c 0) h0).1
  obtain⟨ab,ao,sp_⟩:=a;obtain rfl:sp_=none:=hs
  have each:∀i,∃c:α,i<len→ok c∧∀j,j<sz→w.cell? ⟨ab,ao+i*sz+j,none⟩=some (C c j):=by
    intro i
    by_cases hi:i<len
    · obtain⟨c,hok,h3⟩:=got i hi
      have e:∀j,((⟨ab,ao,none⟩:Addr).add (i*sz)).add j=⟨ab,ao+i*sz+j,none⟩:=fun j=>by rw [addr_add _ (rfl:(⟨ab,ao,none⟩:Addr).spot=none),addr_add _ rfl]
      refine⟨c,fun _=>⟨hok,fun j hj=>?_⟩⟩;have:=h3 j hj
      rwa [e]at this
    · exact⟨z,fun h=>absurd h hi⟩
  obtain⟨f,hf⟩:=Classical.skolem.1 each;refine⟨⟨ab,ao,none⟩,len,cap,f,rfl,fun _=>?_⟩;obtain⟨_,c,T,fz,hbk,_⟩:=cell_block ((hf 0 hz).2 0 h0);have hbk:w.heap[ab]? =some (.cells c T fz):=hbk
  have cellc:∀j v,w.cell? ⟨ab,j,none⟩=some v→c[j]? =some v:=by
    intro j v hv
    unfold World.cell? at hv
    rw [hbk]at hv
    simpa using hv
  refine⟨⟨hl,by unfold maxLen at hm;omega⟩,rfl,fun i hi=>(hf i hi).1,c,T,fz,hbk,fun o h1 h2=>?_⟩;have h1:ao≤o:=h1;have h2:o<ao+len*sz:=h2;have hi:(o-ao)/sz<len:=(Nat.div_lt_iff_lt_mul h0).2 (by omega);have:=cellc _ _ ((hf _ hi).2 ((o-ao)%sz) (Nat.mod_lt _ h0))
  have e3:ao+(o-ao)/sz*sz+(o-ao)%sz=o:=by
    have:=Nat.div_add_mod' (o-ao) sz;omega
  rwa [e3]at this
theorem HE.fn_eq {w:World}{g o hi:Nat}{f f':Nat→Value}(h:HE.holds w g (.fn o hi f))(e:∀x,o≤x→x<hi→f x=f' x):HE.holds w g (.fn o hi f'):=by
  obtain⟨c,T,fz,hc,hf⟩:=h;exact⟨c,T,fz,hc,fun x h1 h2=>(hf x h1 h2).trans (congrArg some (e x h1 h2))⟩
theorem rng_u8 {n:Int}(h:(Lit.int .u8 n).wf=true):0≤n∧n≤255:=by
  have h1:IntKind.u8.min=0:=rfl;have h2:IntKind.u8.max=255:=rfl
  simp [Lit.wf,h1,h2]at h
  omega
end
end Go.Proofs.YtojjkjedcafpeaaGreatDoor.K
