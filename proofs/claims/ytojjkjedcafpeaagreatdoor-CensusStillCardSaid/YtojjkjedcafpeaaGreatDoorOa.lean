import Derived.Test.YtojjkjedcafpeaaGreatDoorM2
import Derived.Test.YtojjkjedcafpeaaGreatDoorM3
import Derived.Laws.Rows
import Derived.Laws.Tables
namespace Go.Proofs.YtojjkjedcafpeaaGreatDoor.K
set_option linter.unusedSimpArgs false
set_option linter.unusedVariables false
def rowA (f:Nat→Value)(n:Nat):Array Value:=((List.range n).map f).toArray
theorem rowA_size (f:Nat→Value)(n:Nat):(rowA f n).size=n:=by unfold rowA;simp
theorem rowA_get (f:Nat→Value){n i:Nat}(h:i<n):(rowA f n)[i]? =some (f i):=by
  unfold rowA;simp [h]
theorem row_cells {w:World}{g n:Nat}{T:TypeId}{f:Nat→Value}(h:HE.holds w g (.row T n n f)):w.heap[g]? =some (.cells (rowA f n) T (0,0)):=by
  obtain⟨c,h1,h2,_,h4⟩:=h;rw [h1]
  have:c=rowA f n:=by
    apply Array.ext
    · rw [h2,rowA_size]
    · intro i hi hi2
      have e1:=h4 i (by omega);have e2:=rowA_get f (n:=n) (i:=i) (by omega);rw [Array.getElem?_eq_getElem hi]at e1;rw [Array.getElem?_eq_getElem hi2]at e2;exact(Option.some.inj e1).trans (Option.some.inj e2).symm
  rw [this]
section
variable {P:Program}{c:Cx}{n:Nat}{E:Env}{H:Heap}{A:List Res}{a:Act}{w:World}{o:Oper}
theorem St.ldRow {K:Act→World→Prop}(hS:St c n E H A a w)(x:Operand)(ty:TypeId)(ho:o.op=.load ty x){d:Nat}(hd:o.dst=some d)(hdn:d<n){g N:Nat}{T:TypeId}{f:Nat→Value}{de:TypeDesc}(hg:HE.holds w g (.row T N N f))
    (hu:P.underlying ty=some de) (hde:(match de with| .struct _| .array _ _=>true|_=>false)=true) (hi:(P.info? ty).map (·.size)=some N)
    (h:∀a',St c n (putE E d [] (.agg (rowA f N))) H A a' w→K a' w) (hok:okO E [] x=true:=by as_aux_lemma=>kernel_rfl) (hx:rho E x=pt g 0:=by as_aux_lemma=>kernel_rfl):Runs1 P o a w K:=by
  refine⟨.agg (rowA f N),w,?_,?_⟩
  · simp only [execOp,ho,eval1 hS hok,hx]
    simp only [Instr.loadAt,Instr.sureAddr,Sem.run_bind,Sem.run_pure,Result.andThen_ok,run_loadVar_row w g T ty (rowA f N) (0,0) de (row_cells hg) hu hde (by rw [hi,rowA_size])]
  · rw [hd];exact h _ (hS.put hdn)
theorem St.stRow {ops:Array Oper}{rest:List Oper}{Q:Exit→Act→World→Prop}(hS:St c n E H A a w)(x y:Operand)(ty:TypeId)(ho:o.op=.store ty x y)(hgd:o.guard=none)(hd:o.dst=none){g N:Nat}{T:TypeId}{f0 f:Nat→Value}(j:Nat)(hj:H[j]? =some (g,.row T N N f0))(h1:∀i,i<N→(f i).oneCell'=true)
    (hi:(P.info? ty).map (·.size)=some N)
    (h:∀w',St c n E (H.set j (g,.row T N N f)) A a w'→wpList P ops Q rest a w') (hok:okO E [] x=true:=by as_aux_lemma=>kernel_rfl) (hok2:okO E [] y=true:=by as_aux_lemma=>kernel_rfl) (hx:rho E x=pt g 0:=by as_aux_lemma=>kernel_rfl) (hy:rho E y=.agg (rowA f N):=by as_aux_lemma=>kernel_rfl):wpList P ops Q (o::rest) a w:=by
  have hg:=hS.mem.heap _ (List.mem_of_getElem? hj);have hc:=row_cells hg;refine wpList_store_row hgd ty x y ho g (rowA f N) ((eval1 hS hok).trans hx) ((eval1 hS hok2).trans hy) T (rowA f0 N) hc (by rw [hi,rowA_size]) (by rw [rowA_size,rowA_size]) ?_ ?_
  · rw [Array.all_eq_true]
    intro i hi2;have e2:=rowA_get f (n:=N) (i:=i) (by rw [rowA_size]at hi2;exact hi2);rw [Array.getElem?_eq_getElem hi2]at e2;rw [Option.some.inj e2];exact h1 i (by rw [rowA_size]at hi2;exact hi2)
  · rw [hd]
    have hnew:(w.setRow g (rowA f N)).heap[g]? =some (.cells (rowA f N) T (0,0)):=setRow_heap w g (rowA f0 N) (rowA f N) T (0,0) hc;have hf:Fr w (w.setRow g (rowA f N)) (one g) no:=⟨rfl,rfl,rfl,by rw [setRow_size];exact Nat.le_refl _,fun k _ hk=>setRow_other w g k _ hk,fun k hk=>hk.elim⟩;exact h _ (hS.to (hS.mem.stepM j hj rfl rfl ⟨rowA f N,hnew,rowA_size _ _,Nat.le_refl _,fun x hx=>rowA_get f hx⟩ hf))
theorem WS.pgNil (h:WS c H [] w)(cap:Nat)(mem:Nat→UInt8)(pb:Nat→Nat):WS c H [pgR 0 no ⟨cap,fun _=>false,mem,pb⟩] w:=by
  have hq:(pgR 0 no ⟨cap,fun _=>false,mem,pb⟩).R w:=⟨fun i _ hi=>(by cases hi),fun i j _ hi=>(by cases hi),fun k=>⟨fun hk=>hk.elim,fun⟨i,_,hi,_⟩=>(by cases hi)⟩⟩;have:=h.newA (r:=pgR 0 no ⟨cap,fun _=>false,mem,pb⟩) (w':=w) hq (Fr.refl w no);exact this
end
def comC (com:Nat→Bool)(i:Nat)(x:Nat):Bool:=decide (x<i)&&com x
theorem comC_zero (com:Nat→Bool):(fun _=>false)=comC com 0:=by funext x;unfold comC;simp
theorem comC_no {com:Nat→Bool}{i:Nat}(h:com i=false):comC com i=comC com (i+1):=by
  funext x;unfold comC
  by_cases e:x=i
  · subst e;simp [h]
  · rw [show decide (x<i+1)=decide (x<i) by simp;omega]
theorem comC_yes {com:Nat→Bool}{i:Nat}(h:com i=true):setB (comC com i) i true=comC com (i+1):=by
  funext x;unfold setB comC
  by_cases e:x=i
  · subst e;simp [h]
  · rw [if_neg e,show decide (x<i+1)=decide (x<i) by simp;omega]
theorem comC_at (com:Nat→Bool)(i:Nat):comC com i i=false:=by unfold comC;simp
theorem putPg_self (mem:Nat→UInt8)(i:Nat):putPg mem i (fun o=>mem (4096*i+o))=mem:=by
  funext x;unfold putPg
  split
  · show mem (4096*i+(x-4096*i))=mem x
    rw [show 4096*i+(x-4096*i)=x by omega]
  · rfl
section
variable {c:Cx}{H:Heap}{w:World}
theorem WS.pgNilC (h:WS c H [] w)(cap:Nat)(com:Nat→Bool)(mem:Nat→UInt8)(pb:Nat→Nat):WS c H [pgR 0 no ⟨cap,comC com 0,mem,pb⟩] w:=by
  rw [←comC_zero];exact h.pgNil cap mem pb
theorem WS.pgTell {cap:Nat}{com com':Nat→Bool}{mem mem':Nat→UInt8}{pb:Nat→Nat}{F:Nat→Prop}(h:WS c H [pgR 0 F ⟨cap,com,mem,pb⟩] w)(e1:com=com')(e2:mem=mem'):WS c H [pgR 0 F ⟨cap,com',mem',pb⟩] w:=by
  subst e1 e2;exact h
end
end Go.Proofs.YtojjkjedcafpeaaGreatDoor.K
