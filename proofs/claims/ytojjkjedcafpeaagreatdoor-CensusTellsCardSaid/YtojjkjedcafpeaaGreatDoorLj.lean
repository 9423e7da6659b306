import Derived.Test.YtojjkjedcafpeaaGreatDoorSx
import Derived.Test.YtojjkjedcafpeaaGreatDoorLg
set_option maxRecDepth 20000
namespace Go.Proofs.YtojjkjedcafpeaaGreatDoor.K
open Go.ChangeShapes Go.WideShapes Go.ChangeAt Go.RowKit
set_option linter.unusedVariables false
set_option linter.unusedSimpArgs false
section
variable {H:Type}{enc:TypeId×Value→H}{w:World}{sp:Nat→Bool}{held:Bool}
def rg_a8V (c:Int×Int×Int):Prop:=(0≤c.1∧c.1≤255)∧(-9223372036854775808≤c.2.1∧c.2.1≤9223372036854775807)∧(-9223372036854775808≤c.2.2∧c.2.2≤9223372036854775807)∧True
theorem at_a8V {n:Nat}{cs:List Value}{y:DataW H×List MemPlace}(h:DataW.trod enc Tryz.prog w 0 sp held n 31 cs=some y):∃c:Int×Int×Int,rg_a8V c∧cs=(List.range 3).map (fun j=>a8V (fun _=>c) 0 j):=by
  obtain⟨xs,m,_,_,hl,hxl,hf⟩:=DataW.trod_struct Tryz.underlying31 h;rw [show Tryz.prog.cellsOf 31=3 by kernel_rfl]at hl;have hx:xs.length=3:=hxl;have c3:Tryz.prog.cellsOf 3=1:=by kernel_rfl
  have c5:Tryz.prog.cellsOf 5=1:=by kernel_rfl
  match cs,hl with
  |[q0,q1,q2],_=>
    have h0:=hf 0 _ rfl
    change DataW.trod enc Tryz.prog w 0 sp held m 5 (List.take (Tryz.prog.cellsOf 5) [q0,q1,q2])=xs[0]? at h0
    rw [c5,List.getElem?_eq_getElem (by omega)]at h0
    simp only [List.take_succ_cons,List.take_zero]at h0
    obtain⟨z0,e0,_,r0⟩:=DataW.trod_int Tryz.underlying5 h0
    simp only [List.cons.injEq,and_true]at e0
    have h1:=hf 1 _ rfl
    change DataW.trod enc Tryz.prog w 0 sp held m 3 (List.take (Tryz.prog.cellsOf 3) [q1,q2])=xs[1]? at h1
    rw [c3,List.getElem?_eq_getElem (by omega)]at h1
    simp only [List.take_succ_cons,List.take_zero]at h1
    obtain⟨z1,e1,_,r1⟩:=DataW.trod_int Tryz.underlying3 h1
    simp only [List.cons.injEq,and_true]at e1
    have h2:=hf 2 _ rfl
    change DataW.trod enc Tryz.prog w 0 sp held m 3 (List.take (Tryz.prog.cellsOf 3) [q2])=xs[2]? at h2
    rw [c3,List.getElem?_eq_getElem (by omega)]at h2
    simp only [List.take_succ_cons,List.take_zero]at h2
    obtain⟨z2,e2,_,r2⟩:=DataW.trod_int Tryz.underlying3 h2
    simp only [List.cons.injEq,and_true]at e2
    exact⟨(z0,z1,z2),⟨rng_u8 r0,rng_i64 r1,rng_i64 r2,trivial⟩,by rw [e0,e1,e2];rfl⟩
theorem pt_a8V (f:Nat→Int×Int×Int)(o x:Nat):a8V (fun _=>f ((x-o)/3)) 0 ((x-o)%3)=a8V f o x:=by
  unfold a8V;simp only [Nat.sub_zero,Nat.mod_mod]
theorem op_a8V {fuel:Nat}{cs:List Value}{x:DataW H×List MemPlace}(hdb:HE.holds w 1 (.fn 0 64 dbT))(h:DataW.trod enc Tryz.prog w 0 sp held fuel 22 cs=some x):
    ∃(ao:Option Addr) (c g o:Nat) (L:List (Int×Int×Int)),cs=[.slice ao L.length c]∧(L.length=0∨ao=some ⟨g,o,none⟩)∧(∀i,i<L.length→rg_a8V (gtD L i))∧HE.holds w g (.fn o (o+L.length*3) (a8V (gtD L) o)):=by
  rcases open_rows (α:=Int×Int×Int) default (fun c j=>a8V (fun _=>c) 0 j) rg_a8V Tryz.underlying22 (show Tryz.prog.cellsOf 31=3 by kernel_rfl) (by decide) (fun n cs y h=>at_a8V h) h with e|⟨a,len,cap,f,e,hf⟩
  · exact⟨none,0,1,0,[],e,.inl rfl,fun i hi=>absurd hi (by simp),HE.fn_none hdb rfl⟩
  · have hll:((List.range len).map f).length=len:=by simp
    rcases Nat.eq_zero_or_pos len with h0|h0
    · subst h0
      exact⟨some a,cap,1,0,[],e,.inl rfl,fun i hi=>absurd hi (by simp),HE.fn_none hdb rfl⟩
    · obtain⟨h1,h2,h3,h4⟩:=hf h0
      have hg:∀i,i<len→gtD ((List.range len).map f) i=f i:=fun i hi=>by
        rw [gtD_lt (by omega)];simp
      obtain⟨ab,ao,sp_⟩:=a;obtain rfl:sp_=none:=h2;refine⟨some ⟨ab,ao,none⟩,cap,ab,ao,(List.range len).map f,by rw [hll];exact e,.inr rfl,fun i hi=>by rw [hll]at hi;rw [hg i hi];exact h3 i hi,?_⟩;rw [hll];refine HE.fn_eq h4 fun x hx1 hx2=>?_;rw [pt_a8V];exact((a8V_cg ao (fun i hi=>hg i hi) x hx2).resolve_right (Nat.not_lt_of_le hx1)).symm
end
end Go.Proofs.YtojjkjedcafpeaaGreatDoor.K
