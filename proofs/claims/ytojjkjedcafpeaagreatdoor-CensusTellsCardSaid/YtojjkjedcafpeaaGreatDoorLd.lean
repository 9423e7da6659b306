import Derived.Test.YtojjkjedcafpeaaGreatDoorRows
import Derived.Test.YtojjkjedcafpeaaGreatDoorM2
import Derived.WalkKit
import Derived.ProofKit
import Derived.OpenShut
import Derived.ChangeOld
import Derived.Below
import Derived.SizedLaws
import Derived.Carry
import Derived.LaidMore
import Derived.Lay
import Derived.LaidOnce
namespace Go.Proofs.YtojjkjedcafpeaaGreatDoor.K
open Go.ChangeShapes Go.WideShapes Go.ChangeAt Go.RowKit
set_option linter.unusedVariables false
set_option linter.unusedSimpArgs false
theorem own:ownKnob Tryz.prog.godebug=none:=by kernel_rfl
theorem laidOut:laidOutB Tryz.prog=true:=by kernel_rfl
theorem bel {w w':World}(h:Fr w w' no no):Below w.heap.size w w':=⟨h.os,h.tape,h.output,h.size,fun k hk=>h.block k hk (fun h=>h)⟩
def laidT:List (String×DataW Unit):=[("math/bits.deBruijn32tab",Rows.laid_math_bits_deBruijn32tab),("math/bits.deBruijn64tab",Rows.laid_math_bits_deBruijn64tab)]
theorem db_holds {W:World}(h:laidMetH Tryz.prog laidT W):HE.holds W 1 (.fn 0 64 dbT):=by
  rw [MakeChecks.laidMetH_plain _ _ _ (by kernel_rfl)]at h;obtain⟨ps,⟨_,_,_,_,_,_,_,_,_,_,⟨g,t,cs,fuel,p,q,hg,ht,hv,hd,_,_⟩,_⟩,_,_⟩:=h;obtain rfl:=Option.some.inj ((show Tryz.prog.globalNamed "math/bits.deBruijn64tab" =some 1 by kernel_rfl).symm.trans hg);obtain rfl:=Option.some.inj ((show(Tryz.prog.globals[1]?).map (·.type)=some 174 by kernel_rfl).symm.trans ht);have c5:Tryz.prog.cellsOf 5=1:=by kernel_rfl
  obtain⟨xs,m,_,ex,hlen,hl,hel⟩:=DataW.trod_array Tryz.underlying174 hd
  have hcell:∀o,o<64→W.cell? ⟨1,o,none⟩=some (dbT o):=by
    intro o ho;have hk:=hel o ho;rw [c5,Nat.mul_one]at hk;have hx:o<xs.length:=by omega
    rw [List.getElem?_eq_getElem hx]at hk;obtain⟨z,ez,ey,_⟩:=DataW.trod_int Tryz.underlying5 hk;rw [World.var?_cell hg hv o]
    have e1:(xs.map (·.1))[o]? =(dbL.map fun z=>(DataW.lit (.int .u8 z):DataW Unit))[o]?:=by
      have:=DataW.agg.inj (Prod.mk.inj ex).1;rw [←this];rfl
    rw [List.getElem?_map,List.getElem?_eq_getElem hx,List.getElem?_map,ey]at e1;have ho2:o<dbL.length:=ho;rw [List.getElem?_eq_getElem ho2]at e1
    simp only [Option.map_some,Option.some.injEq,DataW.lit.injEq,Lit.int.injEq,true_and]at e1
    have e2:cs.toList[o]? =some (.int .u8 z):=by
      have h1:=congrArg List.head? ez;rw [List.head?_take,List.head?_drop]at h1
      simpa using h1
    rw [←Array.getElem?_toList,e2]
    unfold dbT
    rw [List.getD_eq_getElem?_getD,List.getElem?_eq_getElem ho2]
    simp [e1]
  obtain⟨_,c,T,fz,hb,_⟩:=cell_block (hcell 0 (by omega));refine⟨c,T,fz,hb,fun o _ ho=>?_⟩;have:=hcell o ho
  unfold World.cell? at this
  rw [hb]at this
  simpa using this
end Go.Proofs.YtojjkjedcafpeaaGreatDoor.K
