import Derived.Test.YtojjkjedcafpeaaGreatDoorYd
import Derived.Test.YtojjkjedcafpeaaGreatDoorYe
import Derived.Test.YtojjkjedcafpeaaGreatDoorProg
set_option maxRecDepth 100000
set_option maxHeartbeats 1000000
namespace Go.Proofs.YtojjkjedcafpeaaGreatDoor.K
set_option linter.unusedVariables false
set_option linter.unusedSimpArgs false
theorem vw_Part (b:Nat)(F:Nat→Prop)(m:AM)(o_:Int)(z:Int)(a:Int)(n:Int)(w:World)(hr:(arR b F m).R w)(ho:0≤o_∧0≤z∧o_+z≤4294967296)(hc:vchE z a n=0)(ht:thr m (o_+a) n=true):
    Calls Tryz.prog 105 #[.agg #[pt b 0,vi o_,vi z],vi a,vi n] w fun e w'=>e=.returned (.tuple #[.agg #[pt b 0,vi (o_+a),vi n],vi 0])∧Fr w w' no no:=by
 have hci:=vch_in hc;refine enter (args:=[.agg #[pt b 0,vi o_,vi z],vi a,vi n]) (D:=no) (A:=[]) Tryz.func105 rfl 27 rfl [] (WS.startL trivial) fun ac hS=>?_;refine hS.regS [0,0,0] [1,2] fun ν1=>seg [(3,pt (ν1 0) 0),(6,pt (ν1 1) 0)] [(0,some ((ν1 0),.cells [pt b 0,vi o_,vi z] 49)),(1,some ((ν1 1),.cells [pnil,vi 0,vi 0] 49))] [] tv fun ac wd hS=>?_;refine wp_seq ?_;refine zwq ?_;refine hS.opsC 3 [0,0,0] [1,2,3,6] fun _=>seg [(9,.agg #[pt b 0,vi o_,vi z]),(10,vi a),(11,vi n)] zn2 [.e (ν1 0),.e (ν1 0),.e (ν1 0)] tv fun ac wd hS=>?_;refine hS.call0 109 #[.agg #[pt b 0,vi o_,vi z],vi a,vi n] 12 (vw_check b a n o_ z _ (by first|assumption|omega|(simp_all;done)|(simp_all;omega))) fun ac wd hS=>?_;refine hS.opsC 1 [0] [1,2,3,6] (sg [(8,vi (vchE z a n))] zn2 fun ac wd hS=>?_);refine zlq ?_;refine hS.regS [0,0] [1,2,3,6,8] (sg [(14,vb (((vchE z a n):Int)!=0))] zn2 fun ac wd hS=>?_);refine hS.condK (((vchE z a n):Int)!=0) false (by rw [hc];rfl) ?_
 show Code.wp _ _ _ _ _
 refine wp_skip ?_;refine zpt ?_;refine zwq ?_;refine hS.opsC 7 [0,0,0,0,0,20,0] [6] fun _=>seg [(18,pt b 0),(22,vi (o_+a)),(23,vi n)] [(1,none)] [.p (fit .i64 (o_+a)),.e (ν1 0),.e (ν1 0)] ⟨zf6 (by omega),tv⟩ fun ac wd hS=>?_;refine hS.call0 104 #[pt b 0,vi (o_+a),vi n] 24 (vw_Of b F m (o_+a) n _ (Res.keep hr hS.mem.fr) (by exact ht)) fun ac wd hS=>?_;refine hS.opsC 4 [0,0,0,0] [6] fun _=>seg [(7,vi 0)] [(0,some ((ν1 1),.cells [pt b 0,vi (o_+a),vi n] 49))] [.e (ν1 1),.e (ν1 1),.e (ν1 1)] tv fun ac wd hS=>?_;refine zlq ?_;refine wp_ret ?_;refine St.retC 0 hS (.tuple #[.agg #[pt b 0,vi (o_+a),vi n],vi 0]) [.e (ν1 1),.e (ν1 1),.e (ν1 1)] tv fun hw=>?_;refine⟨retd rfl,hw.fr0⟩
end Go.Proofs.YtojjkjedcafpeaaGreatDoor.K
