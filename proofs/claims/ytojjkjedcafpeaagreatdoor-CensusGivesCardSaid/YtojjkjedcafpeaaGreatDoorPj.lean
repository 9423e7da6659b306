import Derived.Test.YtojjkjedcafpeaaGreatDoorPt
import Derived.Test.YtojjkjedcafpeaaGreatDoorM3
import Derived.Test.YtojjkjedcafpeaaGreatDoorOb
import Derived.Test.YtojjkjedcafpeaaGreatDoorProg
set_option maxRecDepth 100000
set_option maxHeartbeats 1000000
namespace Go.Proofs.YtojjkjedcafpeaaGreatDoor.K
set_option linter.unusedVariables false
set_option linter.unusedSimpArgs false
theorem ar_PagesO (b:Nat)(m:AM)(d:Lie)(w:World)(hh0:HE.holds w b (.fn 0 6 (roF [sc d.bp 0 m.cap m.cap,vi (m.cap:Int),sc d.bw d.ow d.nw d.cw,vi ((countTo m.com m.cap:Nat):Int),vb m.armed,vi (m.refuse:Int)]))):
    Calls Tryz.prog 94 #[pt b 0] w fun e w'=>e=.returned (.agg #[vi (m.cap:Int),sc d.bw d.ow d.nw d.cw])∧Fr w w' no no:=by
 refine enter (args:=[pt b 0]) (D:=no) (A:=[]) Tryz.func94 rfl 10 rfl [(b,.fn 0 6 (roF [sc d.bp 0 m.cap m.cap,vi (m.cap:Int),sc d.bw d.ow d.nw d.cw,vi ((countTo m.com m.cap:Nat):Int),vb m.armed,vi (m.refuse:Int)]))] (WS.startL ⟨⟨rfl,hh0⟩,trivial⟩) fun ac hS=>?_;refine hS.regS [0] [0] fun ν1=>seg [(2,pt (ν1 0) 0)] [(0,none),(1,some ((ν1 0),.cells [vi 0,vnil] 95))] [] tv fun ac wd hS=>?_;refine wp_seq ?_;refine hS.regS [0,0] [0,2] (sg [(4,vb false)] zn2 fun ac wd hS=>?_);refine hS.condF ?_;refine wp_skip ?_;refine zpt ?_;refine hS.regS [0,0,0,0,100] [2] fun _=>seg [] [(1,some ((ν1 0),.cells [vi (m.cap:Int),sc d.bw d.ow d.nw d.cw] 95))] [.e (ν1 0),.e (ν1 0),.e b,.p (0≤2∧2<6),.e b,.p (0≤1∧1<6)] ⟨(by decide),(by decide),tv⟩ fun ac wd hS=>?_;refine wp_ret ?_;refine St.retC 0 hS (.agg #[vi (m.cap:Int),sc d.bw d.ow d.nw d.cw]) [.e (ν1 0),.e (ν1 0)] tv fun hw=>?_;refine⟨retd rfl,hw.fr0⟩
theorem ar_PagesD (b:Nat)(F:Nat→Prop)(q:AM×Lie)(w:World)(hr:(arD b F q).R w):
    Calls Tryz.prog 94 #[pt b 0] w fun e w'=>e=.returned (.agg #[vi (q.1.cap:Int),sc q.2.bw q.2.ow q.2.nw q.2.cw])∧Fr w w' no no:=by
 have hd:ArAt w ⟨b,F,q.1⟩ q.2:=hr;exact ar_PagesO b q.1 q.2 w hd.ro
end Go.Proofs.YtojjkjedcafpeaaGreatDoor.K
