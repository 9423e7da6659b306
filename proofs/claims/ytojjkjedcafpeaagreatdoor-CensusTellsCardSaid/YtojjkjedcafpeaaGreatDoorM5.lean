import Derived.Test.YtojjkjedcafpeaaGreatDoorM4
import Derived.Test.YtojjkjedcafpeaaGreatDoorProg
import Derived.LoopN
import Derived.Laws.StructEq
set_option maxRecDepth 100000
set_option maxHeartbeats 1000000
namespace Go.Proofs.YtojjkjedcafpeaaGreatDoor.K
set_option linter.unusedSimpArgs false
set_option linter.unusedVariables false
def z_whole (a:Int):Bool:=decide (1≤a)&&decide (a≤4096)&&(iand .i64 a (IntKind.wrap .i64 (a-1))==0)
theorem z_whole_iff {a:Int} :z_whole a=true↔1≤a∧a≤4096∧iand .i64 a (IntKind.wrap .i64 (a-1))=0:=by
  simp [z_whole,and_assoc]
theorem z_wrap_small {x:Int}(h:0≤x∧x≤9223372036854775807):IntKind.i64.wrap x=x:=i64_in (by omega)
theorem z_whole_out {a:Int}(h:¬(1≤a∧a≤4096)):z_whole a=false:=by
  cases hw:z_whole a with
  |false=>rfl
  |true=>have:=z_whole_iff.1 hw;omega
theorem thr_sub {m:AM}{a n a' n':Int}(h:thr m a n=true)(h1:a≤a')(h2:a'+n'≤a+n)(h0:0≤n'):thr m a' n'=true:=by
  obtain⟨g1,g2,g3,g4⟩:=inB_facts (thr_in h);have hp:=fun x=>thr_page (x:=x) h
  unfold thr inB
  simp only [Bool.and_eq_true,Bool.or_eq_true,decide_eq_true_eq]
  refine⟨by omega,?_⟩
  rcases Int.lt_or_le 0 n' with h3|h3
  · right
    rw [cntR_all (b:=true) (pgN a' n') (pg0 a')]
    · rfl
    · intro x hx1 hx2
      unfold pg0 at hx1 hx2
      unfold pgN at hx2
      have hq:∃y:Int,a'≤y∧y<a'+n'∧(y/4096).toNat=x:=by
        rcases Int.lt_or_le (4096*(x:Int)) a' with h4|h4
        · exact⟨a',by omega,by omega,by omega⟩
        · exact⟨4096*(x:Int),h4,by omega,by omega⟩
      obtain⟨y,y1,y2,y3⟩:=hq;have:=(hp y (by omega) (by omega)).2
      rwa [y3]at this
  · left;omega
theorem z_whole_eq (a:Int):((decide (1≤a)&&decide (a≤4096))&&(iand .i64 a (a-1)==0))=z_whole a:=by
  by_cases h:1≤a∧a≤4096
  · unfold z_whole;rw [z_wrap_small (by omega)]
  · rw [z_whole_out h];simp;omega
theorem size_Whole (a:Int)(w:World):
    Calls Tryz.prog 145 #[vi a] w fun e w'=>e=.returned (vb (z_whole a))∧Fr w w' no no:=by
 refine enter (args:=[vi a]) (D:=no) (A:=[]) Tryz.func145 rfl 16 rfl [] (WS.startL trivial) fun ac hS=>?_;refine hS.regS [0] [0] (sg [] [] fun ac wd hS=>?_);refine hS.regS [0,0,0,3,3,80,0,3,3,23,3,3,80,0] [] fun _=>seg [(2,vb (((decide ((1:Int)≤a))&&(decide ((a:Int)≤4096)))&&(((iand .i64 a (a-1)):Int)==0)))] [] [.p (((((decide ((1:Int)≤a))&&(decide ((a:Int)≤4096)))=true)∧True)→AllP [fit .i64 (a-1)])] ⟨(fun⟨hc0,_⟩=>by replace hc0:=nrm hc0;exact⟨zf6 (by omega),trivial⟩),tv⟩ fun ac wd hS=>?_;refine wp_ret ?_;refine St.retC 0 hS (vb (((decide ((1:Int)≤a))&&(decide ((a:Int)≤4096)))&&(((iand .i64 a (a-1)):Int)==0))) [] tv fun hw=>?_;refine⟨retd (vbool ?_),hw.fr0⟩
 all_goals (exact z_whole_eq a)
theorem quo2_u8 {a b:Int}(h0:0≤a)(h1:0<b)(h2:a≤255):(b:Int)≠0∧IntKind.u8.wrap (Int.tdiv a b)=a/b:=by
  refine⟨by omega,?_⟩;rw [Int.tdiv_eq_ediv_of_nonneg h0,IntKind.wrap_u8];have l0:=Int.ediv_nonneg h0 (show 0≤b by omega);have l1:=Int.ediv_le_self b h0;omega
def vptE (m:AM)(o z a:Int)(s:ByteArray):Int:=if vchE z a ((s.size:Nat):Int)=0 then chkE m (o+a) ((s.size:Nat):Int)else 3
def vptM (m:AM)(o z a:Int)(s:ByteArray):AM:=if vchE z a ((s.size:Nat):Int)=0 then putM m (o+a) s else m
theorem vpt_1 {m:AM}{o z a:Int}{s:ByteArray}(h:vchE z a ((s.size:Nat):Int)≠0):vchE z a ((s.size:Nat):Int)=vptE m o z a s∧m=vptM m o z a s:=by unfold vptE vptM;rw [if_neg h,if_neg h];exact⟨vch_3 h,rfl⟩
theorem vpt_2 {m:AM}{o z a:Int}{s:ByteArray}(h:vchE z a ((s.size:Nat):Int)=0):chkE m (o+a) ((s.size:Nat):Int)=vptE m o z a s∧putM m (o+a) s=vptM m o z a s:=by unfold vptE vptM;rw [if_pos h,if_pos h];exact⟨rfl,rfl⟩
def tgB (m:AM)(o z i:Int):Int:=IntKind.wrap .u8 (vldV m o z i 1)
def tgS (m:AM)(o z i:Int):Int:=tgB m o z i%4
def tgO (m:AM)(o z i:Int):Int:=tgB m o z i/4
def tgE (m:AM)(o z i:Int):Int:=vldE m o z i 1
theorem tgB_rng (m:AM)(o z i:Int):0≤tgB m o z i∧tgB m o z i≤255:=wrap_u8 _
def runAt (m:AM)(o z:Int):Nat→Int
  |0=>0
  |k+1=>if tgS m o z ((k+1:Nat):Int)=1 then runAt m o z k else((k+1:Nat):Int)
theorem runAt_bd (m:AM)(o z:Int):∀k:Nat,0≤runAt m o z k∧runAt m o z k≤(k:Int)
  |0=>by unfold runAt;omega
  |k+1=>by
    have:=runAt_bd m o z k
    unfold runAt
    split<;>omega
theorem runAt_step {m:AM}{o z x y:Int}(h:runAt m o z y.toNat=runAt m o z x.toNat)(h0:0<x)(hs:tgS m o z x=1):runAt m o z y.toNat=runAt m o z (x-1).toNat:=by
  rw [h];obtain⟨k,rfl⟩:∃k:Nat,x=((k+1:Nat):Int):=⟨(x-1).toNat,by omega⟩;rw [show((k+1:Nat):Int).toNat=k+1 by omega,show(((k+1:Nat):Int)-1).toNat=k by omega]
  show(if tgS m o z ((k+1:Nat):Int)=1 then runAt m o z k else _)=_
  rw [if_pos hs]
theorem runAt_end {m:AM}{o z x y:Int}(h:runAt m o z y.toNat=runAt m o z x.toNat)(h0:0≤x)(hs:¬(0<x∧tgS m o z x=1)):runAt m o z y.toNat=x:=by
  rw [h]
  rcases Int.lt_or_le 0 x with h1|h1
  · obtain⟨k,rfl⟩:∃k:Nat,x=((k+1:Nat):Int):=⟨(x-1).toNat,by omega⟩
    rw [show((k+1:Nat):Int).toNat=k+1 by omega]
    show(if tgS m o z ((k+1:Nat):Int)=1 then runAt m o z k else _)=_
    rw [if_neg fun e=>hs ⟨h1,e⟩]
  · obtain rfl:x=0:=by omega
    rfl
def runBad (m:AM)(o z i:Int):Bool:=decide (tgS m o z (runAt m o z i.toNat)<2)||decide (IntKind.wrap .i64 (1*2^(min (Int.toNat (tgO m o z (runAt m o z i.toNat))) 64))≤i-runAt m o z i.toNat)
def runE (m:AM)(o z i:Int):Int:=if tgE m o z i≠0 then tgE m o z i else if runBad m o z i then 8 else 0
def runV (m:AM)(o z i:Int):Int:=if runE m o z i=0 then runAt m o z i.toNat else 0
def runS (m:AM)(o z i:Int):Int:=if runE m o z i=0 then tgS m o z (runAt m o z i.toNat)else 0
def runO (m:AM)(o z i:Int):Int:=if runE m o z i=0 then tgO m o z (runAt m o z i.toNat)else 0
theorem run_1 {m:AM}{o z i:Int}(h:tgE m o z i≠0):0=runV m o z i∧0=runS m o z i∧0=runO m o z i∧tgE m o z i=runE m o z i:=by
  have e:runE m o z i=tgE m o z i:=by unfold runE;rw [if_pos h]
  have e2:runE m o z i≠0:=by rw [e];exact h
  unfold runV runS runO
  rw [if_neg e2,if_neg e2,if_neg e2];exact⟨rfl,rfl,rfl,e.symm⟩
theorem run_2 {m:AM}{o z i x:Int}(h:tgE m o z i=0)(hx:runAt m o z i.toNat=x)(hb:(decide (tgS m o z x<2)||decide (IntKind.wrap .i64 (1*2^(min (Int.toNat (tgO m o z x)) 64))≤i-x))=true):0=runV m o z i∧0=runS m o z i∧0=runO m o z i∧8=runE m o z i:=by
  have e:runE m o z i=8:=by unfold runE runBad;rw [if_neg (fun q=>q h),hx,hb];rfl
  have e2:runE m o z i≠0:=by rw [e];decide
  unfold runV runS runO
  rw [if_neg e2,if_neg e2,if_neg e2];exact⟨rfl,rfl,rfl,e.symm⟩
theorem run_3 {m:AM}{o z i x:Int}(h:tgE m o z i=0)(hx:runAt m o z i.toNat=x)(hb:(decide (tgS m o z x<2)||decide (IntKind.wrap .i64 (1*2^(min (Int.toNat (tgO m o z x)) 64))≤i-x))=false):x=runV m o z i∧tgS m o z x=runS m o z i∧tgO m o z x=runO m o z i∧0=runE m o z i:=by
  have e:runE m o z i=0:=by unfold runE runBad;rw [if_neg (fun q=>q h),hx,hb];rfl
  unfold runV runS runO
  rw [if_pos e,if_pos e,if_pos e,hx];exact⟨rfl,rfl,rfl,e.symm⟩
theorem tgO_rng (m:AM)(o z x:Int):0≤tgO m o z x∧tgO m o z x≤63:=by
  have:=tgB_rng m o z x
  unfold tgO;omega
theorem tgE_in {m:AM}{o z i:Int}(h:tgE m o z i=0):0≤i∧i<z:=by
  unfold tgE vldE at h
  rw [if_pos (by decide)]at h
  split at h
  · rename_i hc;have:=vch_in hc;omega
  · omega
theorem page_thr1 {a n:Int}(h:0≤a∧0≤n∧a+n≤4096):thr (comM (AM.new 1) 0 1) a n=true:=by
  refine thr_sub (a:=0) (n:=4096) (by decide+kernel) ?_ ?_ ?_<;>omega
theorem vw_Size (b:Nat)(o_:Int)(z:Int)(w:World):
    Calls Tryz.prog 151 #[.agg #[pt b 0,vi o_,vi z]] w fun e w'=>e=.returned (vi z)∧Fr w w' no no:=by
 refine enter (args:=[.agg #[pt b 0,vi o_,vi z]]) (D:=no) (A:=[]) Tryz.func151 rfl 5 rfl [] (WS.startL trivial) fun ac hS=>?_;refine hS.regS [0,0] [] fun ν1=>seg [(1,pt (ν1 0) 0)] [(0,some ((ν1 0),.cells [pt b 0,vi o_,vi z] 49))] [] tv fun ac wd hS=>?_;refine hS.regS [0,0,0] [] fun _=>seg [(2,vi z)] [] [.e (ν1 0)] tv fun ac wd hS=>?_;refine wp_ret ?_;refine St.retC 0 hS (vi z) [] tv fun hw=>?_;refine⟨retd rfl,hw.fr0⟩
theorem vw_Put (b:Nat)(F:Nat→Prop)(m:AM)(o_:Int)(z:Int)(a:Int)(s:ByteArray)(w:World)(hr:(arR b F m).R w)(ho:0≤o_∧0≤z∧o_+z≤4294967296):
    Calls Tryz.prog 112 #[.agg #[pt b 0,vi o_,vi z],vi a,.string s] w fun e w'=>∃(F':Nat→Prop),e=.returned (vi (vptE m o_ z a s))∧(arR b F' (vptM m o_ z a s)).R w'∧Fr w w' F F':=by
 refine enter (args:=[.agg #[pt b 0,vi o_,vi z],vi a,.string s]) (D:=F) (A:=[arR b F m]) Tryz.func112 rfl 24 rfl [] (WS.startA (r:=arR b F m) hr trivial trivial) fun ac hS=>?_;refine hS.regS [0,0] [1,2] fun ν1=>seg [(3,pt (ν1 0) 0)] [(0,some ((ν1 0),.cells [pt b 0,vi o_,vi z] 49))] [] tv fun ac wd hS=>?_;refine wp_seq ?_;refine zwq ?_;refine hS.opsC 4 [0,0,0,0] [1,2,3] fun _=>seg [(8,.agg #[pt b 0,vi o_,vi z]),(9,vi a),(11,vi ((ByteArray.size s:Nat):Int))] [(0,none)] [.e (ν1 0),.e (ν1 0),.e (ν1 0)] tv fun ac wd hS=>?_;refine hS.call0 109 #[.agg #[pt b 0,vi o_,vi z],vi a,vi ((ByteArray.size s:Nat):Int)] 12 (vw_check b a ((ByteArray.size s:Nat):Int) o_ z _ (by first|assumption|omega|(simp_all;done)|(simp_all;omega))) fun ac wd hS=>?_;refine hS.opsC 1 [0] [1,2,3] (sg [(7,vi (vchE z a ((ByteArray.size s:Nat):Int)))] [(0,none)] fun ac wd hS=>?_);refine zlq ?_;refine hS.regS [0,0] [1,2,3,7] (sg [(14,vb (((vchE z a ((ByteArray.size s:Nat):Int)):Int)!=0))] [(0,none)] fun ac wd hS=>?_);refine hS.condC (((vchE z a ((ByteArray.size s:Nat):Int)):Int)!=0) (fun hb1o hb1=>?_) (fun hb1o hb1=>?_)
 ·
  have hP:=vpt_1 (m:=m) (o:=o_) hb1;refine hS.regS [0,0] [] (sg [(6,vi (vchE z a ((ByteArray.size s:Nat):Int)))] [] fun ac wd hS=>?_);refine wp_ret ?_;refine zpr ?_;refine St.retC 0 hS (vi (vchE z a ((ByteArray.size s:Nat):Int))) [] tv fun hw=>?_;refine⟨F,retd (vint ?_),(res_eq (r:=arR b F m) (by exact congrArg _ hP.2) (hw.res 0)),hw.frA⟩
  all_goals (exact hP.1)
 ·
  have hc0:=hb1;obtain⟨hc1,hc2,hc3,hc4⟩:=vch_in hc0;have hP:=vpt_2 (m:=m) (o:=o_) hc0;refine wp_skip ?_;refine zpt ?_;refine zwq ?_;refine hS.opsC 7 [0,0,0,0,0,20,0] [] fun _=>seg [(17,pt b 0),(21,vi (o_+a)),(22,.string s)] [] [.p (fit .i64 (o_+a)),.e (ν1 0),.e (ν1 0)] ⟨zf6 (by omega),tv⟩ fun ac wd hS=>?_;refine hS.callC 84 #[pt b 0,vi (o_+a),.string s] (ar_Put b F m (o_+a) s _ (hS.mem.res 0)) ?_;rintro _ wd ⟨F2,rfl,hA,hF⟩;refine⟨vi (chkE m (o_+a) (((ByteArray.size s):Nat):Int)),rfl,?_⟩;replace hS:=hS.sA 0 rfl hA hF 23 (vi (chkE m (o_+a) (((ByteArray.size s):Nat):Int)));clear hF;refine hS.opsC 1 [0] [] (sg [(6,vi (chkE m (o_+a) (((ByteArray.size s):Nat):Int)))] [] fun ac wd hS=>?_);refine zlq ?_;refine wp_ret ?_;refine St.retC 0 hS (vi (chkE m (o_+a) (((ByteArray.size s):Nat):Int))) [] tv fun hw=>?_;refine⟨F2,retd (vint ?_),(res_eq (r:=arR b F2 (putM m (o_+a) s)) (by exact congrArg _ hP.2) (hw.res 0)),hw.frA⟩
  all_goals (exact hP.1)
theorem tags_Open (b:Nat)(o_:Int)(z:Int)(w:World):
    Calls Tryz.prog 107 #[.agg #[pt b 0,vi o_,vi z]] w fun e w'=>e=.returned (.agg #[pt b 0,vi o_,vi z])∧Fr w w' no no:=by
 refine enter (args:=[.agg #[pt b 0,vi o_,vi z]]) (D:=no) (A:=[]) Tryz.func107 rfl 5 rfl [] (WS.startL trivial) fun ac hS=>?_;refine hS.regS [0,0] [] fun ν1=>seg [(1,pt (ν1 0) 0),(2,pt (ν1 1) 0)] [(0,some ((ν1 0),.cells [pt b 0,vi o_,vi z] 49)),(1,some ((ν1 1),.cells [pnil,vi 0,vi 0] 52))] [] tv fun ac wd hS=>?_;refine hS.regS [0,0,100] [2] fun _=>seg [] [(1,some ((ν1 1),.cells [pt b 0,vi o_,vi z] 52))] [.e (ν1 1),.e (ν1 1),.e (ν1 1),.e (ν1 0),.e (ν1 0),.e (ν1 0)] tv fun ac wd hS=>?_;refine wp_ret ?_;refine St.retC 0 hS (.agg #[pt b 0,vi o_,vi z]) [.e (ν1 1),.e (ν1 1),.e (ν1 1)] tv fun hw=>?_;refine⟨retd rfl,hw.fr0⟩
theorem tags_laid (s_:Int)(r_:Int)(w:World):
    Calls Tryz.prog 111 #[.agg #[v8 s_,v8 r_]] w fun e w'=>e=.returned (v8 (IntKind.wrap .u8 (s_+(IntKind.wrap .u8 (4*r_)))))∧Fr w w' no no:=by
 refine enter (args:=[.agg #[v8 s_,v8 r_]]) (D:=no) (A:=[]) Tryz.func111 rfl 9 rfl [] (WS.startL trivial) fun ac hS=>?_;refine hS.regS [0,0] [] fun ν1=>seg [(1,pt (ν1 0) 0)] [(0,some ((ν1 0),.cells [v8 s_,v8 r_] 107))] [] tv fun ac wd hS=>?_;refine hS.regS [0,0,0,0,0,0,0] [] fun _=>seg [(2,v8 (IntKind.wrap .u8 (s_+(IntKind.wrap .u8 (4*r_)))))] [] [.e (ν1 0),.e (ν1 0)] tv fun ac wd hS=>?_;refine wp_ret ?_;refine St.retC 0 hS (v8 (IntKind.wrap .u8 (s_+(IntKind.wrap .u8 (4*r_))))) [] tv fun hw=>?_;refine⟨retd rfl,hw.fr0⟩
theorem tags_Get (b:Nat)(F:Nat→Prop)(m:AM)(o_:Int)(z:Int)(i:Int)(w:World)(hr:(arR b F m).R w)(ho:0≤o_∧0≤z∧o_+z≤4294967296):
    Calls Tryz.prog 66 #[.agg #[pt b 0,vi o_,vi z],vi i] w fun e w'=>e=.returned (.tuple #[.agg #[v8 (tgS m o_ z i),v8 (tgO m o_ z i)],vi (tgE m o_ z i)])∧Fr w w' no no:=by
 have htb:=tgB_rng m o_ z i;refine enter (args:=[.agg #[pt b 0,vi o_,vi z],vi i]) (D:=no) (A:=[]) Tryz.func66 rfl 23 rfl [] (WS.startL trivial) fun ac hS=>?_;refine hS.regS [0,0,0] [1] fun ν1=>seg [(2,pt (ν1 0) 0),(4,pt (ν1 1) 0)] [(0,some ((ν1 0),.cells [pt b 0,vi o_,vi z] 52)),(1,some ((ν1 1),.cells [v8 0,v8 0] 107))] [] tv fun ac wd hS=>?_;refine zwq ?_;refine hS.opsC 3 [0,0,0] [4] fun _=>seg [(10,.agg #[pt b 0,vi o_,vi z]),(11,vi i)] [(1,none)] [.e (ν1 0),.e (ν1 0),.e (ν1 0)] tv fun ac wd hS=>?_;refine hS.call0 74 #[.agg #[pt b 0,vi o_,vi z],vi i,vi 1] 12 (vw_Load b F m o_ z i 1 _ (Res.keep hr hS.mem.fr) (by first|assumption|omega|(simp_all;done)|(simp_all;omega))) fun ac wd hS=>?_;refine hS.opsC 5 [0,0,0,0,0] [4] (sg [(6,vu (vldV m o_ z i 1)),(7,vi (vldE m o_ z i 1))] [(0,none)] fun ac wd hS=>?_);refine zlq ?_;refine hS.regS [0,fx 0 (v8 (tgB m o_ z i)),20,0,fx 0 (v8 (tgB m o_ z i)),20,0,0,0,0] [4] fun _=>seg [(5,vi (vldE m o_ z i 1))] [(0,some ((ν1 1),.cells [v8 ((tgB m o_ z i)%4),v8 ((tgB m o_ z i)/4)] 107))] [.e (ν1 1),.e (ν1 1),.p ((4:Int)≠0∧IntKind.u8.wrap (Int.tdiv (tgB m o_ z i) 4)=(tgB m o_ z i)/4),.p ((v8 (IntKind.wrap .u8 (vldV m o_ z i 1)):Value)=v8 (tgB m o_ z i)),.p ((4:Int)≠0∧Int.tmod (tgB m o_ z i) 4=(tgB m o_ z i)%4),.p ((v8 (IntKind.wrap .u8 (vldV m o_ z i 1)):Value)=v8 (tgB m o_ z i))] ⟨quo2_u8 (by omega) (by omega) (by omega),(vint (rfl)),rem2 (by omega) (by omega),(vint (rfl)),tv⟩ fun ac wd hS=>?_;refine wp_ret ?_;refine St.retC 0 hS (.tuple #[.agg #[v8 ((tgB m o_ z i)%4),v8 ((tgB m o_ z i)/4)],vi (vldE m o_ z i 1)]) [.e (ν1 1),.e (ν1 1)] tv fun hw=>?_;refine⟨retd (tuple2 (agg2 (vint ?_) (vint ?_)) (vint ?_)),hw.fr0⟩
 all_goals (rfl)
theorem tags_Run (b:Nat)(F:Nat→Prop)(m:AM)(o_:Int)(z:Int)(i:Int)(w:World)(hr:(arR b F m).R w)(ho:0≤o_∧0≤z∧o_+z≤4294967296)(hi:i≤4611686018427387904):
    Calls Tryz.prog 77 #[.agg #[pt b 0,vi o_,vi z],vi i] w fun e w'=>e=.returned (.tuple #[vi (runV m o_ z i),.agg #[v8 (runS m o_ z i),v8 (runO m o_ z i)],vi (runE m o_ z i)])∧Fr w w' no no:=by
 refine enter (args:=[.agg #[pt b 0,vi o_,vi z],vi i]) (D:=no) (A:=[]) Tryz.func77 rfl 51 rfl [] (WS.startL trivial) fun ac hS=>?_;refine hS.regS [0,0,0,0] [1] fun ν1=>seg [(2,pt (ν1 0) 0),(5,pt (ν1 1) 0)] [(0,some ((ν1 0),.cells [pt b 0,vi o_,vi z] 52)),(1,some ((ν1 1),.cells [v8 0,v8 0] 107))] [] tv fun ac wd hS=>?_;refine zwq ?_;refine hS.opsC 2 [0,0] [1,2,5] fun _=>seg [(11,.agg #[pt b 0,vi o_,vi z]),(12,vi i)] zn2 [.e (ν1 0),.e (ν1 0),.e (ν1 0)] tv fun ac wd hS=>?_;refine hS.call0 66 #[.agg #[pt b 0,vi o_,vi z],vi i] 13 (tags_Get b F m o_ z i _ (Res.keep hr hS.mem.fr) (by first|assumption|omega|(simp_all;done)|(simp_all;omega))) fun ac wd hS=>?_;refine hS.opsC 6 [0,0,0,0,200,0] [1,2,5] fun ν3=>seg [(7,pt (ν3 0) 0),(8,vi (tgE m o_ z i))] [(0,none),(1,none),(2,some ((ν3 0),.cells [v8 (tgS m o_ z i),v8 (tgO m o_ z i)] 107))] [.e (ν3 0),.e (ν3 0)] tv fun ac wd hS=>?_;refine zlq ?_;refine wp_seq ?_;refine hS.regS [0,0] [1,2,5,7,8] (sg [(17,vb (((tgE m o_ z i):Int)!=0))] zn3 fun ac wd hS=>?_);refine hS.condC (((tgE m o_ z i):Int)!=0) (fun hb1o hb1=>?_) (fun hb1o hb1=>?_)
 ·
  have hne:tgE m o_ z i≠0:=hb1;refine hS.regS [0,0,0,100,0] [5] fun _=>seg [(4,vi 0),(6,vi (tgE m o_ z i))] [(1,none)] [.e (ν1 1),.e (ν1 1)] tv fun ac wd hS=>?_;refine wp_ret ?_;refine zpr ?_;refine St.retC 0 hS (.tuple #[vi 0,.agg #[v8 0,v8 0],vi (tgE m o_ z i)]) [.e (ν1 1),.e (ν1 1)] tv fun hw=>?_;refine⟨retd (tuple3 (vint ?_) (agg2 (vint ?_) (vint ?_)) (vint ?_)),hw.fr0⟩
  all_goals (first|exact(run_1 hne).1|exact(run_1 hne).2.1|exact(run_1 hne).2.2.1|exact(run_1 hne).2.2.2|exact hR.1|exact hR.2.1|exact hR.2.2.1|exact hR.2.2.2)
 ·
  have hte:tgE m o_ z i=0:=hb1;obtain⟨hi0,hi1⟩:=tgE_in hte;refine wp_skip ?_;refine zpt ?_;refine hS.regS [0,0] [1,2,5,7] (sg [(9,vi i)] zn3 fun ac wd hS=>?_);refine wp_seq ?_;refine wp_block ?_;refine St.loopC (σ:=Int) (fun(x9:Int)=>⟨[(1,[],vi i),(2,[],pt (ν1 0) 0),(5,[],pt (ν1 1) 0),(7,[],pt (ν3 0) 0),(9,[],vi x9)],[((ν1 0),.cells [pt b 0,vi o_,vi z] 52),((ν1 1),.cells [v8 0,v8 0] 107),((ν3 0),.cells [v8 (tgS m o_ z x9),v8 (tgO m o_ z x9)] 107)],[],(0≤x9∧x9≤i)∧(runAt m o_ z i.toNat=runAt m o_ z x9.toNat)∧True,Int.toNat x9⟩) i ⟨(by first|omega|rfl),(by first|omega|rfl),trivial⟩ hS ?_;clear hS;rintro x9 ⟨i0,i1,-⟩ ac wd hS;replace i0:0≤x9∧x9≤i:=i0;replace i1:runAt m o_ z i.toNat=runAt m o_ z x9.toNat:=i1;have hto:=tgO_rng m o_ z x9;refine wp_seq ?_;refine hS.regS [0,0,0,3,203,3,80] [1,2,5,7,9] fun _=>seg [(27,vb ((decide ((0:Int)<x9))&&(((tgS m o_ z x9):Int)==1)))] zn3 [.p ((((decide ((0:Int)<x9))=true)∧True)→AllP [((ν3 0):Nat)=(ν3 0)])] ⟨(fun⟨hc0,_⟩=>by replace hc0:=nrm hc0;exact⟨rfl,trivial⟩),tv⟩ fun ac wd hS=>?_;refine hS.condC ((decide ((0:Int)<x9))&&(((tgS m o_ z x9):Int)==1)) (fun hb2o hb2=>?_) (fun hb2o hb2=>?_)
  ·
   have hq:=hb2;refine wp_skip ?_;refine zpt ?_;refine wp_block ?_;refine hS.regS [0,20,0] [1,2,5,7] fun _=>seg [(9,vi (x9-1))] zn3 [.p (fit .i64 (x9-1))] ⟨zf6 (by omega),tv⟩ fun ac wd hS=>?_;refine wp_region_lit ?_;refine hS.opsC 2 [0,0] [1,2,5,7,9] fun _=>seg [(31,.agg #[pt b 0,vi o_,vi z]),(32,vi (x9-1))] zn3 [.e (ν1 0),.e (ν1 0),.e (ν1 0)] tv fun ac wd hS=>?_;refine hS.call0 66 #[.agg #[pt b 0,vi o_,vi z],vi (x9-1)] 33 (tags_Get b F m o_ z (x9-1) _ (Res.keep hr hS.mem.fr) (by first|assumption|omega|(simp_all;done)|(simp_all;omega))) fun ac wd hS=>?_;refine hS.opsC 4 [0,0,0,200] [1,2,5,7,9] fun _=>seg [] [(0,none),(1,none),(2,some ((ν3 0),.cells [v8 (tgS m o_ z (x9-1)),v8 (tgO m o_ z (x9-1))] 107))] [.e (ν3 0),.e (ν3 0)] tv fun ac wd hS=>?_;refine zln ?_;refine zpb ?_;exact zpt (hS.next (x9-1) ⟨(by first|omega|assumption|(simp;done)|(simp;omega)),(by exact runAt_step i1 hq.1 hq.2),tv⟩ (by dsimp only;omega))
  ·
   have hrx:runAt m o_ z i.toNat=x9:=runAt_end i1 i0.1 (fun q=>by have:=hb2o;simp [q.1,q.2]at this);refine wp_exit ?_;refine zpe ?_;refine zpe ?_;refine zph ?_;refine zpt ?_;refine wp_seq ?_;refine hS.regS [0,200,0,0,3,3,23,3,203,13,3,80] [5,7,9] fun _=>seg [(47,vb ((decide (((tgS m o_ z x9):Int)<2))||(decide (((IntKind.wrap .i64 (1*2^(min (Int.toNat (tgO m o_ z x9)) 64))):Int)≤(i-x9)))))] [(1,none),(2,none)] [.p ((((decide (((tgS m o_ z x9):Int)<2))=false)∧True)→AllP [0≤(tgO m o_ z x9)]),.p ((((decide (((tgS m o_ z x9):Int)<2))=false)∧True)→AllP [((ν3 0):Nat)=(ν3 0)]),.p ((((decide (((tgS m o_ z x9):Int)<2))=false)∧True)→AllP [fit .i64 (i-x9)]),.e (ν3 0)] ⟨(fun⟨hc0,_⟩=>by replace hc0:=nrm hc0;exact⟨by omega,trivial⟩),(fun⟨hc0,_⟩=>by replace hc0:=nrm hc0;exact⟨rfl,trivial⟩),(fun⟨hc0,_⟩=>by replace hc0:=nrm hc0;exact⟨zf6 (by omega),trivial⟩),tv⟩ fun ac wd hS=>?_;refine hS.condC ((decide (((tgS m o_ z x9):Int)<2))||(decide (((IntKind.wrap .i64 (1*2^(min (Int.toNat (tgO m o_ z x9)) 64))):Int)≤(i-x9)))) (fun hb3o hb3=>?_) (fun hb3o hb3=>?_)
   ·
    have hR:=run_2 hte hrx hb3o;refine hS.regS [0,0,0,0] [5] fun _=>seg [(4,vi 0),(6,vi 8)] [(0,none)] [.e (ν1 1),.e (ν1 1)] tv fun ac wd hS=>?_;refine wp_ret ?_;refine zpr ?_;refine St.retC 0 hS (.tuple #[vi 0,.agg #[v8 0,v8 0],vi 8]) [.e (ν1 1),.e (ν1 1)] tv fun hw=>?_;refine⟨retd (tuple3 (vint ?_) (agg2 (vint ?_) (vint ?_)) (vint ?_)),hw.fr0⟩
    all_goals (first|exact(run_1 hne).1|exact(run_1 hne).2.1|exact(run_1 hne).2.2.1|exact(run_1 hne).2.2.2|exact hR.1|exact hR.2.1|exact hR.2.2.1|exact hR.2.2.2)
   ·
    have hR:=run_3 hte hrx hb3o;refine wp_skip ?_;refine zpt ?_;refine St.ordBeginS [(0,1),(1,1),(2,1),(3,0),(4,1)] [((ν3 0),.cells [v8 (tgS m o_ z x9),v8 (tgO m o_ z x9)] 107)] [1] hS fun wd hS=>?_;have hap:=hS.mem.pairs (Hf:=[((ν3 0),.cells [v8 (tgS m o_ z x9),v8 (tgO m o_ z x9)] 107)]) (l:=[1]);refine St.ordF [0,0,0] [0,1,2] [5] (rest:=[(3,0),(4,1)]) hS hap<|segF [(4,vi x9),(50,.agg #[v8 (tgS m o_ z x9),v8 (tgO m o_ z x9)])] [.e (ν3 0),.e (ν3 0)] tv fun ac hS=>?_;refine St.ord1 3 [0] [4,5] [1] hS rfl fun _=>seg [] [(0,some ((ν1 1),.cells [v8 (tgS m o_ z x9),v8 (tgO m o_ z x9)] 107)),(1,none)] [.e (ν1 1),.e (ν1 1)] trivial ⟨by as_aux_lemma=>kernel_rfl,fun ac wd hS=>?_⟩
    refine St.ordF [0] [4] [4,5] (rest:=[]) hS hap<|segF [(6,vi 0)] [] tv fun ac hS=>?_;refine zon ?_;refine wp_ret ?_;refine St.retC 0 hS (.tuple #[vi x9,.agg #[v8 (tgS m o_ z x9),v8 (tgO m o_ z x9)],vi 0]) [.e (ν1 1),.e (ν1 1)] tv fun hw=>?_;refine⟨retd (tuple3 (vint ?_) (agg2 (vint ?_) (vint ?_)) (vint ?_)),hw.fr0⟩
    all_goals (first|exact(run_1 hne).1|exact(run_1 hne).2.1|exact(run_1 hne).2.2.1|exact(run_1 hne).2.2.2|exact hR.1|exact hR.2.1|exact hR.2.2.1|exact hR.2.2.2)
theorem law06_open (n:Int)(w:World)(hn:0≤n∧n≤4000):
    Calls Tryz.prog 129 #[vi n] w fun e w'=>∃(b':Nat) (F':Nat→Prop),e=.returned (.tuple #[pt b' 0,.agg #[pt b' 0,vi 96,vi n],vb true])∧(arR b' F' (comM (AM.new 1) 0 1)).R w'∧Fr w w' no F':=by
 refine enter (args:=[vi n]) (D:=no) (A:=[]) Tryz.func129 rfl 27 rfl [] (WS.startL trivial) fun ac hS=>?_;refine hS.regS [0,0,0] [0] fun ν1=>seg [(3,pt (ν1 0) 0)] [(0,some ((ν1 0),.cells [pnil,vi 0,vi 0] 52))] [] tv fun ac wd hS=>?_;refine zwq ?_;refine hS.callC 14 #[vi 1] (ar_New 1 _) ?_;rintro _ wd ⟨b'1,F2,rfl,hN,hF⟩;refine⟨pt b'1 0,rfl,?_⟩;replace hS:=(hS.to (hS.mem.newA hN hF)).put (d:=9) (v:=pt b'1 0) (by decide);clear hF;refine hS.opsC 1 [0] [0,3] (sg [(5,pt b'1 0)] [(0,none)] fun ac wd hS=>?_);refine zlq ?_;refine zwq ?_;refine hS.opsC 1 [0] [0,3,5] (sg [(10,pt b'1 0)] [(0,none)] fun ac wd hS=>?_);refine hS.callC 56 #[pt b'1 0,vi 0,vi 1] (ar_Commit b'1 F2 (AM.new 1) 0 1 _ (hS.mem.res 0)) ?_;rintro _ wd ⟨F3,rfl,hA,hF⟩;refine⟨vi (comE (AM.new 1) 0 1),rfl,?_⟩;replace hS:=hS.sA 0 rfl hA hF 11 (vi (comE (AM.new 1) 0 1));clear hF;refine hS.opsC 1 [0] [0,3,5] (sg [(6,vi (comE (AM.new 1) 0 1))] [(0,none)] fun ac wd hS=>?_);refine zlq ?_;refine zwq ?_;refine hS.opsC 2 [0,0] [3,5,6] (sg [(13,pt b'1 0),(14,vi n)] [(0,none)] fun ac wd hS=>?_);refine hS.call0 104 #[pt b'1 0,vi 96,vi n] 15 (vw_Of b'1 F3 (comM (AM.new 1) 0 1) 96 n _ (hS.mem.res 0) (by exact page_thr1 (by omega))) fun ac wd hS=>?_;refine hS.opsC 6 [0,0,0,0,100,0] [3,5,6] fun ν6=>seg [(7,pt (ν6 0) 0),(8,vi 0)] [(0,none),(1,some ((ν6 0),.cells [pt b'1 0,vi 96,vi n] 49))] [.e (ν6 0),.e (ν6 0),.e (ν6 0)] tv fun ac wd hS=>?_;refine zlq ?_;refine zwq ?_;refine hS.opsC 2 [0,100] [3,6,8] fun _=>seg [(18,pt b'1 0),(19,.agg #[pt b'1 0,vi 96,vi n])] [(0,none)] [.e (ν6 0),.e (ν6 0),.e (ν6 0)] tv fun ac wd hS=>?_;refine hS.call0 107 #[.agg #[pt b'1 0,vi 96,vi n]] 20 (tags_Open b'1 96 n _) fun ac wd hS=>?_;refine hS.opsC 9 [0,0,0,3,3,80,0,0,0] [3] fun _=>seg [(2,pt b'1 0),(4,vb ((((comE (AM.new 1) 0 1):Int)==0)&&true))] [(0,some ((ν1 0),.cells [pt b'1 0,vi 96,vi n] 52))] [.e (ν1 0),.e (ν1 0),.e (ν1 0)] tv fun ac wd hS=>?_;refine zlq ?_;refine wp_ret ?_;refine St.retC 0 hS (.tuple #[pt b'1 0,.agg #[pt b'1 0,vi 96,vi n],vb ((((comE (AM.new 1) 0 1):Int)==0)&&true)]) [.e (ν1 0),.e (ν1 0),.e (ν1 0)] tv fun hw=>?_;refine⟨b'1,F3,retd (tuple3 rfl rfl (vbool ?_)),(hw.res 0),hw.frA⟩
 all_goals (first|rfl|decide+kernel)
theorem rounds_in {P:Program}{c:Code}{Q:Exit→Act→World→Prop}{n:Nat}{a:Act}{w:World}(h:c.wp P (Exit.then (Code.rounds P c Q n) Q) a w):Code.rounds P c Q (n+1) a w:=h
section
variable {c:Cx}{H:Heap}{A:List Res}{w:World}
theorem WS.grNil {e:TypeId}{sz m:Nat}{v:Value}{F:Nat→Prop}{f:Nat→Value}(h:WS c H [grR e sz v F (m,f)] w)(hm:m=0):v=vnil∧WS c H [] w:=by
  have hB:GrV e sz w v F m f:=h.res 0;refine⟨?_,h.dropA [] (fun r hr=>nomatch hr) List.Pairwise.nil⟩
  rcases hB with⟨h1,_,_⟩|⟨g,cap,_,h2,_⟩
  · exact h1
  · omega
end
theorem thr_same {m m':AM}(h1:m'.cap=m.cap)(h2:m'.com=m.com)(a n:Int):thr m' a n=thr m a n:=by unfold thr inB;rw [h1,h2]
theorem vstM_com (m:AM)(o z a k v:Int):(vstM m o z a k v).cap=m.cap∧(vstM m o z a k v).com=m.com:=by
  unfold vstM stM putM laidM
  (repeat' split)<;>exact⟨rfl,rfl⟩
theorem comM_zero {m:AM}(h:∀x,m.mem x=0)(f n:Int):∀x,(comM m f n).mem x=0:=by
  intro x
  unfold comM
  split
  · exact h x
  · split
    · exact h x
    · show zeroP m.mem _ _ x=0
      unfold zeroP
      split
      · rfl
      · exact h x
theorem stM_eq {m:AM}{a k x:Int}(hw:wholeB k=true)(ht:thr m a k=true):stM m a k x=laidM m a.toNat (bs (stB x) k.toNat):=by
  obtain⟨h1,h8⟩:=wholeB_le hw
  unfold stM putM;rw [if_pos hw,bs_size,show((k.toNat:Nat):Int)=k by omega,if_pos ht]
theorem ld_st {m:AM}{a k x:Int}(hw:wholeB k=true)(ht:thr m a k=true)(hx:0≤x):ldV (stM m a k x) a k=x%2^(8*k.toNat):=by
  obtain⟨h1,h8⟩:=wholeB_le hw;obtain⟨n,rfl⟩:=Int.eq_ofNat_of_zero_le hx;rw [stM_eq hw ht];have ht2:thr (laidM m a.toNat (bs (stB (n:Int)) k.toNat)) a k=true:=(thr_same (m:=m) (m':=laidM m a.toNat (bs (stB (n:Int)) k.toNat)) rfl rfl a k).trans ht;rw [←ld_v4 hw ht2,byt_laid ht2 (bs_size _ _),ldN_num (by omega) k.toNat (Nat.le_refl _)];rw [Int.natCast_emod,Int.natCast_pow];rfl
theorem mem_st {m:AM}{a k x:Int}(hw:wholeB k=true)(ht:thr m a k=true){y:Nat}(hy:(y:Int)<a∨a+k≤(y:Int)):(stM m a k x).mem y=m.mem y:=by
  obtain⟨h1,h8⟩:=wholeB_le hw;obtain⟨g1,_⟩:=inB_facts (thr_in ht);rw [stM_eq hw ht]
  show laidF m.mem a.toNat _ _ y=_
  unfold laidF
  rw [bs_size,if_neg (by omega)]
theorem ld_mem {m m':AM}{a k:Int}(hc:m'.cap=m.cap)(hm:m'.com=m.com)(h:∀y:Nat,a≤(y:Int)→(y:Int)<a+k→m'.mem y=m.mem y):ldV m' a k=ldV m a k:=by
  unfold ldV
  rw [thr_same hc hm]
  cases ht:thr m a k with
  |false=>simp
  |true=>
    have hb:bytS m' a k=bytS m a k:=by
      obtain⟨g1,_⟩:=inB_facts (thr_in ht)
      unfold bytS
      rw [thr_same hc hm,ht];exact bs_congr fun j hj=>h _ (by omega) (by omega)
    rw [hb]
theorem stM_com (m:AM)(a k x:Int):(stM m a k x).cap=m.cap∧(stM m a k x).com=m.com:=by
  have hp:∀(a:Int) (s:ByteArray),(putM m a s).cap=m.cap∧(putM m a s).com=m.com:=fun a s=>by
    unfold putM
    split
    · exact⟨rfl,rfl⟩
    · exact⟨rfl,rfl⟩
  unfold stM
  split
  · exact hp _ _
  · exact⟨rfl,rfl⟩
namespace RecV
variable {l:List Int}{m:AM}{o z i x:Int}
end RecV
end Go.Proofs.YtojjkjedcafpeaaGreatDoor.K
namespace Go.Proofs.YtojjkjedcafpeaaGreatDoor.K
set_option linter.unusedSimpArgs false
set_option linter.unusedVariables false
def eqVals (P:Program)(xs ys:Array Value):List Field→Option (List (Int×Int))
  |[]=>some []
  |f::fs=>match P.underlying f.type,xs[f.offset]?,ys[f.offset]?,eqVals P xs ys fs with
    |some (.int _),some (.int k a),some (.int k' b),some l=>match decide (f.name≠ "_")&&decide (k=k')with
      |true=>some ((a,b)::l)
      |false=>none
    |_,_,_,_=>none
def eqAll (l:List (Int×Int)):Bool:=l.all fun p=>p.1==p.2
theorem run_part {P:Program}{t:TypeId}{cs:Array Value}{off:Nat}{v:Value}{k:IntKind}(ht:P.underlying t=some (.int k))(hv:cs[off]? =some v)(w:World):(part t cs off).run P w=.ok v w:=by
  unfold part isAgg
  simp [run_underlying ht,hv]
theorem eqVals_run {P:Program}{d:Nat}{xs ys:Array Value}{w:World} :∀(fs:List Field) (l:List (Int×Int)),eqVals P xs ys fs=some l→(Op.eqFields (d+1) xs ys fs).run P w=.ok (eqAll l) w
  |[],l,h=>by
    simp only [eqVals,Option.some.injEq]at h
    subst h
    rfl
  |f::fs,l,h=>by
    simp only [eqVals]at h
    split at h
    · rename_i k0 k a k' b l' h1 h2 h3 h4
      split at h
      · rename_i hd
        simp only [Bool.and_eq_true,decide_eq_true_eq]at hd
        obtain⟨hn,rfl⟩:=hd
        simp only [Option.some.injEq]at h
        subst h
        simp only [Op.eqFields]
        rw [if_pos hn];rw [runBind (run_part h1 h2 w),runBind (run_part h1 h3 w),runBind (run_equalIn_int w d f.type k k0 a b h1)]
        cases hab:a==b with
        |false=>simp [eqAll,hab]
        |true=>
          simp only [Bool.not_true,Bool.false_eq_true,if_false]
          rw [eqVals_run fs l' h4]
          simp [eqAll,hab]
      · cases h
    · cases h
theorem run_neS {P:Program}{t:TypeId}{xs ys:Array Value}{l:List (Int×Int)}(w:World)(ht:P.underlying t=some (.struct (P.fieldsOf t)))(hp:P.stoodInHeld t=false)(he:eqVals P xs ys (P.fieldsOf t).toList=some l):(binOp .neq t (.agg xs) (.agg ys)).run P w=.ok (vb (!eqAll l)) w:=by
  rw [run_neq_struct,run_equalIn_struct w 9999 t xs ys ht hp,eqVals_run _ l he];rfl
section
variable {P:Program}{c:Cx}{n:Nat}{E:Env}{H:Heap}{A:List Res}{a:Act}{w:World}{o:Oper}
theorem St.binS {K:Act→World→Prop}(hS:St c n E H A a w)(q:BinOp)(x y:Operand)(t t2:TypeId)(ho:o.op=.binOp q t x y t2){d:Nat}(hd:o.dst=some d)(hdn:d<n){xs ys:Array Value}{r:Value}(hr:∀w,(binOp q t (.agg xs) (.agg ys)).run P w=.ok r w)(hm:P.eqGuardType P.depth t=false)
    (h:∀a',St c n (putE E d [] r) H A a' w→K a' w) (hok:okO E [] x=true:=by as_aux_lemma=>kernel_rfl) (hok2:okO E [] y=true:=by as_aux_lemma=>kernel_rfl) (hx:rho E x=.agg xs:=by as_aux_lemma=>kernel_rfl) (hy:rho E y=.agg ys:=by as_aux_lemma=>kernel_rfl):Runs1 P o a w K:=by
  refine⟨r,w,?_,?_⟩
  · have e1:a.eval x=.agg xs:=by rw [eval1 hS hok,hx]
    have e2:a.eval y=.agg ys:=by rw [eval1 hS hok2,hy]
    simp only [execOp,ho,e1,e2]
    have hb:(do eqGuard q t x y (.agg xs) (.agg ys);binOp q t (.agg xs) (.agg ys)).run P w=.ok r w:=by
      rw [runBind (w':=w) (x:=()) (run_eqGuard_agg w q t x y xs ys hm)];exact hr w
    rw [runBind hb]
    rfl
  · rw [hd];exact h _ (hS.put hdn)
end
section
variable {P:Program}{c:Cx}{n:Nat}{E:Env}{H Hf:Heap}{A:List Res}{a:Act}{w:World}{ops:Array Oper}{R:Act→World→Prop}{Q:Exit→Act→World→Prop}
theorem St.wants {o:Oper}(hS:St c n E H A a w){d:Nat}{x:Bool}(hg:guardSlot ops o=some (d,x))(hl:look E d=some ([],vb x))(hd:d<n):Region.wanted o (yielded ops a.tmps)=true:=
  (wanted_iff hg a (Nat.lt_of_lt_of_le hd hS.size)).2 (hS.env.at (look_mem hl) (fun p hp=>by cases hp))
theorem Runs1.listG {o:Oper}{rest:List Oper}(hS:St c n E H A a w)(d:Nat)(x:Bool)(h:Runs1 P o a w (wpList P ops Q rest))(hd:d<n)(hg:guardSlot ops o=some (d,x):=by rfl)(hl:look E d=some ([],vb x):=by as_aux_lemma=>kernel_rfl):wpList P ops Q (o::rest) a w:=by
  obtain⟨v,w',h1,h2⟩:=h
  unfold wpList
  rw [if_pos (hS.wants hg hl hd)];refine .inl ?_
  unfold Oper.wp
  rw [h1];exact h2
end
section
variable {m:AM}{at_ ord own nx:Int}
theorem wrap_i64_in {x:Int}(h:0≤x∧x≤9223372036854775807):IntKind.wrap .i64 x=x:=i64_in (by omega)
end
section
variable {s:ByteArray}{at_ ord own nx:Int}
end
abbrev Ent:=Int×Int×Int×Int
section
variable {m:AM}{o z i:Int}
end
section
variable {m:AM}{o z:Int}{L:List Ent}
end
section
variable {q:Nat→Bool}{kf:Nat→UInt8}{k n:Nat}
end
section
variable {q:Nat→Bool}{kf:Nat→UInt8}{n:Nat}{m:AM}{x y:Int}
end
theorem HE.fn_none {w:World}{b lo hi o k:Nat}{f f':Nat→Value}(h:HE.holds w b (.fn lo hi f))(hk:k=0):HE.holds w b (.fn o (o+k) f'):=by
  subst hk;obtain⟨c,T,fz,hc,_⟩:=h;exact⟨c,T,fz,hc,fun x h1 h2=>by have h1:o≤x:=h1;have h2:x<o+0:=h2;omega⟩
theorem HE.fn_to {w:World}{b o hi hi':Nat}{f f':Nat→Value}(h:HE.holds w b (.fn o hi f))(e1:hi=hi')(e2:∀x,o≤x→x<hi→f x=f' x):HE.holds w b (.fn o hi' f'):=by
  subst e1;obtain⟨c,T,fz,hc,hf⟩:=h;exact⟨c,T,fz,hc,fun x h1 h2=>(hf x h1 h2).trans (congrArg some (e2 x h1 h2))⟩
theorem HE.row_to {w:World}{b m hi tot:Nat}{e:TypeId}{f f':Nat→Value}(h:HE.holds w b (.row e m tot f))(e1:m=hi)(e2:∀x,x<m→f x=f' x):HE.holds w b (.fn 0 hi f'):=by
  subst e1;obtain⟨c,hc,h1,h2,hf⟩:=h;exact⟨c,e,(0,0),hc,fun x _ h4=>(hf x h4).trans (congrArg some (e2 x h4))⟩
theorem slN {x:Option Addr}{n n' c:Nat}(h:n=n'):(Value.slice x n c)=.slice x n' c:=by rw [h]
section
variable {P:Program}{c:Cx}{n:Nat}{E:Env}{H:Heap}{A:List Res}{a:Act}{w:World}{o:Oper}
theorem WS.addNone (h:WS c H A w)(j:Nat){b lo hi o k:Nat}{f f':Nat→Value}(hk:k=0)(hj:H[j]? =some (b,.fn lo hi f):=by as_aux_lemma=>kernel_rfl):WS c (H++[(b,.fn o (o+k) f')]) A w:=by
  have hm:=List.mem_of_getElem? hj;refine h.add (HE.fn_none (h.heap _ hm) hk) (fun q=>by cases q) (h.free _ hm) (fun e he ho=>?_);obtain⟨i,hi⟩:=List.mem_iff_getElem?.1 he;intro e1;have hoe:e.2.own=true:=ho.resolve_left (fun q=>by cases q)
  by_cases eij:i=j
  · subst eij;rw [hj]at hi;cases hi;cases hoe
  · exact pairwise_get h.apart eij hi hj (.inl hoe) e1
end
def gtD {α:Type}[Inhabited α] (l:List α)(i:Nat):α:=l.getD i default
theorem gtD_lt {α:Type}[Inhabited α] {l:List α}{i:Nat}(h:i<l.length):gtD l i=l[i]:=by
  unfold gtD;rw [List.getD_eq_getElem?_getD,List.getElem?_eq_getElem h];rfl
theorem gtD_app {α:Type}[Inhabited α] (l k:List α)(i:Nat):gtD (l++k) i=if i<l.length then gtD l i else gtD k (i-l.length):=by
  unfold gtD
  simp only [List.getD_eq_getElem?_getD,List.getElem?_append]
  split<;>rfl
section
end
section
end
section
end
section
end
section
end
section
end
section
end
section
end
section
end
section
end
section
end
section
end
section
end
section
end
section
end
section
end
end Go.Proofs.YtojjkjedcafpeaaGreatDoor.K
